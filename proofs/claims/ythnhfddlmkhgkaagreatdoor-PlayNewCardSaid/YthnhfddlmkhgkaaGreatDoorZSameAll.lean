/- Walks: what some functions of the play package and its laws compute, as contracts. -/
import Derived.Test.YthnhfddlmkhgkaaGreatDoorZParse
set_option linter.unusedVariables false
namespace Go.Proofs.YthnhfddlmkhgkaaGreatDoor
open Go.RowKit Go.Proofs.YthnhfddlmkhgkaaGreatDoorW.PrintWords

theorem contains10 (t : Sp.Bs) : Lib.contains t [10] = decide ((10 : UInt8) ∈ t) := by
  unfold Lib.contains
  rw [idx10]
  by_cases h : (10 : UInt8) ∈ t
  · rw [if_pos h, decide_eq_true h]; simp
  · rw [if_neg h, decide_eq_false h]; rfl
theorem has_line (t : Sp.Bs) (w : World) (he : Env w) (hs : t.length ≤ 1048576) : Calls Tryz.prog 56 #[.string (str t), .string ⟨#[10]⟩] w (SRet w (.bool (decide ((10 : UInt8) ∈ t)))) := by
  refine (contains_any (str t) ⟨#[10]⟩ w he (by rw [str_size]; omega)).mono ?_
  rintro e w1 ⟨rfl, hb⟩
  rw [show bl (str t) = t from rfl, show bl (⟨#[10]⟩ : ByteArray) = [10] from rfl, contains10]
  exact ⟨rfl, hb⟩
def PCallPost (w : World) (r : Sp.Call × Nat) (e : Ending) (w' : World) : Prop :=
  ∃ v, e = .returned (.tuple #[.agg (callCells r.1 v).toArray, .int .i64 (r.2 : Int)]) ∧ OU w' w.heap.size v r.1.data ∧ Below w.heap.size w w'

set_option maxHeartbeats 8000000 in
set_option maxRecDepth 100000 in
theorem parseCall_any (t : Sp.Bs) (w : World) (he : Env w) (hs : t.length ≤ 140737488355328) :
    Calls Tryz.prog 28 #[.string (str t)] w (PCallPost w (Sp.parseCall t)) := by
  have HE := Lib.hid he
  clear he
  have hsz : (str t).size = t.length := str_size t
  obtain ⟨W0, hW0⟩ : ∃ W0, W0 = (w.alloc (.cells #[.int .i64 0, .int .i64 0, .int .i64 0, .int .i64 0, .int .i64 0, .string ⟨#[]⟩, .string ⟨#[]⟩, .string ⟨#[]⟩, .slice none 0 0] 51)) := ⟨_, rfl⟩
  have hb0 : Below w.heap.size w W0 := by rw [hW0]; exact (Below.refl _ _).alloc (Nat.le_refl _) _
  have hz0 : ZeroAt W0 w.heap.size := by rw [hW0]; exact heap_alloc_new w _
  by_cases hbig : 1048576 < t.length
  · have HSP : Hid (Sp.parseCall t = ({}, 216)) := Lib.hid (by unfold Sp.parseCall; rw [if_pos hbig])
    rw [hW0] at hb0 hz0
    clear hW0
    go_enter Tryz.func28, Tryz.ntmps28
    go_wp2_with (refine wpList_store_row rfl 51 (.tmp 2) (.tmp 11) rfl w.heap.size (callCells {} (.slice none 0 0)).toArray rfl rfl 51 _ hz0 (by kernel_rfl) rfl (call_one _ rfl) ?_)
    refine bodyPost_ret (results_ct rfl _ _ w.heap.size 51 (callCells {} (.slice none 0 0)).toArray (0, 0) _ rfl (setRow_heap _ _ _ _ _ _ hz0) Tryz.underlying51 rfl (by kernel_rfl)) rfl ?_
    rw [HSP.out]
    exact ⟨_, rfl, ORow.nil _ _ _, setRow_below hb0 (Nat.le_refl _) _⟩
  · have HL1 : Hid (t.length ≤ 1099511627776) := Lib.hid (by omega)
    have HLT : Hid (t.length ≤ 1048576) := Lib.hid (by omega)
    have HW0 := Lib.hid hW0
    have HSP : Sp.parseCall t = match Sp.split t with | none => ({}, 214) | some ws => if (10 : UInt8) ∈ t then ({}, 214) else if (Sp.shaped ws).2 ≠ 0 then ({}, (Sp.shaped ws).2) else Sp.call (Sp.shaped ws).1 ws := by unfold Sp.parseCall; rw [if_neg hbig]; rfl
    cases hspl : Sp.split t with
    | none =>
      have HSPL := Lib.hid hspl
      rw [hspl] at HSP
      have HQ := Lib.hid HSP
      clear HSP hspl hW0
      go_enter Tryz.func28, Tryz.ntmps28
      go_wp2_with (first | (go_at_call 37; rw [← HW0.out]; refine (split_none HSPL.out HL1.out _).mono ?_; rintro e w2 ⟨rfl, hb2⟩; have hz5 := hz0.below hb2; have HB2 := Lib.hid (hb0.trans (hb2.mono hb0.size)); clear hb2; have tk1 := trivial) | (have tq := tk1; refine wpList_store_row rfl 51 (.tmp 2) (.tmp 23) rfl w.heap.size (callCells {} (.slice none 0 0)).toArray rfl rfl 51 _ hz5 (by kernel_rfl) rfl (call_one _ rfl) ?_))
      refine bodyPost_ret (results_ct rfl _ _ w.heap.size 51 (callCells {} (.slice none 0 0)).toArray (0, 0) _ rfl (setRow_heap _ _ _ _ _ _ hz5) Tryz.underlying51 rfl (by kernel_rfl)) rfl ?_
      rw [HQ.out]
      exact ⟨_, rfl, ORow.nil _ _ _, setRow_below HB2.out (Nat.le_refl _) _⟩
    | some ws =>
      have HSPL := Lib.hid hspl
      rw [hspl] at HSP
      have hsl := Sp.split_len _ t (Nat.le_refl _) ws hspl
      have HWS : Hid (∀ x ∈ ws, x.length ≤ 1099511627776) := Lib.hid (fun x hx => by have := hsl.1 x hx; omega)
      have hwl : ws.length ≤ 1099511627776 := by omega
      have HQ0 := Lib.hid HSP
      clear HSP hspl hW0 hsl
      have HC37 : Hid (Calls Tryz.prog 37 #[.string (str t)] W0 (SplitS W0 ws)) := Lib.hid (split_some HSPL.out HL1.out _)
      obtain ⟨tn, htn⟩ : ∃ b, b = decide ((10 : UInt8) ∈ t) := ⟨_, rfl⟩
      have HC56 : Hid (∀ w1, Below w.heap.size w w1 → Calls Tryz.prog 56 #[.string (str t), .string ⟨#[10]⟩] w1 (SRet w1 (.bool tn))) := Lib.hid (fun w1 hb => by rw [htn]; exact has_line t w1 (HE.out.below hb) HLT.out)
      have HTN := Lib.hid htn
      clear htn
      cases tn with
      | true =>
        have HQ : Hid (Sp.parseCall t = ({}, 214)) := Lib.hid (by rw [HQ0.out]; simp only []; rw [if_pos (of_decide_eq_true HTN.out.symm)])
        go_enter Tryz.func28, Tryz.ntmps28
        go_wp2_with (first | (go_at_call 37; rw [← HW0.out]; refine HC37.out.mono ?_; rintro e w2 ⟨A, cap, rfl, hrs, hcap, hb2⟩; have hz5 := hz0.below hb2; have HB2 := Lib.hid (hb0.trans (hb2.mono hb0.size)); clear hb2 hrs hcap; have tk1 := trivial) | (go_at_call 56; refine (HC56.out _ HB2.out).mono ?_; rintro e w3 ⟨rfl, rfl⟩) | (have tq := tk1; refine wpList_store_row rfl 51 (.tmp 2) (.tmp 23) rfl w.heap.size (callCells {} (.slice none 0 0)).toArray rfl rfl 51 _ hz5 (by kernel_rfl) rfl (call_one _ rfl) ?_))
        refine bodyPost_ret (results_ct rfl _ _ w.heap.size 51 (callCells {} (.slice none 0 0)).toArray (0, 0) _ rfl (setRow_heap _ _ _ _ _ _ hz5) Tryz.underlying51 rfl (by kernel_rfl)) rfl ?_
        rw [HQ.out]
        exact ⟨_, rfl, ORow.nil _ _ _, setRow_below HB2.out (Nat.le_refl _) _⟩
      | false =>
        have HQ1 : Hid (Sp.parseCall t = if (Sp.shaped ws).2 ≠ 0 then ({}, (Sp.shaped ws).2) else Sp.call (Sp.shaped ws).1 ws) := Lib.hid (by rw [HQ0.out]; simp only []; rw [if_neg (of_decide_eq_false HTN.out.symm)])
        clear HQ0
        obtain ⟨op, er, hsh⟩ : ∃ op er, Sp.shaped ws = (op, er) := ⟨_, _, rfl⟩
        rw [hsh] at HQ1
        have HC57 : Hid (∀ (A : Option Addr) (cap : Nat) (w1 : World), Below w.heap.size w w1 → ReadS w1 A ws → Calls Tryz.prog 57 #[.slice A ws.length cap] w1 (ShapedPost w1 (op, er))) := Lib.hid (fun A cap w1 hb hr => by rw [← hsh]; exact shaped_any A ws cap w1 (HE.out.below hb) hr hwl)
        have HSH := Lib.hid hsh
        clear hsh hwl
        by_cases he0 : er = 0
        · have T2 : ((er : Int) != 0) = false := by rw [bne_eq_false_iff_eq]; omega
          have hok := shaped_ok (l := ws) (op := op) (by rw [HSH.out, he0])
          obtain ⟨c, e2, hcl⟩ : ∃ c e2, Sp.call op ws = (c, e2) := ⟨_, _, rfl⟩
          have HQ : Hid (Sp.parseCall t = (c, e2)) := Lib.hid (by rw [HQ1.out]; simp [he0, hcl])
          have HC58 : Hid (∀ (A : Option Addr) (cap : Nat) (w1 : World), Below w.heap.size w w1 → ReadS w1 A ws → Calls Tryz.prog 58 #[.int .i64 (op : Int), .slice A ws.length cap] w1 (CallPost w1 (c, e2))) := Lib.hid (fun A cap w1 hb hr => by rw [← hcl]; exact call_any op A ws cap w1 (HE.out.below hb) hr hok.1 hok.2.1 (by omega) HWS.out)
          clear he0 hcl hok
          go_enter Tryz.func28, Tryz.ntmps28
          go_wp2_with (first | (go_at_call 37; rw [← HW0.out]; refine HC37.out.mono ?_; rintro e w2 ⟨A, cap, rfl, hrs, hcap, hb2⟩; have hz5 := hz0.below hb2; have HB2 := Lib.hid (hb0.trans (hb2.mono hb0.size)); have HRS := Lib.hid hrs; clear hb2 hrs hcap) | (go_at_call 56; refine (HC56.out _ HB2.out).mono ?_; rintro e w3 ⟨rfl, rfl⟩) | (go_at_call 57; refine (HC57.out _ _ _ HB2.out HRS.out).mono ?_; rintro e w4 ⟨rfl, hb4⟩; have hz6 := hz5.below hb4; have HB4 := Lib.hid (And.intro (HB2.out.trans (hb4.mono HB2.out.size)) (HRS.out.below hb4)); clear hb4) | (go_at_call 58; refine (HC58.out _ _ _ HB4.out.1 HB4.out.2).mono ?_; rintro e w5 ⟨v, rfl, hv, hb5⟩; have hz7 := hz6.below hb5; have hone := hv.one; have HB5 := Lib.hid (And.intro (HB4.out.1.trans (hb5.mono HB4.out.1.size)) hv); clear hb5 hv; have tk1 := trivial) | (have tq := tk1; refine wpList_store_row rfl 51 (.tmp 2) (.tmp 36) rfl w.heap.size (callCells c v).toArray rfl rfl 51 _ hz7 (by kernel_rfl) rfl (call_one _ hone) ?_))
          refine bodyPost_ret (results_ct rfl _ _ w.heap.size 51 (callCells c v).toArray (0, 0) _ rfl (setRow_heap _ _ _ _ _ _ hz7) Tryz.underlying51 rfl (by kernel_rfl)) rfl ?_
          rw [HQ.out]
          have hlt := row_lt hz5
          exact ⟨v, rfl, (HB5.out.2.lower HB4.out.1.size).step (by simp) (fun k hk => setRow_other _ (show k ≠ w.heap.size by have := (HB5.out.2.lt k hk).1; have := row_lt hz6; omega)), setRow_below HB5.out.1 (Nat.le_refl _) _⟩
        · have T2 : ((er : Int) != 0) = true := by rw [bne_iff_ne]; omega
          have HQ : Hid (Sp.parseCall t = ({}, er)) := Lib.hid (by rw [HQ1.out]; simp [he0])
          clear he0
          go_enter Tryz.func28, Tryz.ntmps28
          go_wp2_with (first | (go_at_call 37; rw [← HW0.out]; refine HC37.out.mono ?_; rintro e w2 ⟨A, cap, rfl, hrs, hcap, hb2⟩; have hz5 := hz0.below hb2; have HB2 := Lib.hid (hb0.trans (hb2.mono hb0.size)); have HRS := Lib.hid hrs; clear hb2 hrs hcap) | (go_at_call 56; refine (HC56.out _ HB2.out).mono ?_; rintro e w3 ⟨rfl, rfl⟩) | (go_at_call 57; refine (HC57.out _ _ _ HB2.out HRS.out).mono ?_; rintro e w4 ⟨rfl, hb4⟩; have hz6 := hz5.below hb4; have HB4 := Lib.hid (HB2.out.trans (hb4.mono HB2.out.size)); clear hb4; have tk1 := trivial) | (have tq := tk1; refine wpList_store_row rfl 51 (.tmp 2) (.tmp 31) rfl w.heap.size (callCells {} (.slice none 0 0)).toArray rfl rfl 51 _ hz6 (by kernel_rfl) rfl (call_one _ rfl) ?_))
          refine bodyPost_ret (results_ct rfl _ _ w.heap.size 51 (callCells {} (.slice none 0 0)).toArray (0, 0) _ rfl (setRow_heap _ _ _ _ _ _ hz6) Tryz.underlying51 rfl (by kernel_rfl)) rfl ?_
          rw [HQ.out]
          exact ⟨_, rfl, ORow.nil _ _ _, setRow_below HB4.out (Nat.le_refl _) _⟩
end Go.Proofs.YthnhfddlmkhgkaaGreatDoor

set_option linter.unusedVariables false
namespace Go.Proofs.YthnhfddlmkhgkaaGreatDoor
open Go.RowKit Go.Proofs.YthnhfddlmkhgkaaGreatDoorW.PrintWords

theorem take_eq_step {α : Type} {a b : List α} {i : Nat} (h : a.take i = b.take i) (ha : i < a.length) (hb : i < b.length) (he : a[i]'ha = b[i]'hb) : a.take (i + 1) = b.take (i + 1) := by
  rw [List.take_succ_eq_append_getElem ha, List.take_succ_eq_append_getElem hb, h, he]
theorem ne_of_at {α : Type} {a b : List α} {i : Nat} (ha : i < a.length) (hb : i < b.length) (he : a[i]'ha ≠ b[i]'hb) : a ≠ b := by
  rintro rfl; exact he rfl

set_option maxHeartbeats 4000000 in
set_option maxRecDepth 100000 in
theorem equal_any (A1 A2 : Option Addr) (l1 l2 : List UInt8) (c1 c2 : Nat) (w : World) (h1 : ReadU w A1 l1) (h2 : ReadU w A2 l2) (hl : l1.length ≤ 140737488355328) :
    Calls Tryz.prog 148 #[.slice A1 l1.length c1, .slice A2 l2.length c2] w (BRet w (.bool (decide (l1 = l2)))) := by
  have HR1 := Lib.hid h1
  have HR2 := Lib.hid h2
  clear h1 h2
  by_cases hlen : l1.length = l2.length
  · have T : ((l1.length : Int) != (l2.length : Int)) = false := by rw [bne_eq_false_iff_eq]; omega
    have HLEN := Lib.hid hlen
    go_enter Tryz.func148, Tryz.ntmps148
    clear hlen
    go_wp2
    go_loopw [13] (fun v13 wr => ∃ (i : Nat), v13 = .int .i64 (i : Int) ∧ i ≤ l1.length ∧ Hid (l1.take i = l2.take i) ∧ Below w.heap.size w wr) (fun v13 _ => l1.length - (intOf v13).toNat)
    case atStart => exact ⟨0, rfl, Nat.zero_le _, Lib.hid (by simp), Below.refl _ _⟩
    case round =>
      obtain ⟨i, rfl, hi, HQ, HB⟩ := hrel
      by_cases hlt : i < l1.length
      · have hlt2 : i < l2.length := by rw [← HLEN.out]; exact hlt
        obtain ⟨a1, hA1, hc1⟩ := (HR1.out.below HB).at_ i hlt
        obtain ⟨a2, hA2, hc2⟩ := (HR2.out.below HB).at_ i hlt2
        obtain ⟨x1, hx1⟩ : ∃ x, x = l1[i]'hlt := ⟨_, rfl⟩
        obtain ⟨x2, hx2⟩ : ∃ x, x = l2[i]'hlt2 := ⟨_, rfl⟩
        rw [← hx1] at hc1
        rw [← hx2] at hc2
        have hc1' : wr.drew.cell? (a1.add i) = some (.int .u8 (x1.toNat : Int)) := hc1
        have hc2' : wr.drew.cell? (a2.add i) = some (.int .u8 (x2.toNat : Int)) := hc2
        have q1 : (0 : Int) ≤ (i : Int) ∧ (i : Int) < (l1.length : Int) := ⟨by omega, by omega⟩
        have q2 : (0 : Int) ≤ (i : Int) ∧ (i : Int) < (l2.length : Int) := ⟨by omega, by omega⟩
        subst hA1
        subst hA2
        have HE : Hid ((x1 = x2 → l1.take (i + 1) = l2.take (i + 1)) ∧ (x1 ≠ x2 → l1 ≠ l2)) := Lib.hid ⟨fun e => take_eq_step HQ.out hlt hlt2 (by rw [← hx1, ← hx2, e]), fun e => ne_of_at hlt hlt2 (by rw [← hx1, ← hx2]; exact e)⟩
        clear hx1 hx2
        go_wp2
        refine region_mix [] [0, 1, 2, 3, 4, 5, 6, 7, 8] [] mixed (by kernel_rfl) (fun _ _ _ _ _ h => h) ?_
        simp only [pick, List.getElem?_cons_zero, List.getElem?_cons_succ]
        refine wpPre_nil ?_
        repeat still_step
        refine wpStill_nil ?_
        have HBd := Lib.hid HB.drew
        clear q1 q2 hc1 hc2 hc1' hc2' HB
        by_cases e : x1 = x2
        · have T3 : ((x1.toNat : Int) != (x2.toNat : Int)) = false := by rw [u8_neb x2 rfl rfl, decide_eq_true e]; rfl
          have HX := Lib.hid e
          clear e
          go_wp2
          go_roundw
          case rel => exact ⟨i + 1, by go_num, by omega, Lib.hid (HE.out.1 HX.out), HBd.out⟩
          case measure => simp [intOf]; omega
        · have T3 : ((x1.toNat : Int) != (x2.toNat : Int)) = true := by rw [u8_neb x2 rfl rfl, decide_eq_false e]; rfl
          have HX := Lib.hid e
          clear e
          go_wp2
          go_ret
          exact ⟨ret_bool (by rw [decide_eq_false (HE.out.2 HX.out)]), HBd.out⟩
      · go_wp2
        go_ret
        refine ⟨ret_bool ?_, HB⟩
        have h := HQ.out
        rw [List.take_of_length_le (by omega), List.take_of_length_le (by have := HLEN.out; omega)] at h
        rw [decide_eq_true h]
  · have T : ((l1.length : Int) != (l2.length : Int)) = true := by rw [bne_iff_ne]; omega
    have hne : Hid (l1 ≠ l2) := Lib.hid (fun e => hlen (by rw [e]))
    clear hlen
    go_enter Tryz.func148, Tryz.ntmps148
    go_wp2
    go_ret
    exact ⟨ret_bool (by rw [decide_eq_false hne.out]), Below.refl _ _⟩
set_option maxHeartbeats 4000000 in
set_option maxRecDepth 100000 in
theorem sameBytes_any (A1 A2 : Option Addr) (l1 l2 : List UInt8) (c1 c2 : Nat) (w : World) (h1 : ReadU w A1 l1) (h2 : ReadU w A2 l2) (hl : l1.length ≤ 140737488355328) :
    Calls Tryz.prog 35 #[.slice A1 l1.length c1, .slice A2 l2.length c2] w (BRet w (.bool (decide (l1 = l2)))) := by
  have HR1 := Lib.hid h1
  have HR2 := Lib.hid h2
  clear h1 h2
  by_cases hlen : l1.length = l2.length
  · have T : ((l1.length : Int) != (l2.length : Int)) = false := by rw [bne_eq_false_iff_eq]; omega
    have HLEN := Lib.hid hlen
    go_enter Tryz.func35, Tryz.ntmps35
    clear hlen
    go_wp2
    go_loopw [5] (fun v13 wr => ∃ (i : Nat), v13 = .int .i64 (i : Int) ∧ i ≤ l1.length ∧ Hid (l1.take i = l2.take i) ∧ Below w.heap.size w wr) (fun v13 _ => l1.length - (intOf v13).toNat)
    case atStart => exact ⟨0, rfl, Nat.zero_le _, Lib.hid (by simp), Below.refl _ _⟩
    case round =>
      obtain ⟨i, rfl, hi, HQ, HB⟩ := hrel
      by_cases hlt : i < l1.length
      · have hlt2 : i < l2.length := by rw [← HLEN.out]; exact hlt
        obtain ⟨a1, hA1, hc1⟩ := (HR1.out.below HB).at_ i hlt
        obtain ⟨a2, hA2, hc2⟩ := (HR2.out.below HB).at_ i hlt2
        obtain ⟨x1, hx1⟩ : ∃ x, x = l1[i]'hlt := ⟨_, rfl⟩
        obtain ⟨x2, hx2⟩ : ∃ x, x = l2[i]'hlt2 := ⟨_, rfl⟩
        rw [← hx1] at hc1
        rw [← hx2] at hc2
        have hc1' : wr.drew.cell? (a1.add i) = some (.int .u8 (x1.toNat : Int)) := hc1
        have hc2' : wr.drew.cell? (a2.add i) = some (.int .u8 (x2.toNat : Int)) := hc2
        have q1 : (0 : Int) ≤ (i : Int) ∧ (i : Int) < (l1.length : Int) := ⟨by omega, by omega⟩
        have q2 : (0 : Int) ≤ (i : Int) ∧ (i : Int) < (l2.length : Int) := ⟨by omega, by omega⟩
        subst hA1
        subst hA2
        have HE : Hid ((x1 = x2 → l1.take (i + 1) = l2.take (i + 1)) ∧ (x1 ≠ x2 → l1 ≠ l2)) := Lib.hid ⟨fun e => take_eq_step HQ.out hlt hlt2 (by rw [← hx1, ← hx2, e]), fun e => ne_of_at hlt hlt2 (by rw [← hx1, ← hx2]; exact e)⟩
        clear hx1 hx2
        go_wp2
        refine region_mix [] [0, 1, 2, 3, 4, 5, 6, 7, 8] [] mixed (by kernel_rfl) (fun _ _ _ _ _ h => h) ?_
        simp only [pick, List.getElem?_cons_zero, List.getElem?_cons_succ]
        refine wpPre_nil ?_
        repeat still_step
        refine wpStill_nil ?_
        have HBd := Lib.hid HB.drew
        clear q1 q2 hc1 hc2 hc1' hc2' HB
        by_cases e : x1 = x2
        · have T3 : ((x1.toNat : Int) != (x2.toNat : Int)) = false := by rw [u8_neb x2 rfl rfl, decide_eq_true e]; rfl
          have HX := Lib.hid e
          clear e
          go_wp2
          go_roundw
          case rel => exact ⟨i + 1, by go_num, by omega, Lib.hid (HE.out.1 HX.out), HBd.out⟩
          case measure => simp [intOf]; omega
        · have T3 : ((x1.toNat : Int) != (x2.toNat : Int)) = true := by rw [u8_neb x2 rfl rfl, decide_eq_false e]; rfl
          have HX := Lib.hid e
          clear e
          go_wp2
          go_ret
          exact ⟨ret_bool (by rw [decide_eq_false (HE.out.2 HX.out)]), HBd.out⟩
      · go_wp2
        go_ret
        refine ⟨ret_bool ?_, HB⟩
        have h := HQ.out
        rw [List.take_of_length_le (by omega), List.take_of_length_le (by have := HLEN.out; omega)] at h
        rw [decide_eq_true h]
  · have T : ((l1.length : Int) != (l2.length : Int)) = true := by rw [bne_iff_ne]; omega
    have hne : Hid (l1 ≠ l2) := Lib.hid (fun e => hlen (by rw [e]))
    clear hlen
    go_enter Tryz.func35, Tryz.ntmps35
    go_wp2
    go_ret
    exact ⟨ret_bool (by rw [decide_eq_false hne.out]), Below.refl _ _⟩
set_option maxHeartbeats 4000000 in
set_option maxRecDepth 100000 in
theorem bools_any (A1 A2 : Option Addr) (l1 l2 : List Bool) (c1 c2 : Nat) (w : World) (h1 : ReadB w A1 l1) (h2 : ReadB w A2 l2) (hl : l1.length ≤ 140737488355328) :
    Calls Tryz.prog 87 #[.slice A1 l1.length c1, .slice A2 l2.length c2] w (BRet w (.bool (decide (l1 = l2)))) := by
  have HR1 := Lib.hid h1
  have HR2 := Lib.hid h2
  clear h1 h2
  by_cases hlen : l1.length = l2.length
  · have T : ((l1.length : Int) != (l2.length : Int)) = false := by rw [bne_eq_false_iff_eq]; omega
    have HLEN := Lib.hid hlen
    go_enter Tryz.func87, Tryz.ntmps87
    clear hlen
    go_wp2
    go_loopw [5] (fun v13 wr => ∃ (i : Nat), v13 = .int .i64 (i : Int) ∧ i ≤ l1.length ∧ Hid (l1.take i = l2.take i) ∧ Below w.heap.size w wr) (fun v13 _ => l1.length - (intOf v13).toNat)
    case atStart => exact ⟨0, rfl, Nat.zero_le _, Lib.hid (by simp), Below.refl _ _⟩
    case round =>
      obtain ⟨i, rfl, hi, HQ, HB⟩ := hrel
      by_cases hlt : i < l1.length
      · have hlt2 : i < l2.length := by rw [← HLEN.out]; exact hlt
        obtain ⟨a1, hA1, hc1⟩ := (HR1.out.below HB).at_ i hlt
        obtain ⟨a2, hA2, hc2⟩ := (HR2.out.below HB).at_ i hlt2
        obtain ⟨x1, hx1⟩ : ∃ x, x = l1[i]'hlt := ⟨_, rfl⟩
        obtain ⟨x2, hx2⟩ : ∃ x, x = l2[i]'hlt2 := ⟨_, rfl⟩
        rw [← hx1] at hc1
        rw [← hx2] at hc2
        have hc1' : wr.drew.cell? (a1.add i) = some (.bool x1) := hc1
        have hc2' : wr.drew.cell? (a2.add i) = some (.bool x2) := hc2
        have q1 : (0 : Int) ≤ (i : Int) ∧ (i : Int) < (l1.length : Int) := ⟨by omega, by omega⟩
        have q2 : (0 : Int) ≤ (i : Int) ∧ (i : Int) < (l2.length : Int) := ⟨by omega, by omega⟩
        subst hA1
        subst hA2
        have HE : Hid ((x1 = x2 → l1.take (i + 1) = l2.take (i + 1)) ∧ (x1 ≠ x2 → l1 ≠ l2)) := Lib.hid ⟨fun e => take_eq_step HQ.out hlt hlt2 (by rw [← hx1, ← hx2, e]), fun e => ne_of_at hlt hlt2 (by rw [← hx1, ← hx2]; exact e)⟩
        clear hx1 hx2
        go_wp2
        refine region_mix [] [0, 1, 2, 3, 4, 5, 6, 7, 8] [] mixed (by kernel_rfl) (fun _ _ _ _ _ h => h) ?_
        simp only [pick, List.getElem?_cons_zero, List.getElem?_cons_succ]
        refine wpPre_nil ?_
        repeat still_step
        refine wpStill_nil ?_
        have HBd := Lib.hid HB.drew
        clear q1 q2 hc1 hc2 hc1' hc2' HB
        cases x1 <;> cases x2
        · go_wp2
          go_roundw
          case rel => exact ⟨i + 1, by go_num, by omega, Lib.hid (HE.out.1 rfl), HBd.out⟩
          case measure => simp [intOf]; omega
        · go_wp2
          go_ret
          exact ⟨ret_bool (by rw [decide_eq_false (HE.out.2 (by simp))]), HBd.out⟩
        · go_wp2
          go_ret
          exact ⟨ret_bool (by rw [decide_eq_false (HE.out.2 (by simp))]), HBd.out⟩
        · go_wp2
          go_roundw
          case rel => exact ⟨i + 1, by go_num, by omega, Lib.hid (HE.out.1 rfl), HBd.out⟩
          case measure => simp [intOf]; omega
      · go_wp2
        go_ret
        refine ⟨ret_bool ?_, HB⟩
        have h := HQ.out
        rw [List.take_of_length_le (by omega), List.take_of_length_le (by have := HLEN.out; omega)] at h
        rw [decide_eq_true h]
  · have T : ((l1.length : Int) != (l2.length : Int)) = true := by rw [bne_iff_ne]; omega
    have hne : Hid (l1 ≠ l2) := Lib.hid (fun e => hlen (by rw [e]))
    clear hlen
    go_enter Tryz.func87, Tryz.ntmps87
    go_wp2
    go_ret
    exact ⟨ret_bool (by rw [decide_eq_false hne.out]), Below.refl _ _⟩
end Go.Proofs.YthnhfddlmkhgkaaGreatDoor

set_option linter.unusedVariables false
namespace Go.Proofs.YthnhfddlmkhgkaaGreatDoor
open Go.RowKit Go.Proofs.YthnhfddlmkhgkaaGreatDoorW.PrintWords

theorem call_ext (a b : Sp.Call) : a = b ↔ a.data = b.data ∧ a.op = b.op ∧ a.h = b.h ∧ a.h2 = b.h2 ∧ a.off = b.off ∧ a.len = b.len ∧ a.path = b.path ∧ a.name = b.name ∧ a.name2 = b.name2 := by
  constructor
  · rintro rfl; simp
  · intro h
    cases a; cases b
    simp only [Sp.Call.mk.injEq] at *
    obtain ⟨h1, h2, h3, h4, h5, h6, h7, h8, h9⟩ := h
    exact ⟨h2, h3, h4, h5, h6, h7, h8, h9, h1⟩
/-- a call that is read, as a value -/
def CallV (w : World) (c : Sp.Call) (v : Value) : Prop := ∃ A k, v = .slice A c.data.length k ∧ ReadU w A c.data
theorem call_cells {w : World} {g : Nat} {c : Sp.Call} {v : Value} (h : w.heap[g]? = some (.cells (callCells c v).toArray 51 (0, 0))) : w.cell? ⟨g, 0, none⟩ = some (.int .i64 c.op) ∧ w.cell? ⟨g, 1, none⟩ = some (.int .i64 c.h) ∧ w.cell? ⟨g, 2, none⟩ = some (.int .i64 c.h2) ∧ w.cell? ⟨g, 3, none⟩ = some (.int .i64 c.off) ∧ w.cell? ⟨g, 4, none⟩ = some (.int .i64 c.len) ∧ w.cell? ⟨g, 5, none⟩ = some (.string (str c.path)) ∧ w.cell? ⟨g, 6, none⟩ = some (.string (str c.name)) ∧ w.cell? ⟨g, 7, none⟩ = some (.string (str c.name2)) ∧ w.cell? ⟨g, 8, none⟩ = some v := by
  refine ⟨?_, ?_, ?_, ?_, ?_, ?_, ?_, ?_, ?_⟩ <;> (rw [cell_of_row _ _ _ _ _ _ h]; rfl)
/-- two calls laid into boxes -/
def box2 (w : World) (a b : Sp.Call) (va vb : Value) : World := (w.alloc (.cells (callCells a va).toArray 51)).alloc (.cells (callCells b vb).toArray 51)
theorem box2_below (w : World) (a b : Sp.Call) (va vb : Value) : Below w.heap.size w (box2 w a b va vb) := ((Below.refl _ _).alloc (Nat.le_refl _) _).alloc (by simp) _
theorem box2_rows {w w1 : World} {a b : Sp.Call} {va vb : Value} (h : Below (box2 w a b va vb).heap.size (box2 w a b va vb) w1) : w1.heap[w.heap.size]? = some (.cells (callCells a va).toArray 51 (0, 0)) ∧ w1.heap[w.heap.size + 1]? = some (.cells (callCells b vb).toArray 51 (0, 0)) := by
  have h2 : (box2 w a b va vb).heap[w.heap.size + 1]? = some (.cells (callCells b vb).toArray 51 (0, 0)) := by
    have q := heap_alloc_new (w.alloc (.cells (callCells a va).toArray 51)) (.cells (callCells b vb).toArray 51)
    rw [World.size_alloc] at q
    exact q
  have h1 : (box2 w a b va vb).heap[w.heap.size]? = some (.cells (callCells a va).toArray 51 (0, 0)) := (heap_alloc_old _ _ (by simp)).trans (heap_alloc_new w _)
  exact ⟨(h.block _ (row_lt h1)).trans h1, (h.block _ (row_lt h2)).trans h2⟩
set_option maxHeartbeats 8000000 in
set_option maxRecDepth 100000 in
theorem sameCall_any (a b : Sp.Call) (va vb : Value) (w : World) (ha : CallV w a va) (hb : CallV w b vb) (hl : a.data.length ≤ 140737488355328) :
    Calls Tryz.prog 27 #[.agg (callCells a va).toArray, .agg (callCells b vb).toArray] w (BRet w (.bool (decide (a = b)))) := by
  obtain ⟨A, ka, rfl, hra⟩ := ha
  obtain ⟨B, kb, rfl, hrb⟩ := hb
  have HC : Hid (∀ w1, Below w.heap.size w w1 → Calls Tryz.prog 35 #[.slice A a.data.length ka, .slice B b.data.length kb] w1 (BRet w1 (.bool (decide (a.data = b.data))))) := Lib.hid (fun w1 h => sameBytes_any _ _ _ _ _ _ w1 (hra.below h) (hrb.below h) hl)
  obtain ⟨r, hr⟩ : ∃ r, r = decide (a = b) := ⟨_, rfl⟩
  rw [← hr]
  have HR := Lib.hid hr
  have TP := str_eqb a.path b.path
  have TN := str_eqb a.name b.name
  have TM := str_eqb a.name2 b.name2
  clear hr hra hrb
  show Calls Tryz.prog 27 #[.agg #[.int .i64 a.op, .int .i64 a.h, .int .i64 a.h2, .int .i64 a.off, .int .i64 a.len, .string (str a.path), .string (str a.name), .string (str a.name2), .slice A a.data.length ka], .agg #[.int .i64 b.op, .int .i64 b.h, .int .i64 b.h2, .int .i64 b.off, .int .i64 b.len, .string (str b.path), .string (str b.name), .string (str b.name2), .slice B b.data.length kb]] w _
  have hbb := box2_below w a b (.slice A a.data.length ka) (.slice B b.data.length kb)
  have HB2 : Hid (∀ w1, Below (box2 w a b (.slice A a.data.length ka) (.slice B b.data.length kb)).heap.size (box2 w a b (.slice A a.data.length ka) (.slice B b.data.length kb)) w1 → _ ∧ _) := Lib.hid (fun w1 h => box2_rows h)
  have HBB := Lib.hid hbb
  clear hbb
  go_enter Tryz.func27, Tryz.ntmps27
  go_wp2_with (go_at_call 35; refine (HC.out (box2 w a b (.slice A a.data.length ka) (.slice B b.data.length kb)) HBB.out).mono ?_; rintro e w1 ⟨rfl, hb1⟩; obtain ⟨r1, r2⟩ := HB2.out w1 hb1; obtain ⟨x0, x1, x2, x3, x4, x5, x6, x7, x8⟩ := call_cells r1; obtain ⟨y0, y1, y2, y3, y4, y5, y6, y7, y8⟩ := call_cells r2; have HB := Lib.hid (HBB.out.trans (hb1.mono HBB.out.size)); clear hb1 r1 r2 x8 y8)
  all_goals go_ret
  all_goals (refine ⟨ret_bool ?_, HB.out⟩; have hce := decide_eq_true_iff.trans (call_ext a b); rw [HR.out, Bool.eq_iff_iff]; refine Iff.trans ?_ hce.symm; clear hce HR HB HB2 HBB HC TP TN TM x0 x1 x2 x3 x4 x5 x6 x7 y0 y1 y2 y3 y4 y5 y6 y7)
  all_goals (simp [*])
set_option maxHeartbeats 8000000 in
set_option maxRecDepth 100000 in
theorem playSame_any (a b : Sp.Call) (va vb : Value) (w : World) (ha : CallV w a va) (hb : CallV w b vb) (hl : a.data.length ≤ 140737488355328) :
    Calls Tryz.prog 101 #[.agg (callCells a va).toArray, .agg (callCells b vb).toArray] w (BRet w (.bool (decide (a = b)))) := by
  obtain ⟨A, ka, rfl, hra⟩ := ha
  obtain ⟨B, kb, rfl, hrb⟩ := hb
  have HC : Hid (∀ w1, Below w.heap.size w w1 → Calls Tryz.prog 148 #[.slice A a.data.length ka, .slice B b.data.length kb] w1 (BRet w1 (.bool (decide (a.data = b.data))))) := Lib.hid (fun w1 h => equal_any _ _ _ _ _ _ w1 (hra.below h) (hrb.below h) hl)
  obtain ⟨r, hr⟩ : ∃ r, r = decide (a = b) := ⟨_, rfl⟩
  rw [← hr]
  have HR := Lib.hid hr
  have TP := str_eqb a.path b.path
  have TN := str_eqb a.name b.name
  have TM := str_eqb a.name2 b.name2
  obtain ⟨bp, hbp⟩ : ∃ x, x = decide (a.path = b.path) := ⟨_, rfl⟩
  obtain ⟨bn, hbn⟩ : ∃ x, x = decide (a.name = b.name) := ⟨_, rfl⟩
  obtain ⟨bm, hbm⟩ : ∃ x, x = decide (a.name2 = b.name2) := ⟨_, rfl⟩
  rw [← hbp] at TP
  rw [← hbn] at TN
  rw [← hbm] at TM
  have HPP := Lib.hid (And.intro hbp (And.intro hbn hbm))
  clear hbp hbn hbm
  clear hr hra hrb
  show Calls Tryz.prog 101 #[.agg #[.int .i64 a.op, .int .i64 a.h, .int .i64 a.h2, .int .i64 a.off, .int .i64 a.len, .string (str a.path), .string (str a.name), .string (str a.name2), .slice A a.data.length ka], .agg #[.int .i64 b.op, .int .i64 b.h, .int .i64 b.h2, .int .i64 b.off, .int .i64 b.len, .string (str b.path), .string (str b.name), .string (str b.name2), .slice B b.data.length kb]] w _
  have hbb := box2_below w a b (.slice A a.data.length ka) (.slice B b.data.length kb)
  have HB2 : Hid (∀ w1, Below (box2 w a b (.slice A a.data.length ka) (.slice B b.data.length kb)).heap.size (box2 w a b (.slice A a.data.length ka) (.slice B b.data.length kb)) w1 → _ ∧ _) := Lib.hid (fun w1 h => box2_rows h)
  have HBB := Lib.hid hbb
  clear hbb
  go_enter Tryz.func101, Tryz.ntmps101
  go_wp2_with (go_at_call 148; refine (HC.out (box2 w a b (.slice A a.data.length ka) (.slice B b.data.length kb)) HBB.out).mono ?_; rintro e w1 ⟨rfl, hb1⟩; obtain ⟨r1, r2⟩ := HB2.out w1 hb1; obtain ⟨x0, x1, x2, x3, x4, x5, x6, x7, x8⟩ := call_cells r1; obtain ⟨y0, y1, y2, y3, y4, y5, y6, y7, y8⟩ := call_cells r2; have HB := Lib.hid (HBB.out.trans (hb1.mono HBB.out.size)); clear hb1 r1 r2 x8 y8)
  all_goals go_ret
  all_goals (refine ⟨ret_bool ?_, by first | exact HB.out | exact HBB.out⟩; have hce := decide_eq_true_iff.trans (call_ext a b); rw [HR.out, Bool.eq_iff_iff]; refine Iff.trans ?_ hce.symm; clear hce HR HB2 HBB HC TP TN TM)
  all_goals (obtain ⟨p1, p2, p3⟩ := HPP.out; clear HPP; subst p1 p2 p3; simp_all)
end Go.Proofs.YthnhfddlmkhgkaaGreatDoor

set_option linter.unusedVariables false
namespace Go.Proofs.YthnhfddlmkhgkaaGreatDoor
open Go.RowKit Go.Proofs.YthnhfddlmkhgkaaGreatDoorW.PrintWords

theorem list8 {A B : List Int} (ha : A.length = 8) (hb : B.length = 8) : ∃ a0 a1 a2 a3 a4 a5 a6 a7 b0 b1 b2 b3 b4 b5 b6 b7, A = [a0, a1, a2, a3, a4, a5, a6, a7] ∧ B = [b0, b1, b2, b3, b4, b5, b6, b7] := by
  match A, ha, B, hb with
  | [a0, a1, a2, a3, a4, a5, a6, a7], _, [b0, b1, b2, b3, b4, b5, b6, b7], _ => exact ⟨a0, a1, a2, a3, a4, a5, a6, a7, b0, b1, b2, b3, b4, b5, b6, b7, rfl, rfl⟩
set_option maxHeartbeats 4000000 in
set_option maxRecDepth 100000 in
theorem sameShape_any (A B : List Int) (w : World) (ha : A.length = 8) (hb : B.length = 8) :
    Calls Tryz.prog 43 #[.agg (A.map (Value.int .i64)).toArray, .agg (B.map (Value.int .i64)).toArray] w (BRet w (.bool (decide (A = B)))) := by
  obtain ⟨a0, a1, a2, a3, a4, a5, a6, a7, b0, b1, b2, b3, b4, b5, b6, b7, rfl, rfl⟩ := list8 ha hb
  clear ha hb
  obtain ⟨r, hr⟩ : ∃ r, r = decide ([a0, a1, a2, a3, a4, a5, a6, a7] = [b0, b1, b2, b3, b4, b5, b6, b7]) := ⟨_, rfl⟩
  rw [← hr]
  have HR := Lib.hid hr
  clear hr
  show Calls Tryz.prog 43 #[.agg #[.int .i64 a0, .int .i64 a1, .int .i64 a2, .int .i64 a3, .int .i64 a4, .int .i64 a5, .int .i64 a6, .int .i64 a7], .agg #[.int .i64 b0, .int .i64 b1, .int .i64 b2, .int .i64 b3, .int .i64 b4, .int .i64 b5, .int .i64 b6, .int .i64 b7]] w _
  have HBB : Hid (∀ c1 c2, Below w.heap.size w ((w.alloc (.cells c1 23)).alloc (.cells c2 23))) := Lib.hid (fun c1 c2 => ((Below.refl _ _).alloc (Nat.le_refl _) _).alloc (by simp) _)
  go_enter Tryz.func43, Tryz.ntmps43
  go_wp2
  all_goals go_ret
  all_goals (refine ⟨ret_bool ?_, HBB.out _ _⟩; rw [HR.out, Bool.eq_iff_iff, decide_eq_true_iff]; clear HR HBB; simp_all)
theorem op_ext (a b : Sp.Op) : a = b ↔ a.call = b.call ∧ a.data = b.data ∧ a.keep = b.keep ∧ a.kind = b.kind ∧ a.a = b.a ∧ a.k = b.k ∧ a.m = b.m ∧ a.x = b.x := by
  constructor
  · rintro rfl; simp
  · intro h
    cases a; cases b
    simp only [Sp.Op.mk.injEq] at *
    obtain ⟨h1, h2, h3, h4, h5, h6, h7, h8⟩ := h
    exact ⟨h4, h5, h6, h7, h8, h1, h2, h3⟩
/-- a step that is read, as values -/
def OpV (w : World) (o : Sp.Op) (v1 v2 v3 : Value) : Prop := CallV w o.call v1 ∧ (∃ A k, v2 = .slice A o.data.length k ∧ ReadU w A o.data) ∧ ∃ A k, v3 = .slice A o.keep.length k ∧ ReadB w A o.keep
theorem op_cells {w : World} {g : Nat} {o : Sp.Op} {v1 v2 v3 : Value} (h : w.heap[g]? = some (.cells (opCells o v1 v2 v3).toArray 80 (0, 0))) : w.cell? ⟨g, 0, none⟩ = some (.int .i64 o.kind) ∧ w.cell? ⟨g, 1, none⟩ = some (.int .i64 o.a) ∧ w.cell? ⟨g, 2, none⟩ = some (.int .i64 o.k) ∧ w.cell? ⟨g, 3, none⟩ = some (.int .i64 o.m) ∧ w.cell? ⟨g, 4, none⟩ = some (.int .i64 o.x) ∧ w.cell? ⟨g, 14, none⟩ = some v2 ∧ w.cell? ⟨g, 15, none⟩ = some v3 := by
  refine ⟨?_, ?_, ?_, ?_, ?_, ?_, ?_⟩ <;> (rw [cell_of_row _ _ _ _ _ _ h]; rfl)
/-- two steps laid into boxes -/
def obox2 (w : World) (a b : Sp.Op) (u1 u2 u3 v1 v2 v3 : Value) : World := (w.alloc (.cells (opCells a u1 u2 u3).toArray 80)).alloc (.cells (opCells b v1 v2 v3).toArray 80)
theorem obox2_below (w : World) (a b : Sp.Op) (u1 u2 u3 v1 v2 v3 : Value) : Below w.heap.size w (obox2 w a b u1 u2 u3 v1 v2 v3) := ((Below.refl _ _).alloc (Nat.le_refl _) _).alloc (by simp) _
theorem obox2_rows (w : World) (a b : Sp.Op) (u1 u2 u3 v1 v2 v3 : Value) : (obox2 w a b u1 u2 u3 v1 v2 v3).heap[w.heap.size]? = some (.cells (opCells a u1 u2 u3).toArray 80 (0, 0)) ∧ (obox2 w a b u1 u2 u3 v1 v2 v3).heap[w.heap.size + 1]? = some (.cells (opCells b v1 v2 v3).toArray 80 (0, 0)) := by
  have h2 : (obox2 w a b u1 u2 u3 v1 v2 v3).heap[w.heap.size + 1]? = some (.cells (opCells b v1 v2 v3).toArray 80 (0, 0)) := by
    have q := heap_alloc_new (w.alloc (.cells (opCells a u1 u2 u3).toArray 80)) (.cells (opCells b v1 v2 v3).toArray 80)
    rw [World.size_alloc] at q
    exact q
  exact ⟨(heap_alloc_old _ _ (by simp)).trans (heap_alloc_new w _), h2⟩
set_option maxHeartbeats 8000000 in
set_option maxRecDepth 100000 in
theorem sameOp_any (a b : Sp.Op) (u1 u2 u3 v1 v2 v3 : Value) (w : World) (ha : OpV w a u1 u2 u3) (hb : OpV w b v1 v2 v3) (hl : a.data.length ≤ 140737488355328) (hl2 : a.keep.length ≤ 140737488355328) (hl3 : a.call.data.length ≤ 140737488355328) :
    Calls Tryz.prog 44 #[.agg (opCells a u1 u2 u3).toArray, .agg (opCells b v1 v2 v3).toArray] w (BRet w (.bool (decide (a = b)))) := by
  obtain ⟨hac, ⟨A2, j2, hu2, hra2⟩, A3, j3, hu3, hra3⟩ := ha
  obtain ⟨hbc, ⟨B2, k2, hv2, hrb2⟩, B3, k3, hv3, hrb3⟩ := hb
  obtain ⟨A1, j1, hu1, hra1⟩ := hac
  obtain ⟨B1, k1, hv1, hrb1⟩ := hbc
  obtain ⟨bc, hbc⟩ : ∃ x, x = decide (a.call = b.call) := ⟨_, rfl⟩
  obtain ⟨bd, hbd⟩ : ∃ x, x = decide (a.data = b.data) := ⟨_, rfl⟩
  obtain ⟨bk, hbk⟩ : ∃ x, x = decide (a.keep = b.keep) := ⟨_, rfl⟩
  have HC : Hid (∀ w1, Below w.heap.size w w1 → Calls Tryz.prog 27 #[.agg (callCells a.call u1).toArray, .agg (callCells b.call v1).toArray] w1 (BRet w1 (.bool bc))) := Lib.hid (fun w1 h => by
    rw [hbc]; exact sameCall_any a.call b.call u1 v1 w1 ⟨A1, j1, hu1, hra1.below h⟩ ⟨B1, k1, hv1, hrb1.below h⟩ hl3)
  have HD : Hid (∀ w1, Below w.heap.size w w1 → Calls Tryz.prog 35 #[u2, v2] w1 (BRet w1 (.bool bd))) := Lib.hid (fun w1 h => by
    rw [hbd, hu2, hv2]; exact sameBytes_any _ _ _ _ _ _ w1 (hra2.below h) (hrb2.below h) hl)
  have HK : Hid (∀ w1, Below w.heap.size w w1 → Calls Tryz.prog 87 #[u3, v3] w1 (BRet w1 (.bool bk))) := Lib.hid (fun w1 h => by
    rw [hbk, hu3, hv3]; exact bools_any _ _ _ _ _ _ w1 (hra3.below h) (hrb3.below h) hl2)
  have HPP := Lib.hid (And.intro hbc (And.intro hbd hbk))
  obtain ⟨r, hr⟩ : ∃ r, r = decide (a = b) := ⟨_, rfl⟩
  rw [← hr]
  have HR := Lib.hid hr
  have HB0 := Lib.hid (obox2_below w a b u1 u2 u3 v1 v2 v3)
  have HRW := Lib.hid (obox2_rows w a b u1 u2 u3 v1 v2 v3)
  clear hr hbc hbd hbk hra1 hra2 hra3 hrb1 hrb2 hrb3 hl hl2 hl3 hu1 hu2 hu3 hv1 hv2 hv3
  show Calls Tryz.prog 44 #[.agg #[.int .i64 a.kind, .int .i64 a.a, .int .i64 a.k, .int .i64 a.m, .int .i64 a.x, .int .i64 a.call.op, .int .i64 a.call.h, .int .i64 a.call.h2, .int .i64 a.call.off, .int .i64 a.call.len, .string (str a.call.path), .string (str a.call.name), .string (str a.call.name2), u1, u2, u3], .agg #[.int .i64 b.kind, .int .i64 b.a, .int .i64 b.k, .int .i64 b.m, .int .i64 b.x, .int .i64 b.call.op, .int .i64 b.call.h, .int .i64 b.call.h2, .int .i64 b.call.off, .int .i64 b.call.len, .string (str b.call.path), .string (str b.call.name), .string (str b.call.name2), v1, v2, v3]] w _
  go_enter Tryz.func44, Tryz.ntmps44
  go_wp2_with (first | (go_at_call 27; refine (HC.out (obox2 w a b u1 u2 u3 v1 v2 v3) HB0.out).mono ?_; rintro e w1 ⟨rfl, hb1⟩; obtain ⟨x0, x1, x2, x3, x4, x5, x6⟩ := op_cells ((hb1.block _ (row_lt HRW.out.1)).trans HRW.out.1); obtain ⟨y0, y1, y2, y3, y4, y5, y6⟩ := op_cells ((hb1.block _ (row_lt HRW.out.2)).trans HRW.out.2); have HB1 := Lib.hid (HB0.out.trans (hb1.mono HB0.out.size)); have R1 := Lib.hid (And.intro ((hb1.block _ (row_lt HRW.out.1)).trans HRW.out.1) ((hb1.block _ (row_lt HRW.out.2)).trans HRW.out.2)); clear hb1)  | (go_at_call 35; refine (HD.out w1 HB1.out).mono ?_; rintro e w2 ⟨rfl, hb2⟩; obtain ⟨s0, s1, s2, s3, s4, s5, s6⟩ := op_cells ((hb2.block _ (row_lt R1.out.1)).trans R1.out.1); obtain ⟨t0, t1, t2, t3, t4, t5, t6⟩ := op_cells ((hb2.block _ (row_lt R1.out.2)).trans R1.out.2); have HB2 := Lib.hid (HB1.out.trans (hb2.mono HB1.out.size)); have R2 := Lib.hid (And.intro ((hb2.block _ (row_lt R1.out.1)).trans R1.out.1) ((hb2.block _ (row_lt R1.out.2)).trans R1.out.2)); clear hb2 x0 x1 x2 x3 x4 x5 x6 y0 y1 y2 y3 y4 y5 y6)  | (go_at_call 87; refine (HK.out w2 HB2.out).mono ?_; rintro e w3 ⟨rfl, hb3⟩; obtain ⟨x0, x1, x2, x3, x4, x5, x6⟩ := op_cells ((hb3.block _ (row_lt R2.out.1)).trans R2.out.1); obtain ⟨y0, y1, y2, y3, y4, y5, y6⟩ := op_cells ((hb3.block _ (row_lt R2.out.2)).trans R2.out.2); have HB3 := Lib.hid (HB2.out.trans (hb3.mono HB2.out.size)); clear hb3 s0 s1 s2 s3 s4 s5 s6 t0 t1 t2 t3 t4 t5 t6))
  all_goals go_ret
  all_goals (refine ⟨ret_bool ?_, HB3.out⟩; have hce := decide_eq_true_iff.trans (op_ext a b); rw [HR.out, Bool.eq_iff_iff]; refine Iff.trans ?_ hce.symm; clear hce HR HC HD HK x0 x1 x2 x3 x4 x5 x6 y0 y1 y2 y3 y4 y5 y6)
  all_goals (obtain ⟨p1, p2, p3⟩ := HPP.out; clear HPP; subst p1 p2 p3; simp_all)
end Go.Proofs.YthnhfddlmkhgkaaGreatDoor

set_option linter.unusedVariables false
namespace Go.Proofs.YthnhfddlmkhgkaaGreatDoor
open Go.RowKit Go.Proofs.YthnhfddlmkhgkaaGreatDoorW.PrintWords

/-- a whole struct or array from any address -/
theorem run_loadAt_any {P : Program} (w : World) (p : Addr) (ty : TypeId) (cs : List Value) (d : TypeDesc) (hc : ∀ j v, cs[j]? = some v → w.cell? (p.add j) = some v)
    (hu : P.underlying ty = some d) (hd : d.isRow = true) (hi : (P.info? ty).map (·.size) = some cs.length) :
    (Instr.loadAt ty (.pointer (some p))).run P w = .ok (.agg cs.toArray) w := by
  have hl : (loadCells p cs.length).run P w = .ok cs.toArray w := run_loadCells_list (P := P) w p cs hc
  have h : (loadVar ty p).run P w = .ok (.agg cs.toArray) w := by
    cases hq : P.info? ty with
    | none => simp [hq] at hi
    | some i =>
      have hs : i.size = cs.length := by simpa [hq] using hi
      have hagg : (isAgg ty).run P w = .ok true w := by
        unfold isAgg
        rw [Sem.run_bind, run_underlying hu w]
        cases d <;> simp_all
      simp [loadVar, Sem.run_bind, hagg, sizeOf, typeInfo, hq, hs, hl]
  simp only [Instr.loadAt, Instr.sureAddr, Sem.run_bind, Sem.run_pure, Result.andThen_ok, h]
/-- a row of steps that is read -/
abbrev ReadO (w : World) (A : Option Addr) (l : List Sp.Op) : Prop := ko.C w A l.length l
theorem ReadO.below {w w1 : World} {A : Option Addr} {l : List Sp.Op} (h : ReadO w A l) (hb : Below w.heap.size w w1) : ReadO w1 A l := Kd.C_below h hb
theorem ReadO.at_ {w : World} {A : Option Addr} {l : List Sp.Op} (h : ReadO w A l) (k : Nat) (hk : k < l.length) : ∃ ad v1 v2 v3, A = some ad ∧ OpV w (l[k]'hk) v1 v2 v3 ∧ ∀ j v, (opCells (l[k]'hk) v1 v2 v3)[j]? = some v → w.cell? ((ad.add (k * 16)).add j) = some v := by
  obtain ⟨ad, e, hc⟩ := h.2.2 (by omega)
  obtain ⟨c, hl, hK, hcell⟩ := hc k (l[k]'hk) (List.getElem?_eq_getElem hk)
  obtain ⟨A1, c1, A2, c2, A3, c3, rfl, g1, g2, g3, g4, g5, g6⟩ := ko_open hK
  exact ⟨ad, _, _, _, e, ⟨⟨A1, c1, rfl, g2⟩, ⟨A2, c2, rfl, g4⟩, A3, c3, rfl, g6⟩, fun j v hj => by rw [Addr.add_add]; exact hcell j v hj⟩
/-- what a row of the call's own is, read -/
theorem OpsRow.reads {w : World} {base : Nat} {v : Value} {os : List Sp.Op} (h : OpsRow w base v os) : ∃ A c, v = .slice A os.length c ∧ os.length ≤ c ∧ ReadO w A os := by
  obtain ⟨ts, h1, h2⟩ := h
  obtain ⟨A, c, e, hc, hr⟩ := Kd.R_reads h2
  have hlen : ((os.zip ts).map rawOf).length = os.length := by rw [List.length_map, List.length_zip, ← h1.len, Nat.min_self]
  rw [hlen] at e hc hr
  refine ⟨A, c, e, hc, rfl, hr.2.1, fun hp => ?_⟩
  obtain ⟨ad, ha, hcell⟩ := hr.2.2 hp
  refine ⟨ad, ha, fun j p hj => ?_⟩
  have hjl : j < os.length := (List.getElem?_eq_some_iff.1 hj).1
  have hjt : j < ts.length := by rw [← h1.len]; exact hjl
  have hraw : ((os.zip ts).map rawOf)[j]? = some (rawOf (p, ts[j]'hjt)) := by
    rw [List.getElem?_map, show (os.zip ts)[j]? = some (p, ts[j]'hjt) from List.getElem?_zip_eq_some.2 ⟨hj, List.getElem?_eq_getElem hjt⟩]; rfl
  obtain ⟨cs, q1, q2, q3⟩ := hcell j _ hraw
  have hrow : OpRows w base p (ts[j]'hjt).1 (ts[j]'hjt).2.1 (ts[j]'hjt).2.2 := by
    have key : ∀ {os : List Sp.Op} {ts : List V3}, OpList w base os ts → ∀ (j : Nat) (p : Sp.Op) (t : V3), os[j]? = some p → ts[j]? = some t → OpRows w base p t.1 t.2.1 t.2.2 := by
      intro os ts h
      induction h with
      | nil => intro j p t hj; simp at hj
      | @snoc os ts o t h ho hd ih =>
        intro j p t' hj ht
        have hl := h.len
        rcases Nat.lt_or_ge j os.length with hlt | hge
        · rw [List.getElem?_append_left hlt] at hj
          rw [List.getElem?_append_left (by omega)] at ht
          exact ih j p t' hj ht
        · rw [List.getElem?_append_right hge] at hj
          rw [List.getElem?_append_right (by omega)] at ht
          have hj0 : j - os.length = 0 := by
            have := (List.getElem?_eq_some_iff.1 hj).1
            simp at this; omega
          rw [hj0] at hj
          rw [show j - ts.length = 0 by omega] at ht
          simp at hj ht
          subst hj ht
          exact ho
    exact key h1 j p _ hj (List.getElem?_eq_getElem hjt)
  obtain ⟨B1, c1, e1, l1, g1⟩ := hrow.1.reads
  obtain ⟨B2, c2, e2, l2, g2⟩ := hrow.2.1.reads
  obtain ⟨B3, c3, e3, l3, g3⟩ := hrow.2.2.1.reads
  refine ⟨cs, q1, ?_, q3⟩
  rw [q2.1]
  show ko.K w p (opCells p (ts[j]'hjt).1 (ts[j]'hjt).2.1 (ts[j]'hjt).2.2)
  rw [e1, e2, e3]
  exact ko_mk w p l1 g1 l2 g2 l3 g3
end Go.Proofs.YthnhfddlmkhgkaaGreatDoor

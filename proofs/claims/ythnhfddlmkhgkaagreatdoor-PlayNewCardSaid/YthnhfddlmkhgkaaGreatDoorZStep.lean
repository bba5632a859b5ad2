/- Walks: what some functions of the play package and its laws compute, as contracts. -/
import Derived.Test.YthnhfddlmkhgkaaGreatDoorZStepA
set_option linter.unusedVariables false
namespace Go.Proofs.YthnhfddlmkhgkaaGreatDoor
open Go.RowKit Go.Proofs.YthnhfddlmkhgkaaGreatDoorW.PrintWords

set_option maxHeartbeats 8000000 in
set_option maxRecDepth 100000 in
theorem step_any (A : Option Addr) (ws : List Sp.Bs) (cap : Nat) (w : World) (he : Env w) (hr : ReadS w A ws) (hcap : ws.length ≤ cap) (h0 : 0 < ws.length) (hl : ws.length ≤ 1099511627776) (hws : ∀ x ∈ ws, x.length ≤ 1099511627776) :
    Calls Tryz.prog 39 #[.slice A ws.length cap] w (StepPost w (Sp.step ws)) := by
  obtain ⟨ad, hA, hcell⟩ := hr.at_ 0 h0
  rw [Addr.add_zero'] at hcell
  have HR := Lib.hid hr
  have HE := Lib.hid he
  have HW := Lib.hid hws
  obtain ⟨n, hn⟩ : ∃ n, n = ws[0]'h0 := ⟨_, rfl⟩
  rw [← hn] at hcell
  obtain ⟨kind, hk⟩ : ∃ k, k = Sp.findRow Sp.stepRows n := ⟨_, rfl⟩
  have HS : Hid (∀ w, Env w → Calls Tryz.prog 78 #[.string (str n)] w (BRet w (.int .i64 (kind : Int)))) := Lib.hid (fun w h => by rw [hk]; exact stepOf_any n w h)
  have hws0 : ws.getD 0 [] = n := by rw [hn]; simp [h0]
  have HSP : Hid (Sp.step ws = if kind = 0 then ({}, 212) else if kind = 1 then (if (ws.drop 1).length < 2 then ({}, 215) else if (Sp.shaped ((ws.drop 1).drop 1)).2 ≠ 0 then ({}, (Sp.shaped ((ws.drop 1).drop 1)).2) else Sp.fillStep (Sp.shaped ((ws.drop 1).drop 1)).1 (Sp.stepRows.getD kind ([], [])).2 (ws.drop 1) { kind := kind } 0) else if (ws.drop 1).length ≠ (Sp.stepRows.getD kind ([], [])).2.length then ({}, 215) else Sp.fillStep 0 (Sp.stepRows.getD kind ([], [])).2 (ws.drop 1) { kind := kind } 0) := Lib.hid (by
    unfold Sp.step; simp only [hws0, ← hk])
  subst hA
  clear hr he hws hws0 hn
  by_cases hk0 : kind = 0
  · have T : ((kind : Int) == 0) = true := beq_iff_eq.2 (by omega)
    have HK := Lib.hid hk0
    clear hk0 hk
    go_enter Tryz.func39, Tryz.ntmps39
    have hb0 : Below w.heap.size w (w.alloc (.cells #[.int .i64 0, .int .i64 0, .int .i64 0, .int .i64 0, .int .i64 0, .int .i64 0, .int .i64 0, .int .i64 0, .int .i64 0, .int .i64 0, .string ⟨#[]⟩, .string ⟨#[]⟩, .string ⟨#[]⟩, .slice none 0 0, .slice none 0 0, .slice none 0 0] 80)) := (Below.refl _ _).alloc (Nat.le_refl _) _
    have hcell1 := pw_cell_below hb0 hcell
    have hz : ZeroOp (w.alloc (.cells #[.int .i64 0, .int .i64 0, .int .i64 0, .int .i64 0, .int .i64 0, .int .i64 0, .int .i64 0, .int .i64 0, .int .i64 0, .int .i64 0, .string ⟨#[]⟩, .string ⟨#[]⟩, .string ⟨#[]⟩, .slice none 0 0, .slice none 0 0, .slice none 0 0] 80)) w.heap.size := heap_alloc_new w _
    go_wp2_with (first | (go_at_call 78; refine (HS.out _ (HE.out.below hb0)).mono ?_; rintro e w1 ⟨rfl, HB⟩; have hz1 := hz.below HB; have HB1 := Lib.hid (hb0.trans (HB.mono hb0.size))) | (refine wpList_store_row rfl 80 _ _ rfl w.heap.size (opCells {} (.slice none 0 0) (.slice none 0 0) (.slice none 0 0)).toArray rfl rfl 80 _ hz1 (by kernel_rfl) rfl (op_one _ rfl rfl rfl) ?_))
    refine bodyPost_ret (results_ct rfl _ _ w.heap.size 80 (opCells {} (.slice none 0 0) (.slice none 0 0) (.slice none 0 0)).toArray (0, 0) _ rfl (setRow_heap _ _ _ _ _ _ hz1) Tryz.underlying80 rfl (by kernel_rfl)) rfl ?_
    rw [HSP.out, if_pos HK.out]
    exact ⟨_, _, _, rfl, OpRows.zero _ _ _ ⟨rfl, rfl, rfl⟩, setRow_below HB1.out (Nat.le_refl _) _⟩
  · have T : ((kind : Int) == 0) = false := beq_eq_false_iff_ne.2 (by omega)
    have hk15 : kind < 15 := by
      have := (Sp.find_lt (rows := Sp.stepRows) (l := n) (by rw [← hk]; exact hk0)).1
      rw [← hk] at this; exact this
    rw [if_neg hk0] at HSP
    obtain ⟨f, hf⟩ : ∃ f, f = (Sp.stepRows.getD kind ([], [])).2 := ⟨_, rfl⟩
    rw [← hf] at HSP
    have HC : Hid (∀ w, Env w → w.cell? ⟨0, kind * 2 + 1, none⟩ = some (.string (str f))) := Lib.hid (fun w h => by rw [hf]; exact (table_cell gSteps h.steps kind hk15).2)
    have HF := Lib.hid hf
    clear hk0 hk hf
    go_enter Tryz.func39, Tryz.ntmps39
    have hb0 : Below w.heap.size w (w.alloc (.cells #[.int .i64 0, .int .i64 0, .int .i64 0, .int .i64 0, .int .i64 0, .int .i64 0, .int .i64 0, .int .i64 0, .int .i64 0, .int .i64 0, .string ⟨#[]⟩, .string ⟨#[]⟩, .string ⟨#[]⟩, .slice none 0 0, .slice none 0 0, .slice none 0 0] 80)) := (Below.refl _ _).alloc (Nat.le_refl _) _
    have hcell1 := pw_cell_below hb0 hcell
    have hz : ZeroOp (w.alloc (.cells #[.int .i64 0, .int .i64 0, .int .i64 0, .int .i64 0, .int .i64 0, .int .i64 0, .int .i64 0, .int .i64 0, .int .i64 0, .int .i64 0, .string ⟨#[]⟩, .string ⟨#[]⟩, .string ⟨#[]⟩, .slice none 0 0, .slice none 0 0, .slice none 0 0] 80)) w.heap.size := heap_alloc_new w _
    go_upto_region 4 with (first | (go_at_call 78; refine (HS.out _ (HE.out.below hb0)).mono ?_; rintro e w1 ⟨rfl, HB⟩; have hz1 := hz.below HB; have HB1 := Lib.hid (hb0.trans (HB.mono hb0.size)); have hcf := HC.out w1 (HE.out.below (hb0.trans (HB.mono hb0.size)))))
    have hne := World.new_ne w1 _ hcf
    have q1 : (0 : Int) ≤ (kind : Int) := by omega
    have q2 : (kind : Int) < 15 := by omega
    obtain ⟨B, hB⟩ : ∃ B, B = (if cap = 1 then some ad else (some ad).map (·.add 1)) := ⟨_, rfl⟩
    have hs1 : ∀ w, (Instr.sliceAt 61 (.slice (some ad) ws.length cap) (some (.int .i64 1)) none none).run Tryz.prog w = .ok (.slice B (ws.length - 1) (cap - 1)) w := fun w => by rw [hB]; exact tail_slice (some ad) ws.length cap 1 h0 hcap hl w
    have hs2 : ∀ w, (Instr.slice 61 (.slice (some ad) ws.length cap) (some (.int .i64 1)) none none).run Tryz.prog w = .ok (.slice B (ws.length - 1) (cap - 1)) w := fun w => by rw [hB]; exact tail_slice2 (some ad) ws.length cap 1 h0 hcap hl w
    have HT : Hid (Tail w (.slice B (ws.length - 1) (cap - 1)) (ws.drop 1)) := Lib.hid (by
      have hlen : ws.length - 1 = (ws.drop 1).length := by rw [List.length_drop]
      rw [hB]; exact ⟨_, _, by rw [hlen], tail_read HR.out 1 h0 hcap, by omega⟩)
    clear hB
    go_cut [5, 6, 7] (fun v5 v6 v7 wx => ∃ (g : Nat), v5 = .pointer (some ⟨g, 0, none⟩) ∧ v6 = .string (str f) ∧ Tail w v7 (ws.drop 1) ∧ w.heap.size < g ∧ OpAt wx w.heap.size g { kind := kind } ∧ ZeroOp wx w.heap.size ∧ Below w.heap.size w wx)
    case first =>
      go_region_held3 (fun w' => w'.cell? ⟨0, kind * 2 + 1, none⟩ = some (.string (str f))) (go_keep) (fail)
      go_wp2_with fail
      go_meet
      have hb2 := ((HB1.out.alloc HB1.out.size (.cells (opCells { kind := kind } (.slice none 0 0) (.slice none 0 0) (.slice none 0 0)).toArray 80)).drew)
      have hz2 : ZeroOp ((w1.alloc (.cells (opCells { kind := kind } (.slice none 0 0) (.slice none 0 0) (.slice none 0 0)).toArray 80)).drew) w.heap.size := (heap_alloc_old _ _ (row_lt hz1)).trans hz1
      exact ⟨w1.heap.size, rfl, rfl, HT.out, row_lt hz1, ⟨_, _, _, heap_alloc_new w1 _, OpRows.zero _ _ _ ⟨rfl, rfl, rfl⟩, fun k hk => by simp [Value.ownBlock] at hk⟩, hz2, hb2⟩
    case rest =>
      obtain ⟨g, rfl, rfl, HTl, hg, HO, HZ, HBx⟩ := hcut
      clear hne q1 q2 hs1 hs2 HT hz1 HB1 hcf HB hz hcell1 hb0
      obtain ⟨A2, cap2, rfl, hRt, hcap2⟩ := HTl
      obtain ⟨rest, hrest⟩ : ∃ rest, rest = ws.drop 1 := ⟨_, rfl⟩
      rw [← hrest] at hRt HSP hcap2 ⊢
      have hrl : rest.length ≤ 1099511627776 := by rw [hrest, List.length_drop]; omega
      have HWr : Hid (∀ x ∈ rest, x.length ≤ 1099511627776) := Lib.hid (fun x hx => HW.out x (List.mem_of_mem_drop (hrest ▸ hx)))
      have hfs : (str f).size = f.length := str_size f
      have HRt := Lib.hid hRt
      have HX := Lib.hid (And.intro HO HBx)
      clear hrest hRt HW HR hcell HS hcap h0 hl HO HBx
      go_upto_if 37 with fail
      go_cut [8] (fun v8 wx => ∃ op : Nat, v8 = .int .i64 (op : Int) ∧ Hid (∀ i, f[i]? = some 99 → 0 < op ∧ op < 11 ∧ lenCall op + i < rest.length) ∧ f.length ≤ rest.length ∧ Hid (Sp.step ws = Sp.fillStep op f rest { kind := kind } 0) ∧ OpAt wx w.heap.size g { kind := kind } ∧ ZeroOp wx w.heap.size ∧ Below w.heap.size w wx)
      case first =>
        by_cases hk1 : kind = 1
        · have T1 : ((kind : Int) == 1) = true := beq_iff_eq.2 (by omega)
          rw [if_pos hk1] at HSP
          have hf2 : f = [97, 99] := by rw [HF.out, hk1]; rfl
          clear hk1 hk15
          by_cases hq : rest.length < 2
          · have HQ := Lib.hid hq
            rw [if_pos hq] at HSP
            go_wp2_with (refine wpList_store_row rfl 80 _ _ rfl w.heap.size (opCells {} (.slice none 0 0) (.slice none 0 0) (.slice none 0 0)).toArray rfl rfl 80 _ HZ (by kernel_rfl) rfl (op_one _ rfl rfl rfl) ?_)
            refine bodyPost_ret (results_ct rfl _ _ w.heap.size 80 (opCells {} (.slice none 0 0) (.slice none 0 0) (.slice none 0 0)).toArray (0, 0) _ rfl (setRow_heap _ _ _ _ _ _ HZ) Tryz.underlying80 rfl (by kernel_rfl)) rfl ?_
            rw [HSP.out]
            exact ⟨_, _, _, rfl, OpRows.zero _ _ _ ⟨rfl, rfl, rfl⟩, setRow_below HX.out.2 (Nat.le_refl _) _⟩
          · rw [if_neg hq] at HSP
            have hq1 : 2 ≤ rest.length := by omega
            clear hq
            have HF2 := Lib.hid hf2
            clear hf2
            obtain ⟨B2, hB⟩ : ∃ B2, B2 = (if cap2 = 1 then A2 else A2.map (·.add 1)) := ⟨_, rfl⟩
            have hs1 : ∀ w, (Instr.sliceAt 61 (.slice A2 rest.length cap2) (some (.int .i64 1)) none none).run Tryz.prog w = .ok (.slice B2 (rest.length - 1) (cap2 - 1)) w := fun w => by rw [hB]; exact tail_slice A2 rest.length cap2 1 (by omega) hcap2 hrl w
            have hs2 : ∀ w, (Instr.slice 61 (.slice A2 rest.length cap2) (some (.int .i64 1)) none none).run Tryz.prog w = .ok (.slice B2 (rest.length - 1) (cap2 - 1)) w := fun w => by rw [hB]; exact tail_slice2 A2 rest.length cap2 1 (by omega) hcap2 hrl w
            obtain ⟨op, er, hsh⟩ : ∃ op er, Sp.shaped (rest.drop 1) = (op, er) := ⟨_, _, rfl⟩
            have HSH : Hid (∀ w1, Below w.heap.size w w1 → Calls Tryz.prog 57 #[.slice B2 (rest.length - 1) (cap2 - 1)] w1 (ShapedPost w1 (op, er))) := Lib.hid (fun w1 hb => by
              have hlen : rest.length - 1 = (rest.drop 1).length := by rw [List.length_drop]
              rw [← hsh, hlen, hB]
              exact shaped_any _ _ _ _ (HE.out.below hb) ((tail_read HRt.out 1 (by omega) hcap2).below hb) (by rw [List.length_drop]; omega))
            rw [hsh] at HSP
            have HSHP := Lib.hid hsh
            clear hB hsh
            by_cases he0 : er = 0
            · have T2 : ((er : Int) != 0) = false := by rw [bne_eq_false_iff_eq]; omega
              have HE0 := Lib.hid he0
              clear he0
              go_wp2_with (first | (go_at_call 57; refine (HSH.out _ HX.out.2).mono ?_; rintro e w2 ⟨rfl, HB2⟩))
              go_meet
              have hok := shaped_ok (l := rest.drop 1) (op := op) (by rw [HSHP.out, HE0.out])
              rw [List.length_drop] at hok
              refine ⟨op, rfl, Lib.hid (fun i hi => ⟨hok.1, hok.2.1, ?_⟩), by rw [HF2.out]; exact hq1, Lib.hid (by rw [HSP.out, if_neg (by simp [HE0.out])]), HX.out.1.below HB2, HZ.below HB2, HX.out.2.trans (HB2.mono HX.out.2.size)⟩
              rw [HF2.out] at hi
              have : i = 1 := by
                match i, hi with
                | 0, hi => simp at hi
                | 1, _ => rfl
                | (j + 2), hi => simp at hi
              omega
            · have T2 : ((er : Int) != 0) = true := by rw [bne_iff_ne]; omega
              have HE0 := Lib.hid he0
              clear he0
              go_wp2_with (first | (go_at_call 57; refine (HSH.out _ HX.out.2).mono ?_; rintro e w2 ⟨rfl, HB2⟩; have HZ2 := HZ.below HB2) | (refine wpList_store_row rfl 80 _ _ rfl w.heap.size (opCells {} (.slice none 0 0) (.slice none 0 0) (.slice none 0 0)).toArray rfl rfl 80 _ HZ2 (by kernel_rfl) rfl (op_one _ rfl rfl rfl) ?_))
              refine bodyPost_ret (results_ct rfl _ _ w.heap.size 80 (opCells {} (.slice none 0 0) (.slice none 0 0) (.slice none 0 0)).toArray (0, 0) _ rfl (setRow_heap _ _ _ _ _ _ HZ2) Tryz.underlying80 rfl (by kernel_rfl)) rfl ?_
              rw [HSP.out, if_pos HE0.out]
              exact ⟨_, _, _, rfl, OpRows.zero _ _ _ ⟨rfl, rfl, rfl⟩, setRow_below (HX.out.2.trans (HB2.mono HX.out.2.size)) (Nat.le_refl _) _⟩
        · have T1 : ((kind : Int) == 1) = false := beq_eq_false_iff_ne.2 (by omega)
          rw [if_neg hk1] at HSP
          have HK := Lib.hid (And.intro hk1 hk15)
          clear hk1 hk15
          by_cases hq : rest.length = f.length
          · have T2 : ((rest.length : Int) != (f.length : Int)) = false := by rw [bne_eq_false_iff_eq]; omega
            have HQ := Lib.hid hq
            clear hq
            go_wp2_with fail
            go_meet
            exact ⟨0, rfl, Lib.hid (fun i hi => absurd (List.mem_of_getElem? hi) (by rw [HF.out]; exact no_call kind HK.out.2 HK.out.1)), Nat.le_of_eq HQ.out.symm, Lib.hid (by rw [HSP.out, if_neg (by simpa using HQ.out)]), HX.out.1, HZ, HX.out.2⟩
          · have T2 : ((rest.length : Int) != (f.length : Int)) = true := by rw [bne_iff_ne]; omega
            have HQ := Lib.hid hq
            clear hq
            go_wp2_with (refine wpList_store_row rfl 80 _ _ rfl w.heap.size (opCells {} (.slice none 0 0) (.slice none 0 0) (.slice none 0 0)).toArray rfl rfl 80 _ HZ (by kernel_rfl) rfl (op_one _ rfl rfl rfl) ?_)
            refine bodyPost_ret (results_ct rfl _ _ w.heap.size 80 (opCells {} (.slice none 0 0) (.slice none 0 0) (.slice none 0 0)).toArray (0, 0) _ rfl (setRow_heap _ _ _ _ _ _ HZ) Tryz.underlying80 rfl (by kernel_rfl)) rfl ?_
            rw [HSP.out, if_pos HQ.out]
            exact ⟨_, _, _, rfl, OpRows.zero _ _ _ ⟨rfl, rfl, rfl⟩, setRow_below HX.out.2 (Nat.le_refl _) _⟩
      case rest =>
        obtain ⟨op, rfl, HCC, hfl, HSPF, HO, HZ2, HB0⟩ := hcut
        have HPL : Hid (∀ l ∈ f, l = 99 ∨ l = 100 ∨ l = 98 ∨ (Sp.place l).isSome = true) := Lib.hid (by rw [HF.out]; exact letters_place kind hk15)
        clear HSP HC HF hk15 T HX HZ
        go_wp2
        go_loopw [10, 60] (fun v10 v60 wr => ∃ (i : Nat) (o : Sp.Op) (late : Nat), v10 = .int .i64 (late : Int) ∧ v60 = .int .i64 (i : Int) ∧ i ≤ f.length ∧ OpAt wr w.heap.size g o ∧ ZeroOp wr w.heap.size ∧ Hid (Sp.fillStep op f rest { kind := kind } 0 = Sp.fillStep op (f.drop i) (rest.drop i) o late) ∧ Below w.heap.size w wr) (fun _ v60 _ => f.length - (intOf v60).toNat)
        case atStart => exact ⟨0, _, 0, rfl, rfl, Nat.zero_le _, HO, HZ2, Lib.hid rfl, HB0⟩
        case round =>
          obtain ⟨i, o, late, rfl, rfl, hi, HO1, HZ1, HQ, HB⟩ := hrel
          clear HO HZ2 HB0
          by_cases hlt : i < f.length
          · obtain ⟨ad2, hA2, hcell⟩ := (HRt.out.below HB).at_ i (by omega)
            obtain ⟨L, hL⟩ : ∃ L : Int, L = ((f[i]'hlt).toNat : Int) := ⟨_, rfl⟩
            have hx : ∀ h : i < (str f).size, (((str f)[i]'h).toNat : Int) = L := fun h => by rw [hL]; rfl
            obtain ⟨l, hl⟩ : ∃ l, l = f[i]'hlt := ⟨_, rfl⟩
            obtain ⟨x, hxw⟩ : ∃ x, x = rest[i]'(by omega) := ⟨_, rfl⟩
            rw [← hxw] at hcell
            rw [← hl] at hL
            have hL0 : 0 ≤ L := by omega
            have hL1 : L ≤ 255 := by have := l.toNat_lt; omega
            have T99 : (L == 99) = decide (l = 99) := u8_eqb 99 hL rfl
            have T100 : (L == 100) = decide (l = 100) := u8_eqb 100 hL rfl
            have T98 : (L == 98) = decide (l = 98) := u8_eqb 98 hL rfl
            have T106 : (L == 106) = decide (l = 106) := u8_eqb 106 hL rfl
            have HL := Lib.hid hL
            have HX := Lib.hid (HWr.out x (by rw [hxw]; exact List.getElem_mem _))
            have hdr : rest.drop i = x :: rest.drop (i + 1) := by rw [List.drop_eq_getElem_cons (show i < rest.length by omega), ← hxw]
            have HQ2 : Hid (Sp.fillStep op f rest { kind := kind } 0 = Sp.fillStep op (l :: f.drop (i + 1)) (x :: rest.drop (i + 1)) o late) := Lib.hid (by
              rw [HQ.out, List.drop_eq_getElem_cons hlt, ← hl, hdr])
            have HPL2 := Lib.hid (HPL.out l (by rw [hl]; exact List.getElem_mem _))
            have HCC2 : Hid (l = 99 → 0 < op ∧ op < 11 ∧ lenCall op + i < rest.length) := Lib.hid (fun e => HCC.out i (by rw [List.getElem?_eq_getElem hlt, ← hl, e]))
            have HDR := Lib.hid hdr
            have HBS := Lib.hid HB.size
            clear hl hxw HQ hL hdr
            by_cases e99 : l = 99
            · simp only [e99, decide_true] at T99
              have hop := HCC2.out e99
              have HE99 := Lib.hid e99
              clear e99
              obtain ⟨c, er, hcl⟩ : ∃ c er, Sp.call op (x :: rest.drop (i + 1)) = (c, er) := ⟨_, _, rfl⟩
              obtain ⟨B3, hB⟩ : ∃ B3, B3 = (if cap2 = i then A2 else A2.map (·.add i)) := ⟨_, rfl⟩
              have hs1 : ∀ w, (Instr.sliceAt 61 (.slice A2 rest.length cap2) (some (.int .i64 (i : Int))) none none).run Tryz.prog w = .ok (.slice B3 (rest.length - i) (cap2 - i)) w := fun w => by rw [hB]; exact tail_slice A2 rest.length cap2 i (by omega) hcap2 hrl w
              have hs2 : ∀ w, (Instr.slice 61 (.slice A2 rest.length cap2) (some (.int .i64 (i : Int))) none none).run Tryz.prog w = .ok (.slice B3 (rest.length - i) (cap2 - i)) w := fun w => by rw [hB]; exact tail_slice2 A2 rest.length cap2 i (by omega) hcap2 hrl w
              have HCALL : Hid (∀ w1, Below w.heap.size w w1 → Calls Tryz.prog 58 #[.int .i64 (op : Int), .slice B3 (rest.length - i) (cap2 - i)] w1 (CallPost w1 (c, er))) := Lib.hid (fun w1 hb => by
                have hlen : rest.length - i = (rest.drop i).length := by rw [List.length_drop]
                rw [← hcl, ← HDR.out, hlen, hB]
                exact call_any op _ _ _ _ (HE.out.below hb) ((tail_read HRt.out i (by omega) hcap2).below hb) hop.1 hop.2.1 (by rw [List.length_drop]; omega) (fun y hy => HWr.out y (List.mem_of_mem_drop hy)))
              subst hA2
              have HCL := Lib.hid hcl
              clear hcl hB hop
              by_cases he0 : er = 0
              · have T2 : ((er : Int) != 0) = false := by rw [bne_eq_false_iff_eq]; omega
                have HE0 := Lib.hid he0
                clear he0
                have HQ3 : Hid (Sp.fillStep op f rest { kind := kind } 0 = Sp.fillStep op (f.drop (i + 1)) (rest.drop (i + 1)) { o with call := c } late) := Lib.hid (by
                  rw [HQ2.out]; simp only [Sp.fillStep, HE99.out, HCL.out, HE0.out, if_true])
                have HAL : Hid (∀ (w2 : World) (v : Value), Below wr.heap.size wr w2 → OpAt (w2.alloc (.cells (callCells c v).toArray 51)) w.heap.size g o ∧ ZeroOp (w2.alloc (.cells (callCells c v).toArray 51)) w.heap.size ∧ Below wr.heap.size wr (w2.alloc (.cells (callCells c v).toArray 51))) := Lib.hid (fun w2 v hb => by
                  have hb2 := hb.alloc hb.size (.cells (callCells c v).toArray 51)
                  exact ⟨HO1.below hb2, HZ1.below hb2, hb2⟩)
                go_wp2_with (first | (go_at_call 58; refine (HCALL.out _ HB).mono ?_; rintro e w2 ⟨v, rfl, hv, HB2⟩; have hone := hv.one; have HV := Lib.hid (And.intro hv (HAL.out w2 v HB2)); have hth := HV.out.2.1.there 5 9 (by omega); have hz5 := HV.out.2.2.1; clear hv HB2; have tk1 := trivial; have tk2 := trivial; have tk3 := trivial; have tk4 := trivial)  | (have q := tk1; refine wpList_store_row rfl 51 (.tmp 13) (.tmp 100) rfl w2.heap.size (callCells c v).toArray rfl rfl 51 _ (heap_alloc_new w2 _) (by kernel_rfl) rfl (call_one _ hone) ?_; rw [World.setRow_alloc_new]; obtain ⟨W2, hW2⟩ : ∃ W2, W2 = w2.alloc (.cells (callCells c v).toArray 51) := ⟨_, rfl⟩; have hat : W2.heap[w2.heap.size]? = some (.cells (callCells c v).toArray 51 (0, 0)) := (by rw [hW2]; exact heap_alloc_new _ _); rw [← hW2] at hth hz5 ⊢; have HW2 := Lib.hid hW2; clear hW2 tk1 q)  | (have q := tk2; refine wpList_load_row rfl 51 (.tmp 13) rfl w2.heap.size rfl 51 (callCells c v).toArray _ _ hat Tryz.underlying51 rfl (by kernel_rfl) ?_; clear tk2 q)  | (have q := tk3; refine wpList_store_mid rfl 51 (.tmp 107) (.tmp 106) rfl g 5 (callCells c v).toArray rfl rfl hth (by kernel_rfl) (call_one _ hone) ?_; clear tk3 q))
                go_roundw
                case rel => exact ⟨i + 1, { o with call := c }, late, rfl, by go_num, by omega, HO1.putC (by rw [HW2.out]; exact HV.out.2.2.2) HBS.out (by rw [HW2.out]; exact HV.out.1.below ((Below.refl _ _).alloc (Nat.le_refl _) _)), (other_setCells (by omega) _ _ _).trans hz5, HQ3, below_setCells (by omega) _ _ _ _ (HB.trans ((by rw [HW2.out]; exact HV.out.2.2.2 : Below wr.heap.size wr W2).mono HBS.out))⟩
                case measure => simp [intOf]; omega
              · have T2 : ((er : Int) != 0) = true := by rw [bne_iff_ne]; omega
                have HE0 := Lib.hid he0
                clear he0
                have HQ3 : Hid (Sp.step ws = ({}, er)) := Lib.hid (by
                  rw [HSPF.out, HQ2.out]; simp only [Sp.fillStep, HE99.out, HCL.out, if_neg HE0.out, if_true])
                have HAL : Hid (∀ (w2 : World) (v : Value), Below wr.heap.size wr w2 → OpAt (w2.alloc (.cells (callCells c v).toArray 51)) w.heap.size g o ∧ ZeroOp (w2.alloc (.cells (callCells c v).toArray 51)) w.heap.size ∧ Below wr.heap.size wr (w2.alloc (.cells (callCells c v).toArray 51))) := Lib.hid (fun w2 v hb => by
                  have hb2 := hb.alloc hb.size (.cells (callCells c v).toArray 51)
                  exact ⟨HO1.below hb2, HZ1.below hb2, hb2⟩)
                go_wp2_with (first | (go_at_call 58; refine (HCALL.out _ HB).mono ?_; rintro e w2 ⟨v, rfl, hv, HB2⟩; have hone := hv.one; have HV := Lib.hid (And.intro hv (HAL.out w2 v HB2)); have hth := HV.out.2.1.there 5 9 (by omega); have hz5 := HV.out.2.2.1; clear hv HB2; have tk1 := trivial; have tk2 := trivial; have tk3 := trivial; have tk4 := trivial)  | (have q := tk1; refine wpList_store_row rfl 51 (.tmp 13) (.tmp 100) rfl w2.heap.size (callCells c v).toArray rfl rfl 51 _ (heap_alloc_new w2 _) (by kernel_rfl) rfl (call_one _ hone) ?_; rw [World.setRow_alloc_new]; obtain ⟨W2, hW2⟩ : ∃ W2, W2 = w2.alloc (.cells (callCells c v).toArray 51) := ⟨_, rfl⟩; have hat : W2.heap[w2.heap.size]? = some (.cells (callCells c v).toArray 51 (0, 0)) := (by rw [hW2]; exact heap_alloc_new _ _); rw [← hW2] at hth hz5 ⊢; have HW2 := Lib.hid hW2; clear hW2 tk1 q)  | (have q := tk4; refine wpList_store_row rfl 80 (.tmp 2) (.tmp 104) rfl w.heap.size (opCells {} (.slice none 0 0) (.slice none 0 0) (.slice none 0 0)).toArray rfl rfl 80 _ hz5 (by kernel_rfl) rfl (op_one _ rfl rfl rfl) ?_))
                refine bodyPost_ret (results_ct rfl _ _ w.heap.size 80 (opCells {} (.slice none 0 0) (.slice none 0 0) (.slice none 0 0)).toArray (0, 0) _ rfl (setRow_heap _ _ _ _ _ _ hz5) Tryz.underlying80 rfl (by kernel_rfl)) rfl ?_
                rw [HQ3.out]
                exact ⟨_, _, _, rfl, OpRows.zero _ _ _ ⟨rfl, rfl, rfl⟩, setRow_below (HB.trans ((by rw [HW2.out]; exact HV.out.2.2.2 : Below wr.heap.size wr W2).mono HBS.out)) (Nat.le_refl _) _⟩
            · simp only [e99, decide_false] at T99
              have HE99 := Lib.hid e99
              clear e99 HCC2
              subst hA2
              by_cases e100 : l = 100
              · simp only [e100, decide_true] at T100
                have HE100 := Lib.hid e100
                clear e100
                cases hhx : Sp.hex x with
                | some d =>
                  have HHX := Lib.hid hhx
                  clear hhx
                  have HQ3 : Hid (Sp.fillStep op f rest { kind := kind } 0 = Sp.fillStep op (f.drop (i + 1)) (rest.drop (i + 1)) { o with data := d } late) := Lib.hid (by
                    rw [HQ2.out]; conv => lhs; unfold Sp.fillStep
                    rw [if_neg HE99.out, if_pos HE100.out, HHX.out])
                  go_wp2_with (first | (go_at_call 79; refine (hex_some HHX.out HX.out _).mono ?_; rintro e w2 ⟨A4, c4, rfl, hv, hb⟩; obtain ⟨u14, c14, z14⟩ := (HO1.below hb).cell 14 (by omega); have HD := Lib.hid (And.intro hv hb); clear hv hb))
                  go_roundw
                  case rel => exact ⟨i + 1, _, late, rfl, by go_num, by omega, HO1.putD HD.out.2 HBS.out HD.out.1, (HZ1.below HD.out.2).far (by simp only; omega) _, HQ3, (HB.trans (HD.out.2.mono HBS.out)).setCell (by simp only; omega) _⟩
                  case measure => simp [intOf]; omega
                | none =>
                  have HHX := Lib.hid hhx
                  clear hhx
                  have HQ3 : Hid (Sp.fillStep op f rest { kind := kind } 0 = Sp.fillStep op (f.drop (i + 1)) (rest.drop (i + 1)) { o with data := [] } 217) := Lib.hid (by
                    rw [HQ2.out]; conv => lhs; unfold Sp.fillStep
                    rw [if_neg HE99.out, if_pos HE100.out, HHX.out])
                  go_wp2_with (first | (go_at_call 79; refine (hex_none HHX.out HX.out _).mono ?_; rintro e w2 ⟨rfl, hb⟩; obtain ⟨u14, c14, z14⟩ := (HO1.below hb).cell 14 (by omega); have HD := Lib.hid hb; clear hb))
                  go_roundw
                  case rel => exact ⟨i + 1, _, 217, rfl, by go_num, by omega, HO1.putD HD.out HBS.out (ORow.nil _ _ _), (HZ1.below HD.out).far (by simp only; omega) _, HQ3, (HB.trans (HD.out.mono HBS.out)).setCell (by simp only; omega) _⟩
                  case measure => simp [intOf]; omega
              · simp only [e100, decide_false] at T100
                have HE100 := Lib.hid e100
                clear e100
                by_cases e98 : l = 98
                · simp only [e98, decide_true] at T98
                  have HE98 := Lib.hid e98
                  clear e98
                  cases hfx : Sp.flags x with
                  | some d =>
                    have HHX := Lib.hid hfx
                    clear hfx
                    have HQ3 : Hid (Sp.fillStep op f rest { kind := kind } 0 = Sp.fillStep op (f.drop (i + 1)) (rest.drop (i + 1)) { o with keep := d } late) := Lib.hid (by
                      rw [HQ2.out]; conv => lhs; unfold Sp.fillStep
                      rw [if_neg HE99.out, if_neg HE100.out, if_pos HE98.out, HHX.out])
                    go_wp2_with (first | (go_at_call 80; refine (flags_some HHX.out HX.out _).mono ?_; rintro e w2 ⟨A4, c4, rfl, hv, hb⟩; obtain ⟨u14, c14, z14⟩ := (HO1.below hb).cell 15 (by omega); have HD := Lib.hid (And.intro hv hb); clear hv hb))
                    go_roundw
                    case rel => exact ⟨i + 1, _, late, rfl, by go_num, by omega, HO1.putK HD.out.2 HBS.out HD.out.1, (HZ1.below HD.out.2).far (by simp only; omega) _, HQ3, (HB.trans (HD.out.2.mono HBS.out)).setCell (by simp only; omega) _⟩
                    case measure => simp [intOf]; omega
                  | none =>
                    have HHX := Lib.hid hfx
                    clear hfx
                    have HQ3 : Hid (Sp.step ws = ({}, 213)) := Lib.hid (by
                      rw [HSPF.out, HQ2.out]; conv => lhs; unfold Sp.fillStep
                      rw [if_neg HE99.out, if_neg HE100.out, if_pos HE98.out, HHX.out])
                    go_wp2_with (first | (go_at_call 80; refine (flags_none HHX.out HX.out _).mono ?_; rintro e w2 ⟨rfl, hb⟩; have hz5 := HZ1.below hb; have HD := Lib.hid hb; clear hb) | (refine wpList_store_row rfl 80 (.tmp 2) (.tmp 128) rfl w.heap.size (opCells {} (.slice none 0 0) (.slice none 0 0) (.slice none 0 0)).toArray rfl rfl 80 _ hz5 (by kernel_rfl) rfl (op_one _ rfl rfl rfl) ?_))
                    refine bodyPost_ret (results_ct rfl _ _ w.heap.size 80 (opCells {} (.slice none 0 0) (.slice none 0 0) (.slice none 0 0)).toArray (0, 0) _ rfl (setRow_heap _ _ _ _ _ _ hz5) Tryz.underlying80 rfl (by kernel_rfl)) rfl ?_
                    rw [HQ3.out]
                    exact ⟨_, _, _, rfl, OpRows.zero _ _ _ ⟨rfl, rfl, rfl⟩, setRow_below (HB.trans (HD.out.mono HBS.out)) (Nat.le_refl _) _⟩
                · simp only [e98, decide_false] at T98
                  have HE98 := Lib.hid e98
                  clear e98
                  obtain ⟨k, hpk⟩ : ∃ k, Sp.place l = some k := by
                    rcases HPL2.out with h | h | h | h
                    · exact absurd h HE99.out
                    · exact absurd h HE100.out
                    · exact absurd h HE98.out
                    · exact Option.isSome_iff_exists.1 h
                  have hpr := place_rng hpk
                  have HPK := Lib.hid hpk
                  clear hpk
                  have TS : ((str x).toList == [115, 101, 114, 118, 101, 114]) = decide (x = Sp.server) := by
                    have h := str_eqb x Sp.server
                    rw [Lib.toList_data (str Sp.server)] at h
                    exact h
                  by_cases e106 : l = 106
                  · simp only [e106, decide_true] at T106
                    by_cases esv : x = Sp.server
                    · rw [decide_eq_true esv] at TS
                      have HSV := Lib.hid (And.intro e106 esv)
                      clear e106 esv
                      have HQ3 : Hid (Sp.fillStep op f rest { kind := kind } 0 = Sp.fillStep op (f.drop (i + 1)) (rest.drop (i + 1)) (o.setN k (-1)) late) := Lib.hid (by
                        rw [HQ2.out]; conv => lhs; unfold Sp.fillStep
                        rw [if_neg HE99.out, if_neg HE100.out, if_neg HE98.out, if_pos HSV.out, HPK.out]; rfl)
                      go_wp2_with (first | (go_at_call 77; refine (number_any x _ (HE.out.below HB) HX.out).mono ?_; rintro e w2 ⟨n2, ok2, rfl, j1, hb⟩; clear j1; have HO2 := HO1.below hb; obtain ⟨ck, zk⟩ := HO2.num k hpr.1 hpr.2; have HD := Lib.hid hb; clear hb) | (go_at_call 81; refine (place_some HL.out HPK.out _).mono ?_; rintro e w3 ⟨rfl, rfl⟩))
                      go_roundw
                      case rel => exact ⟨i + 1, _, late, rfl, by go_num, by omega, HO2.putN k (-1) hpr.1 hpr.2, (HZ1.below HD.out).far (by simp only; omega) _, HQ3, (HB.trans (HD.out.mono HBS.out)).setCell (by simp only; omega) _⟩
                      case measure => simp [intOf]; omega
                    · rw [decide_eq_false esv] at TS
                      have HSV : Hid (¬ (l = 106 ∧ x = Sp.server)) := Lib.hid (fun h => esv h.2)
                      clear e106 esv
                      cases hnm : Sp.number x with
                      | some n2 =>
                        have HNM := Lib.hid hnm
                        clear hnm
                        have HQ3 : Hid (Sp.fillStep op f rest { kind := kind } 0 = Sp.fillStep op (f.drop (i + 1)) (rest.drop (i + 1)) (o.setN k n2) late) := Lib.hid (by
                          rw [HQ2.out]; conv => lhs; unfold Sp.fillStep
                          rw [if_neg HE99.out, if_neg HE100.out, if_neg HE98.out, if_neg HSV.out, HNM.out, HPK.out]; rfl)
                        go_wp2_with (first | (go_at_call 77; refine (number_some HNM.out _ (HE.out.below HB) HX.out).mono ?_; rintro e w2 ⟨rfl, hb⟩; have HO2 := HO1.below hb; obtain ⟨ck, zk⟩ := HO2.num k hpr.1 hpr.2; have HD := Lib.hid hb; clear hb) | (go_at_call 81; refine (place_some HL.out HPK.out _).mono ?_; rintro e w3 ⟨rfl, rfl⟩))
                        go_roundw
                        case rel => exact ⟨i + 1, _, late, rfl, by go_num, by omega, HO2.putN k n2 hpr.1 hpr.2, (HZ1.below HD.out).far (by simp only; omega) _, HQ3, (HB.trans (HD.out.mono HBS.out)).setCell (by simp only; omega) _⟩
                        case measure => simp [intOf]; omega
                      | none =>
                        have HNM := Lib.hid hnm
                        clear hnm
                        have HQ3 : Hid (Sp.step ws = ({}, 213)) := Lib.hid (by
                          rw [HSPF.out, HQ2.out]; unfold Sp.fillStep; rw [if_neg HE99.out, if_neg HE100.out, if_neg HE98.out, if_neg HSV.out, HNM.out])
                        go_wp2_with (first | (go_at_call 77; refine (number_none HNM.out _ (HE.out.below HB) HX.out).mono ?_; rintro e w2 ⟨n2, rfl, hb⟩; have hz5 := HZ1.below hb; have HD := Lib.hid hb; clear hb) | (refine wpList_store_row rfl 80 (.tmp 2) (.tmp 85) rfl w.heap.size (opCells {} (.slice none 0 0) (.slice none 0 0) (.slice none 0 0)).toArray rfl rfl 80 _ hz5 (by kernel_rfl) rfl (op_one _ rfl rfl rfl) ?_))
                        refine bodyPost_ret (results_ct rfl _ _ w.heap.size 80 (opCells {} (.slice none 0 0) (.slice none 0 0) (.slice none 0 0)).toArray (0, 0) _ rfl (setRow_heap _ _ _ _ _ _ hz5) Tryz.underlying80 rfl (by kernel_rfl)) rfl ?_
                        rw [HQ3.out]
                        exact ⟨_, _, _, rfl, OpRows.zero _ _ _ ⟨rfl, rfl, rfl⟩, setRow_below (HB.trans (HD.out.mono HBS.out)) (Nat.le_refl _) _⟩
                  · simp only [e106, decide_false] at T106
                    have HSV : Hid (¬ (l = 106 ∧ x = Sp.server)) := Lib.hid (fun h => e106 h.1)
                    clear e106 TS
                    cases hnm : Sp.number x with
                    | some n2 =>
                      have HNM := Lib.hid hnm
                      clear hnm
                      have HQ3 : Hid (Sp.fillStep op f rest { kind := kind } 0 = Sp.fillStep op (f.drop (i + 1)) (rest.drop (i + 1)) (o.setN k n2) late) := Lib.hid (by
                        rw [HQ2.out]; conv => lhs; unfold Sp.fillStep
                        rw [if_neg HE99.out, if_neg HE100.out, if_neg HE98.out, if_neg HSV.out, HNM.out, HPK.out]; rfl)
                      go_wp2_with (first | (go_at_call 77; refine (number_some HNM.out _ (HE.out.below HB) HX.out).mono ?_; rintro e w2 ⟨rfl, hb⟩; have HO2 := HO1.below hb; obtain ⟨ck, zk⟩ := HO2.num k hpr.1 hpr.2; have HD := Lib.hid hb; clear hb) | (go_at_call 81; refine (place_some HL.out HPK.out _).mono ?_; rintro e w3 ⟨rfl, rfl⟩))
                      go_roundw
                      case rel => exact ⟨i + 1, _, late, rfl, by go_num, by omega, HO2.putN k n2 hpr.1 hpr.2, (HZ1.below HD.out).far (by simp only; omega) _, HQ3, (HB.trans (HD.out.mono HBS.out)).setCell (by simp only; omega) _⟩
                      case measure => simp [intOf]; omega
                    | none =>
                      have HNM := Lib.hid hnm
                      clear hnm
                      have HQ3 : Hid (Sp.step ws = ({}, 213)) := Lib.hid (by
                        rw [HSPF.out, HQ2.out]; unfold Sp.fillStep; rw [if_neg HE99.out, if_neg HE100.out, if_neg HE98.out, if_neg HSV.out, HNM.out])
                      go_wp2_with (first | (go_at_call 77; refine (number_none HNM.out _ (HE.out.below HB) HX.out).mono ?_; rintro e w2 ⟨n2, rfl, hb⟩; have hz5 := HZ1.below hb; have HD := Lib.hid hb; clear hb) | (refine wpList_store_row rfl 80 (.tmp 2) (.tmp 85) rfl w.heap.size (opCells {} (.slice none 0 0) (.slice none 0 0) (.slice none 0 0)).toArray rfl rfl 80 _ hz5 (by kernel_rfl) rfl (op_one _ rfl rfl rfl) ?_))
                      refine bodyPost_ret (results_ct rfl _ _ w.heap.size 80 (opCells {} (.slice none 0 0) (.slice none 0 0) (.slice none 0 0)).toArray (0, 0) _ rfl (setRow_heap _ _ _ _ _ _ hz5) Tryz.underlying80 rfl (by kernel_rfl)) rfl ?_
                      rw [HQ3.out]
                      exact ⟨_, _, _, rfl, OpRows.zero _ _ _ ⟨rfl, rfl, rfl⟩, setRow_below (HB.trans (HD.out.mono HBS.out)) (Nat.le_refl _) _⟩
          · have hii : i = f.length := by omega
            have HQ3 : Hid (Sp.step ws = if late ≠ 0 then ({}, late) else (o, 0)) := Lib.hid (by
              rw [HSPF.out, HQ.out, hii, List.drop_length]; unfold Sp.fillStep; rfl)
            by_cases hla : late = 0
            · have T2 : ((late : Int) != 0) = false := by rw [bne_eq_false_iff_eq]; omega
              have HLA := Lib.hid hla
              clear hla hii
              obtain ⟨v1, v2, v3, hr1, hr2, hr3⟩ := HO1
              have HR4 := Lib.hid (And.intro hr2 hr3)
              have hone := op_one o hr2.1.one hr2.2.1.one hr2.2.2.1.one
              clear hr2 hr3
              go_wp2_with (first | (refine wpList_load_row rfl 80 (.tmp 5) rfl g rfl 80 (opCells o v1 v2 v3).toArray _ _ hr1 Tryz.underlying80 rfl (by kernel_rfl) ?_) | (refine wpList_store_row rfl 80 (.tmp 2) (.tmp 136) rfl w.heap.size (opCells o v1 v2 v3).toArray rfl rfl 80 _ HZ1 (by kernel_rfl) rfl hone ?_))
              refine bodyPost_ret (results_ct rfl _ _ w.heap.size 80 (opCells o v1 v2 v3).toArray (0, 0) _ rfl (setRow_heap _ _ _ _ _ _ HZ1) Tryz.underlying80 rfl (by kernel_rfl)) rfl ?_
              rw [HQ3.out, if_neg (by simp [HLA.out])]
              exact ⟨v1, v2, v3, rfl, HR4.out.1.step (by simp) (fun k hk => setRow_other _ (show k ≠ w.heap.size by have := HR4.out.2 k hk; omega)), setRow_below HB (Nat.le_refl _) _⟩
            · have T2 : ((late : Int) != 0) = true := by rw [bne_iff_ne]; omega
              have HLA := Lib.hid hla
              clear hla hii
              go_wp2_with (refine wpList_store_row rfl 80 (.tmp 2) (.tmp 134) rfl w.heap.size (opCells {} (.slice none 0 0) (.slice none 0 0) (.slice none 0 0)).toArray rfl rfl 80 _ HZ1 (by kernel_rfl) rfl (op_one _ rfl rfl rfl) ?_)
              refine bodyPost_ret (results_ct rfl _ _ w.heap.size 80 (opCells {} (.slice none 0 0) (.slice none 0 0) (.slice none 0 0)).toArray (0, 0) _ rfl (setRow_heap _ _ _ _ _ _ HZ1) Tryz.underlying80 rfl (by kernel_rfl)) rfl ?_
              rw [HQ3.out, if_pos HLA.out]
              exact ⟨_, _, _, rfl, OpRows.zero _ _ _ ⟨rfl, rfl, rfl⟩, setRow_below HB (Nat.le_refl _) _⟩
end Go.Proofs.YthnhfddlmkhgkaaGreatDoor

/- Walks: what some functions of the play package and its laws compute, as contracts. -/
import Derived.Test.YthnhfddlmkhgkaaGreatDoorZPrintP
set_option linter.unusedVariables false
namespace Go.Proofs.YthnhfddlmkhgkaaGreatDoor
open Go.RowKit Go.Proofs.YthnhfddlmkhgkaaGreatDoorW.PrintWords

set_option maxHeartbeats 8000000 in
set_option maxRecDepth 100000 in
theorem print_any (p : Sp.Play) (vp : Value) (w : World) (he : Env w) (hp : PlayV w p vp) (hb : PlayB p) :
    Calls Tryz.prog 19 #[.agg (playCells p.nums vp).toArray] w (W2 w (Sp.print p)) := by
  obtain ⟨na, A, ka, rfl, hra, hla, hoa⟩ := hp
  obtain ⟨N, hN⟩ : ∃ N, N = p.nums := ⟨_, rfl⟩
  rw [← hN]
  rw [← hN] at na
  have HNI : Hid (∀ x ∈ N, i64 x) := Lib.hid (by rw [hN]; exact hb.nums)
  have HN := Lib.hid hN
  have HRO := Lib.hid hra
  have HOB := Lib.hid hb.ops
  obtain ⟨a0, a1, a2, a3, a4, a5, a6, a7, a8, a9, a10, ea⟩ := list11 na
  have HX0 := Lib.hid (pbox_row w N (.slice A p.ops.length ka))
  have HB0 := Lib.hid (pbox_below w N (.slice A p.ops.length ka))
  obtain ⟨W1, hW1⟩ : ∃ W1, W1 = pbox w N (.slice A p.ops.length ka) := ⟨_, rfl⟩
  have hs1 : W1.heap.size = w.heap.size + 1 := by rw [hW1]; exact World.size_alloc _ _
  have HW1 : Hid ((w.alloc (.cells #[.int .i64 a0, .int .i64 a1, .int .i64 a2, .int .i64 a3, .int .i64 a4, .int .i64 a5, .int .i64 a6, .int .i64 a7, .int .i64 a8, .int .i64 a9, .int .i64 a10, .slice A p.ops.length ka] 28)) = W1) := Lib.hid (by rw [hW1, ea]; rfl)
  rw [← hW1] at HX0 HB0
  have HEA := Lib.hid ea
  have HTB := Lib.hid (Lib.tabBelow_of_tabIs (he.below HB0.out).pow)
  have HE := Lib.hid he
  have hc46 : ∀ w2, Calls Tryz.prog 46 #[.pointer (some ⟨w.heap.size, 0, none⟩)] w2 (BRet w2 (.agg (cellsA w.heap.size))) := cells_any w.heap.size
  obtain ⟨PV, hPV⟩ : ∃ PV, PV = cellsA w.heap.size := ⟨_, rfl⟩
  rw [← hPV] at hc46
  have HC46 := Lib.hid hc46
  have HIX : Hid (∀ i : Nat, i < 11 → ∀ w', (Instr.index 100 (.agg PV) (.int .i64 (i : Int))).run Tryz.prog w' = .ok (.pointer (some ⟨w.heap.size, i, none⟩)) w') := Lib.hid (by rw [hPV]; exact cells_index w.heap.size)
  have HPN : Hid (Sp.print p = if Sp.numsOk N = false then ([], 213) else if 2000 < p.ops.length then ([], 216) else match Sp.linesP p.ops with | (some e, _) => ([], e) | (none, t) => if 1048576 < (Sp.headLine N ++ t).length then ([], 216) else (Sp.headLine N ++ t, 0)) := Lib.hid (by unfold Sp.print; rw [← hN]; rfl)
  rw [ea]
  clear hN hra hb hW1 he hc46 hPV ea
  show Calls Tryz.prog 19 #[.agg #[.int .i64 a0, .int .i64 a1, .int .i64 a2, .int .i64 a3, .int .i64 a4, .int .i64 a5, .int .i64 a6, .int .i64 a7, .int .i64 a8, .int .i64 a9, .int .i64 a10, .slice A p.ops.length ka]] w _
  obtain ⟨WB, hWB⟩ : ∃ WB, WB = W1.alloc (.cells wcells.toArray 5 (5, 6)) := ⟨_, rfl⟩
  have hBB : Below W1.heap.size W1 WB := by rw [hWB]; exact (Below.refl _ _).alloc (Nat.le_refl _) _
  have hVB : BytesV WB W1.heap.size (.slice (some ⟨w.heap.size + 1, 0, none⟩) 5 5) Sp.wrld := .inr ⟨w.heap.size + 1, rfl, rfl, by omega, by rw [hWB, ← hs1]; exact heap_alloc_new _ _⟩
  have kc : (convert 45 45 (.slice (some ⟨w.heap.size + 1, 0, none⟩) 5 5)).run Tryz.prog ((w.alloc (.cells #[.int .i64 a0, .int .i64 a1, .int .i64 a2, .int .i64 a3, .int .i64 a4, .int .i64 a5, .int .i64 a6, .int .i64 a7, .int .i64 a8, .int .i64 a9, .int .i64 a10, .slice A p.ops.length ka] 28)).alloc (.cells #[.int .u8 119, .int .u8 111, .int .u8 114, .int .u8 108, .int .u8 100] 5)) = .ok (.slice (some ⟨w.heap.size + 1, 0, none⟩) 5 5) WB := by
    rw [HW1.out, hWB, ← hs1]
    exact Lib.run_convert_bytes_const W1 45 5 wcells.toArray 5 5 Tryz.underlying45 Tryz.underlying5
  clear hWB
  go_enter Tryz.func19, Tryz.ntmps19
  go_wp2_with (go_at_call 46; refine (HC46.out _).mono ?_; rintro e w2 ⟨rfl, hb2⟩)
  have hB2 : Below W1.heap.size W1 w2 := hBB.trans (hb2.mono hBB.size)
  have hV2 := hVB.below hb2
  clear hBB hVB hb2 kc HC46 HW1
  go_loopw [4, 14] (fun v4 v14 wr => ∃ (i : Nat) (out : Sp.Bs), v14 = .int .i64 (i : Int) ∧ i ≤ 11 ∧ out.length ≤ 5 + 22 * i ∧ BytesV wr W1.heap.size v4 out ∧ (0 < i → RowU wr W1.heap.size v4 out) ∧ Hid (out = Sp.wrld ++ (N.take i).flatMap (fun x => 32 :: Lib.itoa x)) ∧ Hid (Sp.numsOk (N.take i) = true) ∧ Below W1.heap.size W1 wr) (fun _ v14 _ => 11 - (intOf v14).toNat)
  case atStart => exact ⟨0, Sp.wrld, rfl, by omega, by decide, hV2, fun h => absurd h (by omega), Lib.hid (by simp), Lib.hid rfl, hB2⟩
  case round =>
    obtain ⟨i, out, rfl, hi, hol, HV, HR, HO, HNK, HB⟩ := hrel
    clear hV2 hB2
    have HXr : Hid (wr.heap[w.heap.size]? = some (.cells (playCells N (.slice A p.ops.length ka)).toArray 28 (0, 0))) := Lib.hid ((HB.block _ (row_lt HX0.out)).trans HX0.out)
    by_cases hlt : i < 11
    · have hix := HIX.out i hlt
      have hiN : i < N.length := by omega
      obtain ⟨x, hx⟩ : ∃ x, x = N[i]'hiN := ⟨_, rfl⟩
      have hck := play_num HXr.out i hiN
      rw [← hx] at hck
      have HXI : Hid (i64 x) := Lib.hid (HNI.out x (by rw [hx]; exact List.getElem_mem _))
      have HTK : Hid (N.take (i + 1) = N.take i ++ [x]) := Lib.hid (by rw [List.take_succ_eq_append_getElem hiN, ← hx])
      have HTD : Hid (N = N.take i ++ x :: N.drop (i + 1)) := Lib.hid (by
        conv => lhs; rw [← List.take_append_drop i N]
        rw [List.drop_eq_getElem_cons hiN, ← hx])
      have HCK : Hid (∀ w3, Below W1.heap.size W1 w3 → w3.cell? ⟨w.heap.size, i, none⟩ = some (.int .i64 x)) := Lib.hid (fun w3 h => by rw [hx]; exact play_num ((h.block _ (row_lt HX0.out)).trans HX0.out) i hiN)
      clear hx hiN
      by_cases cb : x < 0
      · have T3 : decide (x < 0) = true := decide_eq_true cb
        have HQ : Hid (Sp.print p = ([], 213)) := Lib.hid (by
          rw [HPN.out, if_pos]
          rw [HTD.out, Sp.numsOk, List.all_append, List.all_cons, decide_eq_false (by omega)]
          simp)
        clear cb
        go_wp2
        go_ret2
        rw [HQ.out]
        exact ⟨rfl, HB0.out.trans (HB.mono HB0.out.size)⟩
      · have T3 : decide (x < 0) = false := decide_eq_false cb
        by_cases cm : 1073741824 < x
        · have T4 : decide (1073741824 < x) = true := decide_eq_true cm
          have HQ : Hid (Sp.print p = ([], 213)) := Lib.hid (by
            rw [HPN.out, if_pos]
            rw [HTD.out, Sp.numsOk, List.all_append, List.all_cons, decide_eq_false (by unfold Sp.most; omega)]
            simp)
          clear cb cm
          go_wp2
          go_ret2
          rw [HQ.out]
          exact ⟨rfl, HB0.out.trans (HB.mono HB0.out.size)⟩
        · have T4 : decide (1073741824 < x) = false := decide_eq_false cm
          have HNK2 : Hid (Sp.numsOk (N.take (i + 1)) = true) := Lib.hid (by
            have h := HNK.out
            rw [HTK.out]
            unfold Sp.numsOk at *
            rw [List.all_append, h, List.all_cons, List.all_nil, decide_eq_true (by unfold Sp.most; omega)]
            rfl)
          clear cb cm
          have HXIL := Lib.hid (Lib.itoa_length_le x HXI.out.1 HXI.out.2)
          go_wp2_with (first | (at_builtin; refine ap_b1 (W := wr) (base := W1.heap.size) (w0 := W1) (v := u4) (l := out) (c := 32) rfl rfl rfl rfl rfl HV HB HB.size (by omega) ?_; intro v5 w3 HO3 HB3; have hck3 := HCK.out w3 HB3) | (go_at_call 47; refine (appint_any x HXI.out W1.heap.size v5 (out ++ [32]) w3 HO3 HB3.size (by simp; omega) (HTB.out.on HB3)).mono ?_; rintro e w5 ⟨v6, rfl, HO5, HB5⟩))
          go_roundw
          case rel => exact ⟨i + 1, out ++ [32] ++ Lib.itoa x, by go_num, by omega, by have := HXIL.out; simp; omega, .inl HO5, fun _ => HO5, Lib.hid (by rw [HTK.out, HO.out]; simp), HNK2, HB3.trans HB5⟩
          case measure => simp [intOf]; omega
    · have HRW := HR (by omega)
      have HNT : Hid (Sp.numsOk N = true) := Lib.hid (by have h := HNK.out; rwa [List.take_of_length_le (by omega)] at h)
      have HOT : Hid (out ++ [10] = Sp.headLine N) := Lib.hid (by rw [HO.out, List.take_of_length_le (by omega)]; rfl)
      have hol2 : out.length ≤ 247 := by omega
      have HCO : Hid (∀ w3, Below W1.heap.size W1 w3 → w3.cell? ⟨w.heap.size, 11, none⟩ = some (.slice A p.ops.length ka)) := Lib.hid (fun w3 h => play_ops ((h.block _ (row_lt HX0.out)).trans HX0.out) na)
      clear HV HR HO HNK hol
      by_cases cl : 2000 < p.ops.length
      · have T5 : decide (2000 < (p.ops.length : Int)) = true := decide_eq_true (by omega)
        have HQ : Hid (Sp.print p = ([], 216)) := Lib.hid (by rw [HPN.out, if_neg (by rw [HNT.out]; simp), if_pos cl])
        clear cl
        go_wp2_with (first | (at_builtin; refine ap_b1 (W := wr) (base := W1.heap.size) (w0 := W1) (v := u4) (l := out) (c := 10) rfl rfl rfl rfl rfl (.inl HRW) HB HB.size (by omega) ?_; intro v5 w3 HO3 HB3; have hck3 := HCO.out w3 HB3))
        go_ret2
        rw [HQ.out]
        exact ⟨rfl, HB0.out.trans (HB3.mono HB0.out.size)⟩
      · have T5 : decide (2000 < (p.ops.length : Int)) = false := decide_eq_false (by omega)
        have HPN2 : Hid (Sp.print p = match Sp.linesP p.ops with | (some e, _) => ([], e) | (none, t) => if 1048576 < (Sp.headLine N ++ t).length then ([], 216) else (Sp.headLine N ++ t, 0)) := Lib.hid (by rw [HPN.out, if_neg (by rw [HNT.out]; simp), if_neg cl])
        have hl2 : p.ops.length ≤ 2000 := by omega
        clear cl
        go_wp2_with (first | (at_builtin; refine ap_b1 (W := wr) (base := W1.heap.size) (w0 := W1) (v := u4) (l := out) (c := 10) rfl rfl rfl rfl rfl (.inl HRW) HB HB.size (by omega) ?_; intro v5 w3 HO3 HB3; have hck3 := HCO.out w3 HB3))
        obtain ⟨HD, hHD⟩ : ∃ HD, HD = Sp.headLine N := ⟨_, rfl⟩
        have hhl : HD.length ≤ 248 := by rw [hHD, ← HOT.out]; simp; omega
        rw [HOT.out, ← hHD] at HO3
        have HHD := Lib.hid hHD
        clear hHD HRW HPN HNT HOT hck3 hol2 HB
        have hdec : decide ((i : Int) < 11) = false := decide_eq_false (by omega)
        rw [hdec]
        clear hdec
        go_loopw [4, 46] (fun v4 v46 wq => ∃ (j : Nat) (acc : Sp.Bs), v46 = .int .i64 (j : Int) ∧ j ≤ p.ops.length ∧ acc.length ≤ 104857681 * j ∧ RowU wq W1.heap.size v4 (HD ++ acc) ∧ Hid (Sp.linesP p.ops = ((Sp.linesP (p.ops.drop j)).1, acc ++ (Sp.linesP (p.ops.drop j)).2)) ∧ Below W1.heap.size W1 wq) (fun _ v46 _ => p.ops.length - (intOf v46).toNat)
        case atStart => exact ⟨0, [], rfl, by omega, by simp, by simpa using HO3, Lib.hid (by simp), HB3⟩
        case round =>
          obtain ⟨j, acc, rfl, hj, hal, HRJ, HLP, HBJ⟩ := hrel
          clear HO3
          by_cases hltj : j < p.ops.length
          · obtain ⟨ad, s1, s2, s3, hA, hOV, hCC⟩ := (HRO.out.below (HB0.out.trans (HBJ.mono HB0.out.size))).at_ j hltj
            obtain ⟨o, ho⟩ : ∃ o, o = p.ops[j]'hltj := ⟨_, rfl⟩
            rw [← ho] at hOV hCC
            have HOBo : Hid (OpB o) := Lib.hid (HOB.out o (by rw [ho]; exact List.getElem_mem _))
            have hll := line_len HOBo.out
            obtain ⟨t, er, hln⟩ : ∃ t er, Sp.line o = (t, er) := ⟨_, _, rfl⟩
            rw [hln] at hll
            have HC48 : Hid (∀ w5, Below wr.heap.size wr w5 → Calls Tryz.prog 48 #[.agg (opCells o s1 s2 s3).toArray] w5 (Go.Proofs.YthnhfddlmkhgkaaGreatDoor.W2 w5 (t, er))) := Lib.hid (fun w5 hb => by
              rw [← hln]
              obtain ⟨⟨a1, b1, c1, d1⟩, ⟨a2, b2, c2, d2⟩, a3, b3, c3, d3⟩ := hOV
              exact line_any o s1 s2 s3 w5 (HE.out.below ((HB0.out.trans (HBJ.mono HB0.out.size)).trans (hb.mono (Nat.le_trans HB0.out.size HBJ.size)))) ⟨⟨a1, b1, c1, d1.below hb⟩, ⟨a2, b2, c2, d2.below hb⟩, a3, b3, c3, d3.below hb⟩ HOBo.out)
            have HLN := Lib.hid hln
            have HOE := Lib.hid ho
            have HCC := Lib.hid hCC
            have hone : ∀ u ∈ opCells o s1 s2 s3, u.oneCell' = true := by
              obtain ⟨⟨a1, b1, c1, d1⟩, ⟨a2, b2, c2, d2⟩, a3, b3, c3, d3⟩ := hOV
              exact opCells_one o (by rw [c1]; rfl) (by rw [c2]; rfl) (by rw [c3]; rfl)
            have HONE := Lib.hid hone
            clear hln ho hOV hCC hone
            subst hA
            have q2 : (0 : Int) ≤ (j : Int) ∧ (j : Int) < (p.ops.length : Int) := ⟨by omega, by omega⟩
            have HHL : Hid (∀ x : Sp.Bs, x.length ≤ 104857680 → (HD ++ acc).length + x.length ≤ 140737488355328 ∧ (HD ++ acc ++ x).length + 1 ≤ 140737488355328) := Lib.hid (fun x hx => by
              have h1 : 104857681 * j ≤ 104857681 * 2000 := Nat.mul_le_mul_left _ (by omega)
              simp only [List.length_append]
              omega)
            obtain ⟨W5, hW5⟩ : ∃ W5, W5 = (wr.alloc (.cells #[.int .i64 0, .int .i64 0, .int .i64 0, .int .i64 0, .int .i64 0, .int .i64 0, .int .i64 0, .int .i64 0, .int .i64 0, .int .i64 0, .string ⟨#[]⟩, .string ⟨#[]⟩, .string ⟨#[]⟩, .slice none 0 0, .slice none 0 0, .slice none 0 0] 80)).setRow wr.heap.size (opCells o s1 s2 s3).toArray := ⟨_, rfl⟩
            have hz5 : (wr.alloc (.cells #[.int .i64 0, .int .i64 0, .int .i64 0, .int .i64 0, .int .i64 0, .int .i64 0, .int .i64 0, .int .i64 0, .int .i64 0, .int .i64 0, .string ⟨#[]⟩, .string ⟨#[]⟩, .string ⟨#[]⟩, .slice none 0 0, .slice none 0 0, .slice none 0 0] 80)).heap[wr.heap.size]? = some (.cells #[.int .i64 0, .int .i64 0, .int .i64 0, .int .i64 0, .int .i64 0, .int .i64 0, .int .i64 0, .int .i64 0, .int .i64 0, .int .i64 0, .string ⟨#[]⟩, .string ⟨#[]⟩, .string ⟨#[]⟩, .slice none 0 0, .slice none 0 0, .slice none 0 0] 80 (0, 0)) := heap_alloc_new _ _
            have HB5 : Hid (Below wr.heap.size wr W5) := Lib.hid (by rw [hW5]; exact setRow_below ((Below.refl _ _).alloc (Nat.le_refl _) _) (Nat.le_refl _) _)
            have HX5 : Hid (W5.heap[wr.heap.size]? = some (.cells (opCells o s1 s2 s3).toArray 80 (0, 0))) := Lib.hid (by rw [hW5]; exact setRow_heap _ _ _ _ _ _ hz5)
            have HWW : Hid (∀ w6, Below W5.heap.size W5 w6 → RowU w6 W1.heap.size u4 (HD ++ acc) ∧ Below W1.heap.size W1 w6) := Lib.hid (fun w6 h => by
              have hb := HB5.out.trans (h.mono HB5.out.size)
              exact ⟨Kd.R_below HRJ hb, HBJ.trans (hb.mono HBJ.size)⟩)
            have HW5 := Lib.hid hW5.symm
            have HZ5 := Lib.hid hz5
            have hone2 : ((opCells o s1 s2 s3).toArray.all (·.oneCell')) = true := by rw [List.all_toArray]; exact List.all_eq_true.2 HONE.out
            clear hW5 hz5
            by_cases he0 : er = 0
            · have T6 : ((er : Int) != 0) = false := by rw [bne_eq_false_iff_eq]; omega
              have HL0 : Hid (Sp.linesP p.ops = ((Sp.linesP (p.ops.drop (j + 1))).1, (acc ++ (t ++ [10])) ++ (Sp.linesP (p.ops.drop (j + 1))).2)) := Lib.hid (by
                have h := linesP_snoc HLP.out hltj (by rw [← HOE.out, HLN.out]; exact he0)
                rw [← HOE.out, HLN.out] at h
                exact h)
              clear he0
              go_wp2_with (first | (refine wpList_load_any rfl 80 (.tmp 48) rfl (ad.add (j * 16)) rfl (opCells o s1 s2 s3) _ HCC.out Tryz.underlying80 rfl (by kernel_rfl) ?_) | (refine wpList_store_row rfl 80 (.tmp 8) (.tmp 49) rfl wr.heap.size (opCells o s1 s2 s3).toArray rfl rfl 80 _ HZ5.out (by kernel_rfl) rfl hone2 ?_; rw [HW5.out]) | (refine wpList_load_row rfl 80 (.tmp 8) rfl wr.heap.size rfl 80 (opCells o s1 s2 s3).toArray _ _ HX5.out Tryz.underlying80 rfl (by kernel_rfl) ?_) | (go_at_call 48; refine (HC48.out _ HB5.out).mono ?_; rintro e w6 ⟨rfl, hb6⟩; have HW6 := Lib.hid (HWW.out _ hb6)) | (at_builtin; first | (refine ap_str (W := w6) (base := W1.heap.size) (w0 := W1) (v := u4) (l := HD ++ acc) (c := t) rfl rfl rfl rfl HW6.out.1 HW6.out.2 HW6.out.2.size (HHL.out t hll).1 ?_; intro v7 w7 HO7 HB7) | (refine ap_b1 (W := w7) (base := W1.heap.size) (w0 := W1) (v := v7) (l := HD ++ acc ++ t) (c := 10) rfl rfl rfl rfl rfl (.inl HO7) HB7 HB7.size (HHL.out t hll).2 ?_; intro v8 w8 HO8 HB8)))
              go_roundw
              case rel => exact ⟨j + 1, acc ++ (t ++ [10]), by go_num, by omega, by simp only [List.length_append, List.length_cons, List.length_nil]; omega, by simpa [List.append_assoc] using HO8, HL0, HB8⟩
              case measure => simp [intOf]; omega
            · have T6 : ((er : Int) != 0) = true := by rw [bne_iff_ne]; omega
              have HQ : Hid (Sp.print p = ([], er)) := Lib.hid (by
                have h := linesP_err HLP.out hltj (by rw [← HOE.out, HLN.out]; exact he0)
                rw [← HOE.out, HLN.out] at h
                rw [HPN2.out]
                cases hq : Sp.linesP p.ops with
                | mk e2 t2 =>
                  rw [hq] at h
                  simp only at h
                  subst h
                  rfl)
              clear he0
              go_wp2_with (first | (refine wpList_load_any rfl 80 (.tmp 48) rfl (ad.add (j * 16)) rfl (opCells o s1 s2 s3) _ HCC.out Tryz.underlying80 rfl (by kernel_rfl) ?_) | (refine wpList_store_row rfl 80 (.tmp 8) (.tmp 49) rfl wr.heap.size (opCells o s1 s2 s3).toArray rfl rfl 80 _ HZ5.out (by kernel_rfl) rfl hone2 ?_; rw [HW5.out]) | (refine wpList_load_row rfl 80 (.tmp 8) rfl wr.heap.size rfl 80 (opCells o s1 s2 s3).toArray _ _ HX5.out Tryz.underlying80 rfl (by kernel_rfl) ?_) | (go_at_call 48; refine (HC48.out _ HB5.out).mono ?_; rintro e w6 ⟨rfl, hb6⟩; have HW6 := Lib.hid (HWW.out _ hb6)))
              go_ret2
              rw [HQ.out]
              exact ⟨rfl, HB0.out.trans (HW6.out.2.mono HB0.out.size)⟩
          · have HLE : Hid (Sp.linesP p.ops = (none, acc)) := Lib.hid (by
              have h := HLP.out
              rw [show j = p.ops.length by omega, List.drop_length] at h
              simpa [Sp.linesP] using h)
            obtain ⟨FT, hFT⟩ : ∃ FT, FT = HD ++ acc := ⟨_, rfl⟩
            rw [← hFT] at HRJ
            have hcv := own_string (P := Tryz.prog) Tryz.underlying45 Tryz.underlying5 Tryz.underlying9 (Kd.own_of_R HRJ)
            rw [str_us] at hcv
            obtain ⟨A4, c4, hv4, _, _⟩ := OU.reads (RowU.o HRJ)
            subst hv4
            have HPT : Hid (Sp.print p = if 1048576 < FT.length then ([], 216) else (FT, 0)) := Lib.hid (by rw [HPN2.out, HLE.out, hFT, HHD.out])
            clear hFT
            by_cases cz : 1048576 < FT.length
            · have T7 : decide (1048576 < (FT.length : Int)) = true := decide_eq_true (by omega)
              have HQ : Hid (Sp.print p = ([], 216)) := Lib.hid (by rw [HPT.out, if_pos cz])
              clear cz
              go_wp2
              go_ret2
              rw [HQ.out]
              exact ⟨rfl, HB0.out.trans (HBJ.mono HB0.out.size)⟩
            · have T7 : decide (1048576 < (FT.length : Int)) = false := decide_eq_false (by omega)
              have HQ : Hid (Sp.print p = (FT, 0)) := Lib.hid (by rw [HPT.out, if_neg cz])
              clear cz
              go_wp2
              go_ret2
              rw [HQ.out]
              exact ⟨rfl, HB0.out.trans (HBJ.mono HB0.out.size)⟩
end Go.Proofs.YthnhfddlmkhgkaaGreatDoor

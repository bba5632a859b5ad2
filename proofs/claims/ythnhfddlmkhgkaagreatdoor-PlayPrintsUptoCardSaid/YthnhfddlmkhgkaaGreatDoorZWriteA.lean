/- Walks: what some functions of the play package and its laws compute, as contracts. -/
import Derived.Test.YthnhfddlmkhgkaaGreatDoorZLawJ
import Derived.Test.YthnhfddlmkhgkaaGreatDoorZCallsC
set_option linter.unusedVariables false
namespace Go.Proofs.YthnhfddlmkhgkaaGreatDoor
open Go.RowKit Go.Proofs.YthnhfddlmkhgkaaGreatDoorW.PrintWords

set_option maxHeartbeats 2000000 in
set_option maxRecDepth 100000 in
theorem rasked_any (f : Sp.Bs) (l : UInt8) (L : Int) (hL : L = (l.toNat : Int)) (w : World) (hs : f.length ≤ 1099511627776) :
    Calls Tryz.prog 94 #[.string (str f), .int .u8 L] w (SRet w (.bool (f.contains l))) := by
  have hsz : (str f).size = f.length := str_size f
  have hL0 : 0 ≤ L := by omega
  have hL1 : L ≤ 255 := by have := l.toNat_lt; omega
  have HL := Lib.hid hL
  clear hL
  obtain ⟨r, hr⟩ : ∃ r, r = f.contains l := ⟨_, rfl⟩
  rw [← hr]
  have HR := Lib.hid hr
  clear hr
  go_enter Tryz.func94, Tryz.ntmps94
  go_wp2
  go_loopw [5] (fun v5 wr => ∃ (i : Nat), v5 = .int .i64 (i : Int) ∧ i ≤ f.length ∧ Hid (∀ b ∈ f.take i, b ≠ l) ∧ wr = w) (fun v5 _ => f.length - (intOf v5).toNat)
  case atStart => exact ⟨0, rfl, Nat.zero_le _, Lib.hid (by simp), rfl⟩
  case round =>
    obtain ⟨i, rfl, hi, HQ, rfl⟩ := hrel
    by_cases hlt : i < f.length
    · obtain ⟨c, hc⟩ : ∃ c, c = f[i]'hlt := ⟨_, rfl⟩
      obtain ⟨C, hC⟩ : ∃ C : Int, C = (c.toNat : Int) := ⟨_, rfl⟩
      have hx : ∀ h : i < (str f).size, (((str f)[i]'h).toNat : Int) = C := fun h => by rw [hC, hc]; rfl
      have hC0 : 0 ≤ C := by omega
      have hC1 : C ≤ 255 := by have := c.toNat_lt; omega
      have HC := Lib.hid hc
      have hT : (C == L) = decide (c = l) := by
        rw [Bool.eq_iff_iff, beq_iff_eq, decide_eq_true_iff, hC, HL.out]
        exact ⟨fun h => UInt8.toNat_inj.1 (by omega), fun h => by rw [h]⟩
      clear hc hC
      by_cases e : c = l
      · rw [decide_eq_true e] at hT
        have HF : Hid (true = r) := Lib.hid (by
          rw [HR.out, eq_comm, List.contains_iff_mem, ← e, HC.out]
          exact List.getElem_mem _)
        clear e
        go_wp2
        go_ret
        exact ⟨ret_bool HF.out, rfl⟩
      · rw [decide_eq_false e] at hT
        have HN : Hid (∀ b ∈ f.take (i + 1), b ≠ l) := Lib.hid (fun b hb => by
          rw [List.take_succ_eq_append_getElem hlt] at hb
          rcases List.mem_append.1 hb with h | h
          · exact HQ.out b h
          · rw [List.mem_singleton.1 h, ← HC.out]; exact e)
        clear e
        go_wp2
        go_roundw
        case rel => exact ⟨i + 1, by go_num, by omega, HN, trivial⟩
        case measure => simp [intOf]; omega
    · have HF : Hid (false = r) := Lib.hid (by
        have h := HQ.out
        rw [List.take_of_length_le (by omega)] at h
        rw [HR.out, eq_comm, Bool.eq_false_iff]
        intro q
        exact h l (List.contains_iff_mem.1 q) rfl)
      go_wp2
      go_ret
      exact ⟨ret_bool HF.out, rfl⟩
theorem rnumOk_any (n : Int) (w : World) : Calls Tryz.prog 49 #[.int .i64 n] w (SRet w (.bool (decide (0 ≤ n ∧ n ≤ 1073741824)))) := by
  obtain ⟨r, hr⟩ : ∃ r, r = decide (0 ≤ n ∧ n ≤ 1073741824) := ⟨_, rfl⟩
  rw [← hr]
  have HR := Lib.hid hr
  clear hr
  go_enter Tryz.func49, Tryz.ntmps49
  go_wp2
  all_goals go_ret
  all_goals (refine ⟨ret_bool ?_, rfl⟩; rw [HR.out, Bool.eq_iff_iff, decide_eq_true_iff]; first | (simp; omega) | simp_all | omega)
set_option maxHeartbeats 4000000 in
set_option maxRecDepth 100000 in
theorem rtext_any (l : Sp.Bs) (w : World) (hs : l.length ≤ 1099511627776) : Calls Tryz.prog 102 #[.string (str l)] w (BRet w (.string (str (Sp.text l)))) := by
  have hsz : (str l).size = l.length := str_size l
  obtain ⟨z, hz⟩ : ∃ z, z = (str l).toList.isEmpty := ⟨_, rfl⟩
  have T0 : (str l).toList.isEmpty = z := hz.symm
  have HZ : Hid (z = decide (l = [])) := Lib.hid (by
    rw [hz, Lib.toList_data]
    cases l with
    | nil => rfl
    | cons a b => rfl)
  clear hz
  obtain ⟨X, hX⟩ : ∃ X, X = Sp.text l := ⟨_, rfl⟩
  have HX : Hid (X = if l ≠ [] ∧ l.all Sp.isBare = true then l else 34 :: l.flatMap Sp.quo ++ [34]) := Lib.hid (hX.trans (Sp.text_bare l))
  rw [← hX]
  clear hX
  go_enter Tryz.func102, Tryz.ntmps102
  go_wp2
  go_loopw [3, 4] (fun v3 v4 wr => ∃ (i : Nat) (p : Bool), v3 = .bool p ∧ v4 = .int .i64 (i : Int) ∧ i ≤ l.length ∧ Hid (p = (!z && (l.take i).all Sp.isBare)) ∧ w = wr) (fun _ v4 _ => l.length - (intOf v4).toNat)
  case atStart => exact ⟨0, !z, rfl, rfl, Nat.zero_le _, Lib.hid (by simp), rfl⟩
  case round =>
    obtain ⟨i, p, rfl, rfl, hi, HQ, rfl⟩ := hrel
    by_cases hlt : i < l.length
    · obtain ⟨c, hc⟩ : ∃ c, c = l[i]'hlt := ⟨_, rfl⟩
      obtain ⟨C, hC⟩ : ∃ C : Int, C = (c.toNat : Int) := ⟨_, rfl⟩
      have hx : ∀ h : i < (str l).size, (((str l)[i]'h).toNat : Int) = C := fun h => by rw [hC, hc]; rfl
      have hC0 : 0 ≤ C := by omega
      have hC1 : C ≤ 255 := by have := c.toNat_lt; omega
      have HC := Lib.hid hC
      obtain ⟨q, hq⟩ : ∃ q, q = Sp.isBare c := ⟨_, rfl⟩
      have HB83 : Hid (Calls Tryz.prog 83 #[.int .u8 C] w (SRet w (.bool q))) := Lib.hid (by rw [hq]; exact rbare_any c C hC w)
      have HN : Hid ((!z && (l.take (i + 1)).all Sp.isBare) = (p && q)) := Lib.hid (by
        rw [HQ.out, List.take_succ_eq_append_getElem hlt, List.all_append, hq, hc, Bool.and_assoc]
        simp)
      clear hc hC hq
      cases p
      all_goals
        go_wp2_with (go_at_call 83; refine HB83.out.mono ?_; rintro e w1 ⟨rfl, rfl⟩)
        go_roundw
        case rel => exact ⟨i + 1, _, rfl, by go_num, by omega, Lib.hid (by rw [HN.out]; rfl), trivial⟩
        case measure => simp [intOf]; omega
    · have HQ2 : Hid (p = (!z && l.all Sp.isBare)) := Lib.hid (by rw [HQ.out, List.take_of_length_le (by omega)])
      clear HQ
      cases p with
      | true =>
        have HF : Hid (l = X) := Lib.hid (by
          have h := HQ2.out
          rw [eq_comm, Bool.and_eq_true, HZ.out] at h
          rw [HX.out, if_pos ⟨by simpa using h.1, h.2⟩])
        go_wp2
        go_ret
        rw [HF.out]
        exact ⟨rfl, Below.refl _ _⟩
      | false =>
        have HF : Hid (34 :: l.flatMap Sp.quo ++ [34] = X) := Lib.hid (by
          have h := HQ2.out
          rw [HZ.out] at h
          rw [HX.out, if_neg (fun q => by rw [q.2, decide_eq_false q.1] at h; cases h)])
        clear HQ2 HX
        go_wp2
        have HO0 : RowU (w.alloc (.cells #[.int .u8 34] 5)) w.heap.size (.slice (some ⟨w.heap.size, 0, none⟩) 1 1) [34] := RowU.lit (cells := [.int .u8 34]) (Nat.le_refl _) rfl (by omega) rfl
        have HB0 := Lib.hid ((Below.refl w.heap.size w).alloc (Nat.le_refl _) (.cells #[.int .u8 34] 5))
        go_loopw [6, 7] (fun v6 v7 wr => ∃ (i : Nat) (o : Sp.Bs), v7 = .int .i64 (i : Int) ∧ i ≤ l.length ∧ o.length ≤ 4 * i + 1 ∧ RowU wr w.heap.size v6 o ∧ Hid (34 :: l.flatMap Sp.quo = o ++ (l.drop i).flatMap Sp.quo) ∧ Below w.heap.size w wr) (fun _ v7 _ => l.length - (intOf v7).toNat)
        case atStart => exact ⟨0, [34], rfl, Nat.zero_le _, by simp, HO0, Lib.hid (by simp), HB0.out⟩
        case round =>
          obtain ⟨i, o, rfl, hi, ho, HO, HQ, HBr⟩ := hrel
          clear HO0
          by_cases hlt : i < l.length
          · obtain ⟨c, hc⟩ : ∃ c, c = l[i]'hlt := ⟨_, rfl⟩
            obtain ⟨C, hC⟩ : ∃ C : Int, C = (c.toNat : Int) := ⟨_, rfl⟩
            have hx : ∀ h : i < (str l).size, (((str l)[i]'h).toNat : Int) = C := fun h => by rw [hC, hc]; rfl
            have hC0 : 0 ≤ C := by omega
            have hC1 : C ≤ 255 := by have := c.toNat_lt; omega
            have T34 : (C == 34) = decide (c = 34) := u8_eqb 34 hC rfl
            have T92 : (C == 92) = decide (c = 92) := u8_eqb 92 hC rfl
            have T32 : decide (C < 32) = decide (c < 32) := u8_ltb 32 hC rfl
            have T126 : decide (126 < C) = decide (126 < c) := u8_gtb 126 hC rfl
            have hcat : 34 :: l.flatMap Sp.quo = (o ++ Sp.quo c) ++ (l.drop (i + 1)).flatMap Sp.quo := by rw [HQ.out, List.drop_eq_getElem_cons hlt, ← hc]; simp
            have HC := Lib.hid hC
            clear hc HQ
            by_cases e1 : c = 34 ∨ c = 92
            · have HFN : Hid (34 :: l.flatMap Sp.quo = (o ++ [92] ++ [c]) ++ (l.drop (i + 1)).flatMap Sp.quo) := Lib.hid (by rw [hcat, Sp.quo, if_pos e1]; simp)
              clear hcat hC
              rcases e1 with e | e
              all_goals
                simp only [e, decide_true, decide_false, show ¬ (92 : UInt8) = 34 by decide] at T34 T92
                go_wp2_with (at_builtin; first | (refine ap_u8 (W := wr) (base := w.heap.size) (w0 := w) (v := u6) (l := o) (c := 92) rfl rfl rfl rfl rfl HO HBr HBr.size (by omega) ?_; intro v1 w1 HO1 HB1 j1 j2; clear j1 j2) | (refine ap_u8 (W := w1) (base := w.heap.size) (w0 := w) (v := v1) (l := o ++ [92]) (c := c) rfl rfl rfl rfl HC.out HO1 HB1 HB1.size (by simp; omega) ?_; intro v2 w2 HO2 HB2 j1 j2; clear j1 j2))
                go_roundw
                case rel => exact ⟨i + 1, o ++ [92] ++ [c], by go_num, by omega, by simp; omega, HO2, HFN, HB2⟩
                case measure => simp [intOf]; omega
            · by_cases e2 : c < 32 ∨ 126 < c
              · have HFN : Hid (34 :: l.flatMap Sp.quo = (o ++ [92] ++ [120] ++ [Sp.nib (c.toNat / 16)] ++ [Sp.nib (c.toNat % 16)]) ++ (l.drop (i + 1)).flatMap Sp.quo) := Lib.hid (by rw [hcat, Sp.quo, if_neg e1, if_pos e2]; simp [Sp.two])
                simp only [not_or] at e1
                simp only [e1.1, e1.2, decide_false] at T34 T92
                obtain ⟨N1, hN1⟩ : ∃ N : Int, N = ((Sp.nib (c.toNat / 16)).toNat : Int) := ⟨_, rfl⟩
                obtain ⟨N2, hN2⟩ : ∃ N : Int, N = ((Sp.nib (c.toNat % 16)).toNat : Int) := ⟨_, rfl⟩
                have q1 : 0 ≤ C / 16 ∧ C / 16 < 16 := by omega
                have q2 : 0 ≤ C % 16 ∧ C % 16 < 16 := by omega
                have hx1 : ∀ h, (((⟨#[48, 49, 50, 51, 52, 53, 54, 55, 56, 57, 97, 98, 99, 100, 101, 102]⟩ : ByteArray)[(C / 16).toNat]'h).toNat : Int) = N1 := fun h => by
                  rw [digs_at, hN1]; congr 3; omega
                have hx2 : ∀ h, (((⟨#[48, 49, 50, 51, 52, 53, 54, 55, 56, 57, 97, 98, 99, 100, 101, 102]⟩ : ByteArray)[(C % 16).toNat]'h).toNat : Int) = N2 := fun h => by
                  rw [digs_at, hN2]; congr 3; omega
                have HX1 := Lib.hid hN1
                have HX2 := Lib.hid hN2
                clear hN1 hN2 hC hcat
                have HE4 : Hid (126 < c → ¬ c < 32) := Lib.hid (fun e3 h1 => by
                  have h2 := UInt8.lt_iff_toNat_lt.1 h1
                  have h3 := UInt8.lt_iff_toNat_lt.1 e3
                  have k1 : (32 : UInt8).toNat = 32 := rfl
                  have k2 : (126 : UInt8).toNat = 126 := rfl
                  omega)
                rcases e2 with e3 | e3
                all_goals
                  first | simp only [e3, decide_true] at T32 | simp only [e3, HE4.out e3, decide_true, decide_false] at T126 T32
                  go_wp2_with (at_builtin; first | (refine ap_u8 (W := wr) (base := w.heap.size) (w0 := w) (v := u6) (l := o) (c := 92) rfl rfl rfl rfl rfl HO HBr HBr.size (by omega) ?_; intro v1 w1 HO1 HB1 j1 j2; clear j1 j2) | (refine ap_u8 (W := w1) (base := w.heap.size) (w0 := w) (v := v1) (l := o ++ [92]) (c := 120) rfl rfl rfl rfl rfl HO1 HB1 HB1.size (by simp; omega) ?_; intro v2 w2 HO2 HB2 j1 j2; clear j1 j2) | (refine ap_u8 (W := w2) (base := w.heap.size) (w0 := w) (v := v2) (l := o ++ [92] ++ [120]) (c := Sp.nib (c.toNat / 16)) rfl rfl rfl rfl HX1.out HO2 HB2 HB2.size (by simp; omega) ?_; intro v3 w3 HO3 HB3 j1 j2; clear j1 j2) | (refine ap_u8 (W := w3) (base := w.heap.size) (w0 := w) (v := v3) (l := o ++ [92] ++ [120] ++ [Sp.nib (c.toNat / 16)]) (c := Sp.nib (c.toNat % 16)) rfl rfl rfl rfl HX2.out HO3 HB3 HB3.size (by simp; omega) ?_; intro v4 w4 HO4 HB4 j1 j2; clear j1 j2))
                  go_roundw
                  case rel => exact ⟨i + 1, o ++ [92] ++ [120] ++ [Sp.nib (c.toNat / 16)] ++ [Sp.nib (c.toNat % 16)], by go_num, by omega, by simp; omega, HO4, HFN, HB4⟩
                  case measure => simp [intOf]; omega
              · have HFN : Hid (34 :: l.flatMap Sp.quo = (o ++ [c]) ++ (l.drop (i + 1)).flatMap Sp.quo) := Lib.hid (by rw [hcat, Sp.quo, if_neg e1, if_neg e2])
                clear hcat hC
                simp only [not_or] at e1 e2
                simp only [e1.1, e1.2, e2.1, e2.2, decide_false] at T34 T92 T32 T126
                go_wp2_with (at_builtin; refine ap_u8 (W := wr) (base := w.heap.size) (w0 := w) (v := u6) (l := o) (c := c) rfl rfl rfl rfl HC.out HO HBr HBr.size (by omega) ?_; intro v1 w2 HO2 HB2 _ _)
                go_roundw
                case rel => exact ⟨i + 1, o ++ [c], by go_num, by omega, by simp; omega, HO2, HFN, HB2⟩
                case measure => simp [intOf]; omega
          · have HN : Hid (o ++ [34] = X) := Lib.hid (by
              have h2 := HQ.out
              rw [List.drop_eq_nil_of_le (by omega), List.flatMap_nil, List.append_nil] at h2
              rw [← HF.out, ← h2])
            go_wp2_with (at_builtin; refine ap_u8 (W := wr) (base := w.heap.size) (w0 := w) (v := u6) (l := o) (c := 34) rfl rfl rfl rfl rfl HO HBr HBr.size (by omega) ?_; intro v1 w2 HO2 HB2 _ _; have hcv := own_string (P := Tryz.prog) Tryz.underlying45 Tryz.underlying5 Tryz.underlying9 (Kd.own_of_R HO2))
            go_ret
            refine ⟨?_, HB2⟩
            show Ending.returned (.string (strOfNums (us (o ++ [34])))) = _
            rw [str_us, HN.out]
end Go.Proofs.YthnhfddlmkhgkaaGreatDoor

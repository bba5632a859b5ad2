/- Walks: what some functions of the play package and its laws compute, as contracts. -/
import Derived.Test.YthnhfddlmkhgkaaGreatDoorZRefAll
set_option linter.unusedVariables false
namespace Go.Proofs.YthnhfddlmkhgkaaGreatDoor
open Go.RowKit Go.Proofs.YthnhfddlmkhgkaaGreatDoorW.PrintWords

set_option maxHeartbeats 2000000 in
set_option maxRecDepth 100000 in
theorem rkindOf_any (l : Sp.Bs) (w : World) (he : EnvP w) :
    Calls Tryz.prog 85 #[.string (str l)] w (BRet w (.int .i64 (Sp.findRow Sp.stepRows l : Nat))) := by
  have HE := Lib.hid he
  clear he
  go_enter Tryz.func85, Tryz.ntmps85
  go_wp2
  go_loopw [3] (fun v3 wr => ∃ (i : Nat), v3 = .int .i64 (i : Int) ∧ 1 ≤ i ∧ i ≤ 15 ∧ Hid (∀ j, j < i → 0 < j → (Sp.stepRows.getD j ([], [])).1 ≠ l) ∧ Below w.heap.size w wr) (fun v3 _ => 15 - (intOf v3).toNat)
  case atStart => exact ⟨1, rfl, by omega, by omega, Lib.hid (fun j h => by omega), Below.refl _ _⟩
  case round =>
    obtain ⟨i, rfl, hi0, hi, HN, HB⟩ := hrel
    by_cases hlt : i < 15
    · have hcell := col_cell gNames (HE.out.below HB).names i (by have : Sp.namesR.length = 15 := rfl; omega)
      rw [show Sp.namesR.getD i [] = (Sp.stepRows.getD i ([], [])).1 from row_get i hlt] at hcell
      obtain ⟨n, hn⟩ : ∃ n, n = (Sp.stepRows.getD i ([], [])).1 := ⟨_, rfl⟩
      rw [← hn] at hcell
      have HX := Lib.hid hn
      have HL := Lib.hid hlt
      clear hn
      have T := str_eqb n l
      by_cases he : n = l
      · rw [decide_eq_true he] at T
        have HE2 := Lib.hid he
        clear he
        go_wp2
        go_ret
        exact ⟨ret_int (by rw [Sp.find_some HN.out HL.out hi0 (by rw [← HX.out, HE2.out])]), HB⟩
      · rw [decide_eq_false he] at T
        have HE2 := Lib.hid he
        clear he
        go_wp2
        go_roundw
        case rel => exact ⟨i + 1, by go_num, by omega, by omega, Lib.hid (fun j h h2 => by
          rcases Nat.lt_or_ge j i with h3 | h3
          · exact HN.out j h3 h2
          · obtain rfl : j = i := by omega
            rw [← HX.out]; exact HE2.out), HB⟩
        case measure => simp [intOf]; omega
    · go_wp2
      go_ret
      exact ⟨ret_int (by rw [Sp.find_none (fun j hj => HN.out j (by have : Sp.stepRows.length = 15 := rfl; omega))]; rfl), HB⟩
set_option maxHeartbeats 2000000 in
set_option maxRecDepth 100000 in
theorem rbits_any (s : ByteArray) (w : World) (hs : s.size ≤ 1099511627776) : Calls Tryz.prog 140 #[.string s] w (FlagsPost w (Sp.flags (bl s))) := by
  obtain ⟨R, hR⟩ : ∃ R, R = Sp.flags (bl s) := ⟨_, rfl⟩
  rw [← hR]
  have HR := Lib.hid hR
  clear hR
  go_enter Tryz.func140, Tryz.ntmps140
  go_wp2
  go_loopw [4, 5] (fun v4 v5 wr => ∃ (i : Nat) (o : List Bool), v5 = .int .i64 (i : Int) ∧ i ≤ s.size ∧ o.length ≤ i ∧ RowB wr w.heap.size v4 o ∧ Hid (R = (Sp.flags ((bl s).drop i)).map (o ++ ·)) ∧ Below w.heap.size w wr) (fun _ v5 _ => s.size - (intOf v5).toNat)
  case atStart => exact ⟨0, [], rfl, Nat.zero_le _, Nat.le_refl _, Kd.R_nil _ _ _ _ _, Lib.hid (by rw [HR.out]; simp), Below.refl _ _⟩
  case round =>
    obtain ⟨i, o, rfl, hi, ho, HO, HQ, HB⟩ := hrel
    by_cases hlt : i < s.size
    · have hdr := bl_drop s i hlt
      obtain ⟨c, hc⟩ : ∃ c, c = s[i]'hlt := ⟨_, rfl⟩
      rw [← hc] at hdr
      obtain ⟨C, hC⟩ : ∃ C : Int, C = (c.toNat : Int) := ⟨_, rfl⟩
      have hx : ∀ h : i < s.size, ((s[i]'h).toNat : Int) = C := fun h => by rw [hC, hc]
      have hC0 : 0 ≤ C := by omega
      have hC1 : C ≤ 255 := by have := c.toNat_lt; omega
      have fin : c = 48 ∨ c = 49 → R = (Sp.flags ((bl s).drop (i + 1))).map ((o ++ [c == 49]) ++ ·) := fun q => by
        rw [HQ.out, hdr, Sp.flags, if_pos q, Option.map_map]; simp [Function.comp_def]
      have bad : ¬ (c = 48 ∨ c = 49) → R = none := fun q => by
        rw [HQ.out, hdr, Sp.flags, if_neg q]; rfl
      have T48 : (C != 48) = !decide (c = 48) := u8_neb 48 hC rfl
      have T49 : (C != 49) = !decide (c = 49) := u8_neb 49 hC rfl
      have E49 : (C == 49) = decide (c = 49) := u8_eqb 49 hC rfl
      have HF := Lib.hid (And.intro fin bad)
      clear fin bad hdr hC hc
      by_cases e48 : c = 48
      · have HQ3 : Hid (R = (Sp.flags ((bl s).drop (i + 1))).map ((o ++ [false]) ++ ·)) := Lib.hid (by have h := HF.out.1 (.inl e48); rw [e48] at h; exact h)
        simp only [e48, decide_true, Bool.not_true] at T48
        have e49 : ¬ c = 49 := by rw [e48]; decide
        simp only [e49, decide_false, Bool.not_false] at T49 E49
        clear e48 e49 HF
        go_wp2_with (at_builtin; refine ap_b (base := w.heap.size) (w0 := w) (v := u4) (l := o) (c := false) rfl rfl rfl rfl HO HB HB.size (by omega) ?_; intro v1 w1 HO1 HB1 _ _)
        go_roundw
        case rel => exact ⟨i + 1, o ++ [false], by go_num, by omega, by simp; omega, HO1, HQ3, HB1⟩
        case measure => simp [intOf]; omega
      · by_cases e49 : c = 49
        · have HQ3 : Hid (R = (Sp.flags ((bl s).drop (i + 1))).map ((o ++ [true]) ++ ·)) := Lib.hid (by have h := HF.out.1 (.inr e49); rw [e49] at h; exact h)
          simp only [e48, decide_false, Bool.not_false] at T48
          simp only [e49, decide_true, Bool.not_true] at T49 E49
          clear e48 e49 HF
          go_wp2_with (at_builtin; refine ap_b (base := w.heap.size) (w0 := w) (v := u4) (l := o) (c := true) rfl rfl rfl rfl HO HB HB.size (by omega) ?_; intro v1 w1 HO1 HB1 _ _)
          go_roundw
          case rel => exact ⟨i + 1, o ++ [true], by go_num, by omega, by simp; omega, HO1, HQ3, HB1⟩
          case measure => simp [intOf]; omega
        · have HQ3 : Hid (R = none) := Lib.hid (HF.out.2 (by simp [e48, e49]))
          simp only [e48, decide_false, Bool.not_false] at T48
          simp only [e49, decide_false, Bool.not_false] at T49 E49
          clear e48 e49 HF
          go_wp2
          go_ret2
          exact .inr ⟨HQ3.out, rfl, HB⟩
    · have HF : Hid (R = some o) := Lib.hid (by rw [HQ.out, List.drop_eq_nil_of_le (by rw [bl_len]; omega)]; simp [Sp.flags])
      go_wp2
      go_ret2
      exact .inl ⟨_, o, HF.out, rfl, HO, HB⟩
set_option maxHeartbeats 2000000 in
set_option maxRecDepth 100000 in
theorem rhex_any (s : ByteArray) (w : World) (hs : s.size ≤ 1099511627776) : Calls Tryz.prog 139 #[.string s] w (HexPost w (Sp.hex (bl s))) := by
  obtain ⟨R, hR⟩ : ∃ R, R = Sp.hex (bl s) := ⟨_, rfl⟩
  rw [← hR]
  have HR := Lib.hid hR
  clear hR
  by_cases hodd : s.size % 2 = 1
  · have HF : Hid (R = none) := Lib.hid (by rw [HR.out]; exact hex_odd _ (by rw [bl_len]; exact hodd))
    have T : ((s.size : Int) % 2 != 0) = true := by
      rw [bne_iff_ne]; omega
    clear hodd
    go_enter Tryz.func139, Tryz.ntmps139
    go_wp2
    go_ret2
    exact .inr ⟨HF.out, rfl, Below.refl _ _⟩
  · have T : ((s.size : Int) % 2 != 0) = false := by
      rw [bne_eq_false_iff_eq]; omega
    go_enter Tryz.func139, Tryz.ntmps139
    go_wp2
    go_loopw [4, 5] (fun v4 v5 wr => ∃ (i : Nat) (o : Sp.Bs), v5 = .int .i64 (i : Int) ∧ i ≤ s.size ∧ i % 2 = 0 ∧ o.length ≤ i ∧ RowU wr w.heap.size v4 o ∧ Hid (R = (Sp.hex ((bl s).drop i)).map (o ++ ·)) ∧ Below w.heap.size w wr) (fun _ v5 _ => s.size - (intOf v5).toNat)
    case atStart => exact ⟨0, [], rfl, Nat.zero_le _, rfl, Nat.le_refl _, RowU.nil _ _, Lib.hid (by rw [HR.out]; simp), Below.refl _ _⟩
    case round =>
      obtain ⟨i, o, rfl, hi, hev, ho, HO, HQ, HB⟩ := hrel
      by_cases hlt : i < s.size
      · have hlt1 : i + 1 < s.size := by omega
        have hdr := bl_drop s i hlt
        have hdr1 := bl_drop s (i + 1) hlt1
        obtain ⟨h, hh⟩ : ∃ c, c = s[i]'hlt := ⟨_, rfl⟩
        obtain ⟨l, hl⟩ : ∃ c, c = s[i + 1]'hlt1 := ⟨_, rfl⟩
        rw [← hh] at hdr
        rw [← hl] at hdr1
        obtain ⟨Hn, hHn⟩ : ∃ C : Int, C = (h.toNat : Int) := ⟨_, rfl⟩
        obtain ⟨Ln, hLn⟩ : ∃ C : Int, C = (l.toNat : Int) := ⟨_, rfl⟩
        have hx : ∀ q : i < s.size, ((s[i]'q).toNat : Int) = Hn := fun q => by rw [hHn, hh]
        have hx1 : ∀ q : i + 1 < s.size, ((s[i + 1]'q).toNat : Int) = Ln := fun q => by rw [hLn, hl]
        have fin : 0 ≤ Sp.digit h → 0 ≤ Sp.digit l → R = (Sp.hex ((bl s).drop (i + 1 + 1))).map ((o ++ [Sp.duo h l]) ++ ·) := fun q1 q2 => by
          rw [HQ.out, hdr, hdr1, Sp.hex, if_pos ⟨q1, q2⟩, Option.map_map]; simp [Function.comp_def]
        have bad : ¬ (0 ≤ Sp.digit h ∧ 0 ≤ Sp.digit l) → R = none := fun q => by
          rw [HQ.out, hdr, hdr1, Sp.hex, if_neg q]; rfl
        have HF := Lib.hid (And.intro fin bad)
        clear fin bad hdr hdr1
        have hA := rdigit_any h Hn hHn
        have hB := rdigit_any l Ln hLn
        have HDA := Lib.hid (And.intro (Sp.digit_rng h) (Sp.digit_rng l))
        clear hHn hLn hh hl
        generalize hAA : Sp.digit h = A at *
        generalize hBB : Sp.digit l = B at *
        have HAB := Lib.hid (And.intro hAA hBB)
        clear hAA hBB
        have A1 := HDA.out.1.1
        have A2 := HDA.out.1.2
        have B1 := HDA.out.2.1
        have B2 := HDA.out.2.2
        have HCA := Lib.hid hA
        have HCB := Lib.hid hB
        clear hA hB
        by_cases a0 : 0 ≤ A
        · by_cases b0 : 0 ≤ B
          · have HBI := Lib.hid (duo_sum HAB.out.1 HAB.out.2 a0 b0)
            go_wp2_with (first | (go_at_call 137; ((with_reducible refine (HCA.out _).mono ?_); rintro e w1 ⟨rfl, rfl⟩)) | (go_at_call 137; ((with_reducible refine (HCB.out _).mono ?_); rintro e w1 ⟨rfl, rfl⟩)) | (at_builtin; refine ap_u8 (base := w.heap.size) (w0 := w) (v := u4) (l := o) (c := Sp.duo h l) rfl rfl rfl rfl (by first | exact HBI.out | (simp only [IntKind.wrap_i64]; have := HBI.out; omega) | (have := HBI.out; omega)) HO HB HB.size (by omega) ?_; intro v1 w2 HO2 HB2 _ _))
            go_roundw
            case rel => exact ⟨i + 1 + 1, o ++ [Sp.duo h l], by go_num, by omega, by omega, by simp; omega, HO2, Lib.hid (HF.out.1 a0 b0), HB2⟩
            case measure => simp [intOf]; omega
          · go_wp2_with (first | (go_at_call 137; ((with_reducible refine (HCA.out _).mono ?_); rintro e w1 ⟨rfl, rfl⟩)) | (go_at_call 137; ((with_reducible refine (HCB.out _).mono ?_); rintro e w1 ⟨rfl, rfl⟩)))
            go_ret2
            exact .inr ⟨HF.out.2 (fun q => absurd q.2 (by omega)), rfl, HB⟩
        · go_wp2_with (first | (go_at_call 137; ((with_reducible refine (HCA.out _).mono ?_); rintro e w1 ⟨rfl, rfl⟩)) | (go_at_call 137; ((with_reducible refine (HCB.out _).mono ?_); rintro e w1 ⟨rfl, rfl⟩)))
          go_ret2
          exact .inr ⟨HF.out.2 (fun q => absurd q.1 (by omega)), rfl, HB⟩
      · have HF : Hid (R = some o) := Lib.hid (by rw [HQ.out, List.drop_eq_nil_of_le (by rw [bl_len]; omega)]; simp [Sp.hex])
        go_wp2
        go_ret2
        exact .inl ⟨_, o, HF.out, rfl, HO, HB⟩
theorem rhex_some {x d : Sp.Bs} (h : Sp.hex x = some d) (hx : x.length ≤ 1099511627776) (w : World) : Calls Tryz.prog 139 #[.string (str x)] w (HexS w d) := by
  have h2 := rhex_any (str x) w (by rw [str_size]; exact hx)
  rw [show bl (str x) = x from rfl, h] at h2
  refine h2.mono ?_
  rintro e w1 (⟨v, d2, hs, rfl, hv, hb⟩ | ⟨hs, rfl, hb⟩)
  · injection hs with hs
    subst hs
    obtain ⟨A, c, rfl, hc, hr⟩ := hv.o.reads
    exact ⟨A, c, rfl, hv.o, hb⟩
  · cases hs
theorem rhex_none {x : Sp.Bs} (h : Sp.hex x = none) (hx : x.length ≤ 1099511627776) (w : World) : Calls Tryz.prog 139 #[.string (str x)] w (BRet w (.tuple #[.slice none 0 0, .bool false])) := by
  have h2 := rhex_any (str x) w (by rw [str_size]; exact hx)
  rw [show bl (str x) = x from rfl, h] at h2
  refine h2.mono ?_
  rintro e w1 (⟨v, d2, hs, rfl, hv, hb⟩ | ⟨hs, rfl, hb⟩)
  · cases hs
  · exact ⟨rfl, hb⟩
theorem rbits_some {x : Sp.Bs} {d : List Bool} (h : Sp.flags x = some d) (hx : x.length ≤ 1099511627776) (w : World) : Calls Tryz.prog 140 #[.string (str x)] w (FlagsS w d) := by
  have h2 := rbits_any (str x) w (by rw [str_size]; exact hx)
  rw [show bl (str x) = x from rfl, h] at h2
  refine h2.mono ?_
  rintro e w1 (⟨v, d2, hs, rfl, hv, hb⟩ | ⟨hs, rfl, hb⟩)
  · injection hs with hs
    subst hs
    obtain ⟨A, c, rfl, hc, hr⟩ := hv.o.reads
    exact ⟨A, c, rfl, hv.o, hb⟩
  · cases hs
theorem rbits_none {x : Sp.Bs} (h : Sp.flags x = none) (hx : x.length ≤ 1099511627776) (w : World) : Calls Tryz.prog 140 #[.string (str x)] w (BRet w (.tuple #[.slice none 0 0, .bool false])) := by
  have h2 := rbits_any (str x) w (by rw [str_size]; exact hx)
  rw [show bl (str x) = x from rfl, h] at h2
  refine h2.mono ?_
  rintro e w1 (⟨v, d2, hs, rfl, hv, hb⟩ | ⟨hs, rfl, hb⟩)
  · cases hs
  · exact ⟨rfl, hb⟩
end Go.Proofs.YthnhfddlmkhgkaaGreatDoor

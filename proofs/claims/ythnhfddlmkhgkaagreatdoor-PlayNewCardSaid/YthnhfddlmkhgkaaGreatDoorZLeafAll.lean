/- Walks: what some functions of the play package and its laws compute, as contracts. -/
import Derived.Test.YthnhfddlmkhgkaaGreatDoorZEnv
import Derived.Deep.DeepCutAuto
import Derived.Deep.LoopGhost
import Derived.Lib.OthersKept
import Derived.Lib.Strings
set_option linter.unusedVariables false
namespace Go.Proofs.YthnhfddlmkhgkaaGreatDoor
open Go.RowKit Go.Proofs.YthnhfddlmkhgkaaGreatDoorW.PrintWords

set_option maxHeartbeats 400000 in
theorem digit_any (c : UInt8) (n : Int) (hn : n = (c.toNat : Int)) (w : World) :
    Calls Tryz.prog 135 #[.int .u8 n] w (SRet w (.int .i64 (Sp.digit c))) := by
  have h0 : 0 ≤ n := by omega
  have h1 : n ≤ 255 := by have := c.toNat_lt; omega
  have hd : Sp.digit c = if 48 ≤ n ∧ n ≤ 57 then n - 48 else if 97 ≤ n ∧ n ≤ 102 then n - 87 else if 65 ≤ n ∧ n ≤ 70 then n - 55 else -1 := by
    subst hn; simp only [Sp.digit, Bool.and_eq_true, decide_eq_true_eq, UInt8.le_iff_toNat_le]; norm_cast
  rw [hd]
  clear hd hn
  go_enter Tryz.func135, Tryz.ntmps135
  go_wp2
  all_goals go_ret
  all_goals exact ⟨ret_int (by (repeat' split) <;> omega), rfl⟩

def quotedV (n : Nat) : Option (Sp.Bs × Sp.Bs) → Value
  | some (wd, r) => .tuple #[.string (str wd), .int .i64 ((n : Int) - r.length), .bool true]
  | none => .tuple #[.string ⟨#[]⟩, .int .i64 0, .bool false]

theorem ret_qw {a b : Int} {s : ByteArray} (h : a = b) : Ending.returned (.tuple #[.string s, .int .i64 a, .bool true]) = .returned (.tuple #[.string s, .int .i64 b, .bool true]) := by rw [h]
set_option maxHeartbeats 1000000 in
set_option maxRecDepth 100000 in
theorem quoted_any (s : ByteArray) (w : World) (hs : s.size ≤ 1099511627776) :
    Calls Tryz.prog 75 #[.string s] w (BRet w (quotedV s.size (Sp.quoted (bl s)))) := by
  go_enter Tryz.func75, Tryz.ntmps75
  go_wp2
  go_loopw [5, 6] (fun v5 v6 wr => ∃ (i : Nat) (o : Sp.Bs), v6 = .int .i64 (i : Int) ∧ i ≤ s.size ∧ o.length ≤ i ∧ RowU wr w.heap.size v5 o ∧ Hid (Sp.quoted (bl s) = (Sp.quoted ((bl s).drop i)).map fun p => (o ++ p.1, p.2)) ∧ Below w.heap.size w wr) (fun _ v6 _ => s.size - (intOf v6).toNat)
  case atStart => exact ⟨0, [], rfl, Nat.zero_le _, Nat.le_refl _, RowU.nil _ _, Lib.hid (by simp), Below.refl _ _⟩
  case round =>
    obtain ⟨i, o, rfl, hi, ho, HO, HQ, HB⟩ := hrel
    by_cases hlt : i < s.size
    · have hdr := bl_drop s i hlt
      obtain ⟨c, hc⟩ : ∃ c, c = s[i]'hlt := ⟨_, rfl⟩
      rw [← hc] at hdr
      obtain ⟨C, hC⟩ : ∃ C : Int, C = (c.toNat : Int) := ⟨_, rfl⟩
      have hx : ∀ h : i < s.size, ((s[i]'h).toNat : Int) = C := fun h => by rw [hC, hc]
      have hC255 : 0 ≤ C ∧ C ≤ 255 := by have := c.toNat_lt; omega
      obtain ⟨hC0, hC1⟩ := hC255
      have T34 : (C == 34) = decide (c = 34) := u8_eqb 34 hC rfl
      have T32 : decide (C < 32) = decide (c < 32) := u8_ltb 32 hC rfl
      have T126 : decide (126 < C) = decide (126 < c) := u8_gtb 126 hC rfl
      have T92 : (C != 92) = !decide (c = 92) := u8_neb 92 hC rfl
      have HD := Lib.hid hdr
      have HC := Lib.hid hC
      clear hdr hC hc
      have HX := Lib.hid HQ.out
      by_cases e34 : c = 34
      · simp only [e34, decide_true] at T34
        clear T32 T126 T92
        have hcv := own_string (P := Tryz.prog) Tryz.underlying45 Tryz.underlying5 Tryz.underlying9 (Kd.own_of_R HO)
        go_wp2
        go_ret3
        refine ⟨?_, HB⟩
        rw [HX.out, HD.out, e34, Sp.quoted_q]
        simp only [Option.map_some, List.append_nil, quotedV, str_us]
        exact ret_qw (by rw [List.length_drop, bl_len]; omega)
      simp only [e34, decide_false] at T34
      by_cases e32 : c < 32
      · simp only [e32, decide_true] at T32
        go_wp2
        go_ret3
        refine ⟨?_, HB⟩
        rw [HX.out, HD.out, Sp.quoted_bad e34 (Sp.letter_bad (.inl e32))]
        rfl
      simp only [e32, decide_false] at T32
      by_cases e126 : 126 < c
      · simp only [e126, decide_true] at T126
        go_wp2
        go_ret3
        refine ⟨?_, HB⟩
        rw [HX.out, HD.out, Sp.quoted_bad e34 (Sp.letter_bad (.inr e126))]
        rfl
      simp only [e126, decide_false] at T126
      by_cases e92 : c = 92
      · simp only [e92, decide_true, Bool.not_true] at T92
        by_cases l1 : i + 1 < s.size
        · have hdr1 := bl_drop s (i + 1) l1
          obtain ⟨d, hd⟩ : ∃ d, d = s[i + 1]'l1 := ⟨_, rfl⟩
          rw [← hd] at hdr1
          obtain ⟨D, hD⟩ : ∃ D : Int, D = (d.toNat : Int) := ⟨_, rfl⟩
          have hx1 : ∀ h : i + 1 < s.size, ((s[i + 1]'h).toNat : Int) = D := fun h => by rw [hD, hd]
          have hD255 : 0 ≤ D ∧ D ≤ 255 := by have := d.toNat_lt; omega
          obtain ⟨hD0, hD1⟩ := hD255
          have U34 : (D == 34) = decide (d = 34) := u8_eqb 34 hD rfl
          have U92 : (D == 92) = decide (d = 92) := u8_eqb 92 hD rfl
          have U120 : (D == 120) = decide (d = 120) := u8_eqb 120 hD rfl
          have HD1 := Lib.hid hdr1
          have HDD := Lib.hid hD
          clear hdr1 hD hd
          by_cases e : d = 34 ∨ d = 92
          · have fin : Sp.quoted (bl s) = (Sp.quoted ((bl s).drop (i + 1 + 1))).map fun p => ((o ++ [d]) ++ p.1, p.2) := by
              rw [HX.out, HD.out, HD1.out, e92, Sp.quoted_step (by decide) (Sp.letter_esc e), Option.map_map]
              simp [Function.comp_def]
            have HF := Lib.hid fin
            clear fin
            rcases e with e | e
            all_goals
              simp only [e, decide_true, decide_false, show ¬ (92 : UInt8) = 34 by decide] at U34 U92
              go_wp2_with (at_builtin; refine ap_u8 (base := w.heap.size) (w0 := w) (v := u5) (l := o) (c := d) rfl rfl rfl rfl HDD.out HO HB HB.size (by omega) ?_; intro v1 w1 HO1 HB1 _ _)
              go_roundw
              case rel => exact ⟨i + 1 + 1, o ++ [d], by go_num, by omega, by simp; omega, HO1, HF, HB1⟩
              case measure => simp [intOf]; omega
          · simp only [not_or] at e
            simp only [e.1, e.2, decide_false] at U34 U92
            by_cases l3 : i + 3 < s.size
            · have hdr2 := bl_drop s (i + 1 + 1) (by omega)
              have hdr3 := bl_drop s (i + 1 + 1 + 1) (by omega)
              obtain ⟨h, hh⟩ : ∃ h, h = s[i + 2]'(by omega) := ⟨_, rfl⟩
              obtain ⟨l, hl⟩ : ∃ l, l = s[i + 3]'l3 := ⟨_, rfl⟩
              replace hdr2 : List.drop (i + 1 + 1) (bl s) = h :: List.drop (i + 1 + 1 + 1) (bl s) := by rw [hdr2, hh]
              replace hdr3 : List.drop (i + 1 + 1 + 1) (bl s) = l :: List.drop (i + 1 + 1 + 1 + 1) (bl s) := by rw [hdr3, hl]
              obtain ⟨Hn, hHn⟩ : ∃ D : Int, D = (h.toNat : Int) := ⟨_, rfl⟩
              obtain ⟨Ln, hLn⟩ : ∃ D : Int, D = (l.toNat : Int) := ⟨_, rfl⟩
              have hx2 : ∀ q : i + 2 < s.size, ((s[i + 2]'q).toNat : Int) = Hn := fun q => by rw [hHn, hh]
              have hx3 : ∀ q : i + 3 < s.size, ((s[i + 3]'q).toNat : Int) = Ln := fun q => by rw [hLn, hl]
              have HDL := Lib.hid (And.intro hdr2 hdr3)
              have HN := Lib.hid (And.intro hHn hLn)
              clear hdr2 hdr3 hHn hLn hh hl
              by_cases e120 : d = 120
              · simp only [e120, decide_true] at U120
                have fin : 0 ≤ Sp.digit h → 0 ≤ Sp.digit l → Sp.quoted (bl s) = (Sp.quoted ((bl s).drop (i + 1 + 1 + 1 + 1))).map fun p => ((o ++ [Sp.duo h l]) ++ p.1, p.2) := fun q1 q2 => by
                  rw [HX.out, HD.out, HD1.out, HDL.out.1, HDL.out.2, e92, e120, Sp.quoted_step (by decide) (Sp.letter_hex q1 q2), Option.map_map]
                  simp [Function.comp_def]
                have bad : ¬ (0 ≤ Sp.digit h ∧ 0 ≤ Sp.digit l) → Sp.quoted (bl s) = none := fun q => by
                  rw [HX.out, HD.out, HD1.out, HDL.out.1, HDL.out.2, e92, e120, Sp.quoted_bad (by decide) (Sp.letter_nohex (by decide) (by simpa using q))]
                  rfl
                have HF := Lib.hid (And.intro fin bad)
                clear fin bad
                have hA := digit_any h Hn HN.out.1
                have hB := digit_any l Ln HN.out.2
                have HDA := Lib.hid (And.intro (Sp.digit_rng h) (Sp.digit_rng l))
                generalize hAA : Sp.digit h = A at *
                generalize hBB : Sp.digit l = B at *
                have HAB := Lib.hid (And.intro hAA hBB)
                clear hAA hBB
                have A1 := HDA.out.1.1
                have A2 := HDA.out.1.2
                have B1 := HDA.out.2.1
                have B2 := HDA.out.2.2
                have HCA := Lib.hid hA
                have HCB := Lib.hid hB
                clear hA hB
                by_cases a0 : 0 ≤ A
                · by_cases b0 : 0 ≤ B
                  · go_wp2_with (first | (go_at_call 135; ((with_reducible refine (HCA.out _).mono ?_); rintro e w1 ⟨rfl, rfl⟩)) | (go_at_call 135; ((with_reducible refine (HCB.out _).mono ?_); rintro e w1 ⟨rfl, rfl⟩)))
                    have q1 : IntKind.i64.wrap ((i : Int) + 2) = (i : Int) + 2 := IntWalk.i64_in _ (by omega)
                    have q2 : IntKind.i64.wrap ((i : Int) + 3) = (i : Int) + 3 := IntWalk.i64_in _ (by omega)
                    have q3 : (0 : Int) ≤ (i : Int) + 2 ∧ (i : Int) + 2 < s.size := by omega
                    have q4 : (0 : Int) ≤ (i : Int) + 3 ∧ (i : Int) + 3 < s.size := by omega
                    have q5 : ((i : Int) + 2).toNat = i + 2 := by omega
                    have q6 : ((i : Int) + 3).toNat = i + 3 := by omega
                    have HO1 := HO.drew
                    have HB1 := HB.drew
                    have hbits := duo_bits HAB.out.1 HAB.out.2 a0 b0
                    have HBI := Lib.hid hbits
                    clear hbits
                    refine region_mix [0] [1, 2, 3, 4, 5, 6, 7, 8, 9, 10, 11, 12, 13] [14, 15, 16] mixed (by kernel_rfl) (fun _ _ _ _ _ h => h) ?_
                    simp only [pick, List.getElem?_cons_zero, List.getElem?_cons_succ]
                    refine wpPre_move (wpPre_nil ?_)
                    repeat still_step
                    still_call (SRet.still (HCA.out _))
                    repeat still_step
                    still_call (SRet.still (HCB.out _))
                    repeat still_step
                    refine wpStill_nil ?_
                    go_wp2_with (at_builtin; refine ap_u8 (W := wr.drew) (base := w.heap.size) (w0 := w) (v := u5) (l := o) (c := Sp.duo h l) rfl rfl rfl rfl HBI.out HO1 HB1 HB1.size (by omega) ?_; intro v1 w1 HO2 HB2 _ _)
                    clear q1 q2 q3 q4 q5 q6
                    go_roundw
                    case rel => exact ⟨i + 1 + 1 + 1 + 1, o ++ [Sp.duo h l], by go_num, by omega, by simp; omega, HO2, Lib.hid (HF.out.1 a0 b0), HB2⟩
                    case measure => simp [intOf]; omega
                  · go_wp2_with (first | (go_at_call 135; ((with_reducible refine (HCA.out _).mono ?_); rintro e w1 ⟨rfl, rfl⟩)) | (go_at_call 135; ((with_reducible refine (HCB.out _).mono ?_); rintro e w1 ⟨rfl, rfl⟩)))
                    go_ret3
                    refine ⟨?_, HB⟩
                    rw [HF.out.2 (fun q => absurd q.2 (by omega))]
                    rfl
                · go_wp2_with (first | (go_at_call 135; ((with_reducible refine (HCA.out _).mono ?_); rintro e w1 ⟨rfl, rfl⟩)) | (go_at_call 135; ((with_reducible refine (HCB.out _).mono ?_); rintro e w1 ⟨rfl, rfl⟩)))
                  go_ret3
                  refine ⟨?_, HB⟩
                  rw [HF.out.2 (fun q => absurd q.1 (by omega))]
                  rfl
              · simp only [e120, decide_false] at U120
                go_wp2
                go_ret3
                refine ⟨?_, HB⟩
                rw [HX.out, HD.out, HD1.out, HDL.out.1, HDL.out.2, e92, Sp.quoted_bad (by decide) (Sp.letter_nohex (by simpa using e) (fun q => e120 q.1))]
                rfl
            · go_wp2
              go_ret3
              refine ⟨?_, HB⟩
              rw [HX.out, HD.out, HD1.out, e92, Sp.quoted_bad (by decide) (Sp.letter_short (by simpa using e) (by rw [List.length_drop, bl_len]; omega))]
              rfl
        · go_wp2
          go_ret3
          refine ⟨?_, HB⟩
          have hn : List.drop (i + 1) (bl s) = [] := List.drop_eq_nil_of_le (by rw [bl_len]; omega)
          rw [HX.out, HD.out, hn, e92, Sp.quoted_bad (by decide) Sp.letter_end]
          rfl
      · simp only [e92, decide_false, Bool.not_false] at T92
        go_wp2_with (at_builtin; refine ap_u8 (base := w.heap.size) (w0 := w) (v := u5) (l := o) (c := c) rfl rfl rfl rfl HC.out HO HB HB.size (by omega) ?_; intro v1 w1 HO1 HB1 _ _)
        go_roundw
        case rel => exact ⟨i + 1, o ++ [c], by go_num, by omega, by simp; omega, HO1, Lib.hid (by rw [HX.out, HD.out, Sp.quoted_step e34 (Sp.letter_plain e32 e126 e92), Option.map_map]; simp [Function.comp_def]), HB1⟩
        case measure => simp [intOf]; omega
    · go_wp2
      go_ret3
      refine ⟨?_, HB⟩
      have hn : List.drop i (bl s) = [] := List.drop_eq_nil_of_le (by rw [bl_len]; omega)
      rw [HQ.out, hn, Sp.quoted_nil]
      rfl
end Go.Proofs.YthnhfddlmkhgkaaGreatDoor

set_option linter.unusedVariables false
namespace Go.Proofs.YthnhfddlmkhgkaaGreatDoor
open Go.RowKit Go.Proofs.YthnhfddlmkhgkaaGreatDoorW.PrintWords

def bareI (c : Int) : Bool := decide (97 ≤ c ∧ c ≤ 122 ∨ 65 ≤ c ∧ c ≤ 90 ∨ 48 ≤ c ∧ c ≤ 57 ∨ c = 95 ∨ c = 46 ∨ c = 45 ∨ c = 47)
theorem bareI_high {c : Int} (h : 128 ≤ c) : bareI c = false := by unfold bareI; rw [decide_eq_false_iff_not]; omega
set_option maxRecDepth 100000 in
theorem bareI_u8 (b : UInt8) : bareI (b.toNat : Int) = Sp.isBare b := by
  have H : ∀ n : Fin 256, bareI ((UInt8.ofNat n.val).toNat : Int) = Sp.isBare (UInt8.ofNat n.val) := by decide
  have := H ⟨b.toNat, b.toNat_lt⟩
  simpa using this

set_option maxHeartbeats 1000000 in
theorem bare_any (c : Int) (w : World) (h0 : -2147483648 ≤ c) (h1 : c ≤ 2147483647) :
    Calls Tryz.prog 134 #[.int .i32 c] w (SRet w (.bool (bareI c))) := by
  go_enter Tryz.func134, Tryz.ntmps134
  go_wp2
  all_goals go_ret
  all_goals (refine ⟨ret_bool ?_, rfl⟩; rw [Bool.eq_iff_iff]; first | (simp [bareI]; done) | (simp [bareI]; omega))

set_option maxHeartbeats 1000000 in
theorem blank_any (c : UInt8) (n : Int) (hn : n = (c.toNat : Int)) (w : World) :
    Calls Tryz.prog 76 #[.int .u8 n] w (SRet w (.bool (Sp.isBlank c))) := by
  have T1 : (n == 32) = decide (c = 32) := u8_eqb 32 hn rfl
  have T2 : (n == 9) = decide (c = 9) := u8_eqb 9 hn rfl
  clear hn
  go_enter Tryz.func76, Tryz.ntmps76
  by_cases e : c = 32
  · simp only [e, decide_true] at T1
    go_wp2
    go_ret
    exact ⟨ret_bool (by subst e; rfl), rfl⟩
  · simp only [e, decide_false] at T1
    go_wp2
    go_ret
    exact ⟨ret_bool (by simp only [Sp.isBlank]; rw [beq_eq_false_iff_ne.2 e, Bool.false_or]; rfl), rfl⟩

set_option maxHeartbeats 1000000 in
theorem run_any (s : ByteArray) (w : World) (hs : s.size ≤ 1099511627776) :
    Calls Tryz.prog 74 #[.string s] w (BRet w (.int .i64 (Sp.run (bl s) : Int))) := by
  go_enter Tryz.func74, Tryz.ntmps74
  go_wp2
  go_loopw [] (fun wr => ∃ pos : Nat, pos ≤ s.size ∧ wr = w.iter s pos ∧ Hid (∀ b ∈ (bl s).take pos, Sp.isBare b = true)) (fun wr => s.size - wr.iterPos w.heap.size)
  case atStart => exact ⟨0, Nat.zero_le _, rfl, Lib.hid (by simp)⟩
  case round =>
    obtain ⟨pos, hp, rfl, HB⟩ := hrel
    by_cases hlt : pos < s.size
    · have hdr := bl_drop s pos hlt
      obtain ⟨c, hc⟩ : ∃ c, c = s[pos]'hlt := ⟨_, rfl⟩
      rw [← hc] at hdr
      have hcat : bl s = (bl s).take pos ++ c :: (bl s).drop (pos + 1) := by rw [← hdr, List.take_append_drop]
      have hlen : ((bl s).take pos).length = pos := by rw [List.length_take, bl_len]; omega
      by_cases ha : c.toNat < 128
      · have hn := run_next_ascii (P := Tryz.prog) w s pos 0 hlt (by rw [← hc]; exact ha)
        obtain ⟨C, hC⟩ : ∃ C : Int, C = (c.toNat : Int) := ⟨_, rfl⟩
        rw [← hc, ← hC] at hn
        have hC0 : 0 ≤ C := by omega
        have hC1 : C ≤ 127 := by omega
        have hb : bareI C = Sp.isBare c := by rw [hC]; exact bareI_u8 c
        have HX := Lib.hid (And.intro hcat hlen)
        clear hcat hlen hC hdr hc ha
        by_cases e : Sp.isBare c = true
        · rw [e] at hb
          have HE := Lib.hid e
          clear e
          go_wp2_with (go_at_call 134; refine (bare_any C _ (by omega) (by omega)).mono ?_; rintro e w1 ⟨rfl, rfl⟩)
          go_roundw
          case rel =>
            refine ⟨pos + 1, by omega, rfl, Lib.hid ?_⟩
            intro b hb
            rw [HX.out.1, List.take_append, HX.out.2, List.take_of_length_le (by rw [HX.out.2]; omega)] at hb
            rcases List.mem_append.1 hb with h | h
            · exact HB.out b h
            · rw [show pos + 1 - pos = 1 by omega] at h
              simp at h
              rw [h]
              exact HE.out
          case measure => simp; omega
        · simp only [Bool.not_eq_true] at e
          rw [e] at hb
          have HE := Lib.hid e
          clear e
          go_wp2_with (go_at_call 134; refine (bare_any C _ (by omega) (by omega)).mono ?_; rintro e w1 ⟨rfl, rfl⟩)
          go_ret
          refine ⟨ret_int ?_, (Below.refl _ _).alloc (Nat.le_refl _) _⟩
          rw [HX.out.1, Sp.run_stop HB.out HE.out, HX.out.2]
      · have hn := run_next_any (P := Tryz.prog) w s pos 0 hlt
        have h1 := decode_high s pos hlt (by rw [← hc]; omega)
        have h2 := decode_le s pos
        generalize (Utf8.decode s pos).1 = R at *
        generalize (Utf8.decode s pos).2 = Wd at *
        obtain ⟨C, hC⟩ : ∃ C : Int, C = (R : Int) := ⟨_, rfl⟩
        rw [← hC] at hn
        have hC0 : 128 ≤ C := by omega
        have hC1 : C ≤ 2147483647 := by omega
        have hb : bareI C = false := bareI_high hC0
        have he : Sp.isBare c = false := by rw [← bareI_u8]; exact bareI_high (by omega)
        have HX := Lib.hid (And.intro hcat (And.intro hlen he))
        clear hcat hlen hC hdr hc ha he h1 h2
        go_wp2_with (go_at_call 134; refine (bare_any C _ (by omega) (by omega)).mono ?_; rintro e w1 ⟨rfl, rfl⟩)
        go_ret
        refine ⟨ret_int ?_, (Below.refl _ _).alloc (Nat.le_refl _) _⟩
        rw [HX.out.1, Sp.run_stop HB.out HX.out.2.2, HX.out.2.1]
    · have hn := run_next_end (P := Tryz.prog) w s pos 0 hlt
      go_wp2
      go_ret
      refine ⟨ret_int ?_, (Below.refl _ _).alloc (Nat.le_refl _) _⟩
      have h1 : (bl s).take pos = bl s := List.take_of_length_le (by rw [bl_len]; omega)
      have h2 := HB.out
      rw [h1] at h2
      rw [Sp.run_all h2, bl_len]
end Go.Proofs.YthnhfddlmkhgkaaGreatDoor

set_option linter.unusedVariables false
namespace Go.Proofs.YthnhfddlmkhgkaaGreatDoor
open Go.RowKit Go.Proofs.YthnhfddlmkhgkaaGreatDoorW.PrintWords

/-- a slice of bytes that is read -/
abbrev ReadU (w : World) (A : Option Addr) (l : List UInt8) : Prop := (Kd.int .u8).C w A l.length (us l)
theorem ReadU.at_ {w : World} {A : Option Addr} {l : List UInt8} (h : ReadU w A l) (k : Nat) (hk : k < l.length) : ∃ ad, A = some ad ∧ w.cell? (ad.add k) = some (.int .u8 ((l[k]'hk).toNat : Int)) := by
  obtain ⟨ad, e, hc⟩ := h.2.2 (by omega)
  obtain ⟨c, hl, hK, hcell⟩ := hc k ((l[k]'hk).toNat : Int) (by simp [us, List.getElem?_eq_getElem hk])
  have hK' : c = [.int .u8 ((l[k]'hk).toNat : Int)] := hK
  subst hK'
  refine ⟨ad, e, ?_⟩
  have := hcell 0 _ rfl
  simpa [Kd.int, Kd.scalar] using this
theorem ReadU.below {w w1 : World} {A : Option Addr} {l : List UInt8} (h : ReadU w A l) (hb : Below w.heap.size w w1) : ReadU w1 A l := Kd.C_below h hb

theorem digs_fin : ∀ k : Fin 16, ((⟨#[48, 49, 50, 51, 52, 53, 54, 55, 56, 57, 97, 98, 99, 100, 101, 102]⟩ : ByteArray)[k.val]'k.isLt) = Sp.nib k.val := by decide
theorem digs_at (e : Nat) (h : e < (⟨#[48, 49, 50, 51, 52, 53, 54, 55, 56, 57, 97, 98, 99, 100, 101, 102]⟩ : ByteArray).size) :
    ((⟨#[48, 49, 50, 51, 52, 53, 54, 55, 56, 57, 97, 98, 99, 100, 101, 102]⟩ : ByteArray)[e]'h) = Sp.nib e := digs_fin ⟨e, h⟩

set_option maxRecDepth 100000 in
theorem and15_fin : ∀ n : Fin 256, bits .and .u8 ((n.val : Nat) : Int) 15 = ((n.val : Nat) : Int) % 16 := by decide
theorem and15 (c : UInt8) {C : Int} (hC : C = (c.toNat : Int)) : bits .and .u8 C 15 = C % 16 := by
  rw [hC]; exact and15_fin ⟨c.toNat, c.toNat_lt⟩

set_option maxHeartbeats 1000000 in
set_option maxRecDepth 100000 in
theorem hexed_any (A : Option Addr) (l : List UInt8) (cap : Nat) (w : World) (hr : ReadU w A l) (hl : l.length ≤ 1099511627776) :
    Calls Tryz.prog 90 #[.slice A l.length cap] w (BRet w (.string (str (Sp.hexed l)))) := by
  have HR := Lib.hid hr
  clear hr
  by_cases h0 : l.length = 0
  · obtain rfl : l = [] := List.eq_nil_of_length_eq_zero h0
    clear h0
    simp only [List.length_nil]
    go_enter Tryz.func90, Tryz.ntmps90
    go_wp2
    go_ret
    exact ⟨rfl, Below.refl _ _⟩
  · have hne : ((l.length : Int) == 0) = false := by rw [beq_eq_false_iff_ne]; omega
    have HN := Lib.hid h0
    clear h0
    go_enter Tryz.func90, Tryz.ntmps90
    go_wp2
    go_loopw [3, 11] (fun v3 v11 wr => ∃ (i : Nat) (o : Sp.Bs), v11 = .int .i64 (i : Int) ∧ i ≤ l.length ∧ o.length = 2 * i ∧ RowU wr w.heap.size v3 o ∧ Hid (l.flatMap Sp.two = o ++ (l.drop i).flatMap Sp.two) ∧ Below w.heap.size w wr) (fun _ v11 _ => l.length - (intOf v11).toNat)
    case atStart => exact ⟨0, [], rfl, Nat.zero_le _, rfl, RowU.nil _ _, Lib.hid (by simp), Below.refl _ _⟩
    case round =>
      obtain ⟨i, o, rfl, hi, ho, HO, HQ, HB⟩ := hrel
      by_cases hlt : i < l.length
      · have hdr : l.drop i = (l[i]'hlt) :: l.drop (i + 1) := List.drop_eq_getElem_cons hlt
        obtain ⟨ad, hA, hcell⟩ := (HR.out.below HB).at_ i hlt
        obtain ⟨c, hc⟩ : ∃ c, c = l[i]'hlt := ⟨_, rfl⟩
        rw [← hc] at hdr hcell
        subst hA
        obtain ⟨C, hC⟩ : ∃ C : Int, C = (c.toNat : Int) := ⟨_, rfl⟩
        rw [← hC] at hcell
        have hC0 : 0 ≤ C := by omega
        have hC1 : C ≤ 255 := by have := c.toNat_lt; omega
        obtain ⟨N1, hN1⟩ : ∃ N : Int, N = ((Sp.nib (c.toNat / 16)).toNat : Int) := ⟨_, rfl⟩
        obtain ⟨N2, hN2⟩ : ∃ N : Int, N = ((Sp.nib (c.toNat % 16)).toNat : Int) := ⟨_, rfl⟩
        have q1 : 0 ≤ C / 16 ∧ C / 16 < 16 := by omega
        have q2 : 0 ≤ C % 16 ∧ C % 16 < 16 := by omega
        have hx1 : ∀ h, (((⟨#[48, 49, 50, 51, 52, 53, 54, 55, 56, 57, 97, 98, 99, 100, 101, 102]⟩ : ByteArray)[(C / 16).toNat]'h).toNat : Int) = N1 := fun h => by
          rw [digs_at, hN1]; congr 3; omega
        have hx2 : ∀ h, (((⟨#[48, 49, 50, 51, 52, 53, 54, 55, 56, 57, 97, 98, 99, 100, 101, 102]⟩ : ByteArray)[(C % 16).toNat]'h).toNat : Int) = N2 := fun h => by
          rw [digs_at, hN2]; congr 3; omega
        have qa : bits .and .u8 C 15 = C % 16 := and15 c hC
        have HX := Lib.hid (And.intro hdr (And.intro hN1 hN2))
        clear hN1 hN2
        clear hdr hC hc
        go_wp2
        refine region_mix [0] [1, 2, 3, 4, 5, 6] [7, 8, 9] mixed (by kernel_rfl) (fun _ _ _ _ _ h => h) ?_
        simp only [pick, List.getElem?_cons_zero, List.getElem?_cons_succ]
        refine wpPre_move (wpPre_nil ?_)
        repeat still_step
        refine wpStill_nil ?_
        clear q1 q2 hx1 hx2 qa
        have HO1 := HO.drew
        have HB1 := HB.drew
        have hcat : l.flatMap Sp.two = (o ++ [Sp.nib (c.toNat / 16), Sp.nib (c.toNat % 16)]) ++ (l.drop (i + 1)).flatMap Sp.two := by
          rw [HQ.out, HX.out.1]; simp [Sp.two]
        have HF := Lib.hid hcat
        clear hcat
        go_wp2_with (at_builtin; refine ap_us (W := wr.drew) (base := w.heap.size) (w0 := w) (v := u3) (l := o) (cs := [Sp.nib (c.toNat / 16), Sp.nib (c.toNat % 16)]) (m := 2) rfl rfl rfl rfl rfl (by rw [HX.out.2.1, HX.out.2.2]; rfl) HO1 HB1 HB1.size (by omega) (by omega) ?_; intro v1 w1 HO2 HB2 _ _)
        go_roundw
        case rel => exact ⟨i + 1, o ++ [Sp.nib (c.toNat / 16), Sp.nib (c.toNat % 16)], by go_num, by omega, by simp; omega, HO2, HF, HB2⟩
        case measure => simp [intOf]; omega
      · have hcv := own_string (P := Tryz.prog) Tryz.underlying45 Tryz.underlying5 Tryz.underlying9 (Kd.own_of_R HO)
        go_wp2
        go_ret
        refine ⟨?_, HB⟩
        have h1 : l.drop i = [] := List.drop_eq_nil_of_le (by omega)
        have h2 := HQ.out
        rw [h1] at h2
        simp only [List.flatMap_nil, List.append_nil] at h2
        have h3 : l ≠ [] := fun e => HN.out (by rw [e]; rfl)
        show Ending.returned (.string (strOfNums (us o))) = _
        rw [str_us, ← h2, Sp.hexed, if_neg h3]
end Go.Proofs.YthnhfddlmkhgkaaGreatDoor

set_option linter.unusedVariables false
namespace Go.Proofs.YthnhfddlmkhgkaaGreatDoor
open Go.RowKit Go.Proofs.YthnhfddlmkhgkaaGreatDoorW.PrintWords

/-- what hex answers -/
def HexPost (w : World) (r : Option Sp.Bs) (e : Ending) (w' : World) : Prop :=
  (∃ v d, r = some d ∧ e = .returned (.tuple #[v, .bool true]) ∧ RowU w' w.heap.size v d ∧ Below w.heap.size w w') ∨
  (r = none ∧ e = .returned (.tuple #[.slice none 0 0, .bool false]) ∧ Below w.heap.size w w')

theorem hex_odd : ∀ (l : Sp.Bs), l.length % 2 = 1 → Sp.hex l = none
  | [], h => by simp at h
  | [_], _ => rfl
  | a :: b :: r, h => by
    unfold Sp.hex
    rw [hex_odd r (by simp at h; omega)]
    split <;> rfl
set_option maxHeartbeats 1000000 in
set_option maxRecDepth 100000 in
theorem hex_any (s : ByteArray) (w : World) (hs : s.size ≤ 1099511627776) :
    Calls Tryz.prog 79 #[.string s] w (HexPost w (Sp.hex (bl s))) := by
  by_cases hodd : s.size % 2 = 1
  · have T : (bits .and .i64 (s.size : Int) 1 == 1) = true := by
      have h := i64_and_nat s.size 1 (by omega) (by omega)
      rw [show ((1 : Nat) : Int) = 1 from rfl] at h
      rw [h, Nat.and_one_is_mod, hodd]; rfl
    have hh := hex_odd (bl s) (by rw [bl_len]; exact hodd)
    have HH := Lib.hid hh
    clear hh hodd
    go_enter Tryz.func79, Tryz.ntmps79
    go_wp2
    go_ret2
    exact .inr ⟨HH.out, rfl, Below.refl _ _⟩
  · have T : (bits .and .i64 (s.size : Int) 1 == 1) = false := by
      have h := i64_and_nat s.size 1 (by omega) (by omega)
      rw [show ((1 : Nat) : Int) = 1 from rfl] at h
      rw [h, Nat.and_one_is_mod, beq_eq_false_iff_ne]; omega
    have HODD := Lib.hid hodd
    clear hodd
    go_enter Tryz.func79, Tryz.ntmps79
    go_wp2
    go_loopw [4, 5] (fun v4 v5 wr => ∃ (i : Nat) (o : Sp.Bs), v5 = .int .i64 (i : Int) ∧ i ≤ s.size ∧ Hid (i % 2 = 0) ∧ o.length ≤ i ∧ RowU wr w.heap.size v4 o ∧ Hid (Sp.hex (bl s) = (Sp.hex ((bl s).drop i)).map (o ++ ·)) ∧ Below w.heap.size w wr) (fun _ v5 _ => s.size - (intOf v5).toNat)
    case atStart => exact ⟨0, [], rfl, Nat.zero_le _, Lib.hid rfl, Nat.le_refl _, RowU.nil _ _, Lib.hid (by simp), Below.refl _ _⟩
    case round =>
      obtain ⟨i, o, rfl, hi, HI, ho, HO, HQ, HB⟩ := hrel
      by_cases hlt : i < s.size
      · have hlt1 : i + 1 < s.size := by have := HI.out; have := HODD.out; omega
        have hdr0 := bl_drop s i hlt
        have hdr1 := bl_drop s (i + 1) hlt1
        obtain ⟨h, hh⟩ : ∃ h, h = s[i]'hlt := ⟨_, rfl⟩
        obtain ⟨l, hl⟩ : ∃ l, l = s[i + 1]'hlt1 := ⟨_, rfl⟩
        rw [← hh] at hdr0
        rw [← hl] at hdr1
        obtain ⟨Hn, hHn⟩ : ∃ D : Int, D = (h.toNat : Int) := ⟨_, rfl⟩
        obtain ⟨Ln, hLn⟩ : ∃ D : Int, D = (l.toNat : Int) := ⟨_, rfl⟩
        have hx2 : ∀ q : i < s.size, ((s[i]'q).toNat : Int) = Hn := fun q => by rw [hHn, hh]
        have hx3 : ∀ q : i + 1 < s.size, ((s[i + 1]'q).toNat : Int) = Ln := fun q => by rw [hLn, hl]
        have fin : 0 ≤ Sp.digit h → 0 ≤ Sp.digit l → Sp.hex (bl s) = (Sp.hex ((bl s).drop (i + 1 + 1))).map ((o ++ [Sp.duo h l]) ++ ·) := fun q1 q2 => by
          rw [HQ.out, hdr0, hdr1, Sp.hex, if_pos ⟨q1, q2⟩, Option.map_map]; simp [Function.comp_def]
        have bad : ¬ (0 ≤ Sp.digit h ∧ 0 ≤ Sp.digit l) → Sp.hex (bl s) = none := fun q => by
          rw [HQ.out, hdr0, hdr1, Sp.hex, if_neg q]; rfl
        have HF := Lib.hid (And.intro fin bad)
        clear fin bad hdr0 hdr1 hh hl
        have hA := digit_any h Hn hHn
        have hB := digit_any l Ln hLn
        have HDA := Lib.hid (And.intro (Sp.digit_rng h) (Sp.digit_rng l))
        generalize hAA : Sp.digit h = A at *
        generalize hBB : Sp.digit l = B at *
        have HAB := Lib.hid (And.intro hAA hBB)
        clear hAA hBB hHn hLn
        have A1 := HDA.out.1.1
        have A2 := HDA.out.1.2
        have B1 := HDA.out.2.1
        have B2 := HDA.out.2.2
        have HCA := Lib.hid hA
        have HCB := Lib.hid hB
        clear hA hB
        have HO1 := HO.drew
        have HB1 := HB.drew
        have q1 : IntKind.i64.wrap ((i : Int) + 1) = (i : Int) + 1 := IntWalk.i64_in _ (by omega)
        have q3 : (0 : Int) ≤ (i : Int) ∧ (i : Int) < s.size := by omega
        have q4 : (0 : Int) ≤ (i : Int) + 1 ∧ (i : Int) + 1 < s.size := by omega
        have q5 : ((i : Int) + 1).toNat = i + 1 := by omega
        go_wp2
        refine region_mix [] [0, 1, 2, 3, 4, 5, 6, 7, 8] [9, 10] mixed (by kernel_rfl) (fun _ _ _ _ _ h => h) ?_
        simp only [pick, List.getElem?_cons_zero, List.getElem?_cons_succ]
        refine wpPre_nil ?_
        repeat still_step
        still_call (SRet.still (HCA.out _))
        repeat still_step
        still_call (SRet.still (HCB.out _))
        refine wpStill_nil ?_
        clear q1 q3 q4 q5
        by_cases a0 : 0 ≤ A
        · by_cases b0 : 0 ≤ B
          · have hbits := duo_bits HAB.out.1 HAB.out.2 a0 b0
            have HBI := Lib.hid hbits
            clear hbits
            go_wp2_with (at_builtin; refine ap_u8 (W := wr.drew) (base := w.heap.size) (w0 := w) (v := u4) (l := o) (c := Sp.duo h l) rfl rfl rfl rfl HBI.out HO1 HB1 HB1.size (by omega) ?_; intro v1 w1 HO2 HB2 _ _)
            go_roundw
            case rel => exact ⟨i + 1 + 1, o ++ [Sp.duo h l], by go_num, by omega, Lib.hid (by have := HI.out; omega), by simp; omega, HO2, Lib.hid (HF.out.1 a0 b0), HB2⟩
            case measure => simp [intOf]; omega
          · go_wp2
            go_ret2
            exact .inr ⟨HF.out.2 (fun q => absurd q.2 (by omega)), rfl, HB1⟩
        · go_wp2
          go_ret2
          exact .inr ⟨HF.out.2 (fun q => absurd q.1 (by omega)), rfl, HB1⟩
      · go_wp2
        go_ret2
        refine .inl ⟨_, o, ?_, rfl, HO, HB⟩
        have hn : List.drop i (bl s) = [] := List.drop_eq_nil_of_le (by rw [bl_len]; omega)
        rw [HQ.out, hn]
        simp [Sp.hex]
end Go.Proofs.YthnhfddlmkhgkaaGreatDoor

set_option linter.unusedVariables false
namespace Go.Proofs.YthnhfddlmkhgkaaGreatDoor
open Go.RowKit Go.Proofs.YthnhfddlmkhgkaaGreatDoorW.PrintWords

theorem empty_f {s : ByteArray} (h : s.size ≠ 0) : s.toList.isEmpty = false := by
  rw [Lib.toList_data]
  obtain ⟨⟨l⟩⟩ := s
  cases l with
  | nil => exact absurd rfl h
  | cons a b => rfl
theorem bl_ne {s : ByteArray} (h : s.size ≠ 0) : bl s ≠ [] := fun e => h (by rw [← bl_len, e]; rfl)

theorem RowU.lit {W : World} {base : Nat} {cs : List UInt8} {cells : List Value} {n : Nat} (hb : base ≤ W.heap.size) (hn : cs.length = n) (hl : n ≤ 65536) (hc : cells = (us cs).map (Value.int .u8)) :
    RowU (W.alloc (.cells cells.toArray 5)) base (.slice (some ⟨W.heap.size, 0, none⟩) n n) cs := by
  subst hc
  subst hn
  have hh : (W.alloc (.cells ((us cs).map (Value.int .u8)).toArray 5)).heap[W.heap.size]? = some (.cells ((us cs).map (Value.int .u8)).toArray 5 (0, 0)) := heap_alloc_new W _
  refine Kd.R_of_own ⟨by rw [encs_length, us_len]; omega, .inr ⟨W.heap.size, cs.length, _, by rw [us_len], hb, hh, by rw [us_len]; omega, by simp only [maxLen]; omega, by simp [us], ?_⟩⟩ (fun _ _ => trivial)
  rw [us_len]
  simp only [encs, us, List.map_map]
  exact List.take_of_length_le (by simp)
theorem quo_len (c : UInt8) : (Sp.quo c).length ≤ 4 := by unfold Sp.quo; repeat' split <;> simp [Sp.two]

set_option maxHeartbeats 2000000 in
set_option maxRecDepth 100000 in
theorem text_any (s : ByteArray) (w : World) (hs : s.size ≤ 1099511627776) :
    Calls Tryz.prog 99 #[.string s] w (BRet w (.string (str (Sp.text (bl s))))) := by
  by_cases h0 : s.size = 0
  · obtain rfl : s = ⟨#[]⟩ := by
      obtain ⟨⟨l⟩⟩ := s
      cases l with
      | nil => rfl
      | cons a b => cases h0
    clear h0 hs
    go_enter Tryz.func99, Tryz.ntmps99
    go_wp2
    have HO0 : RowU (w.alloc (.cells #[.int .u8 34] 5)) w.heap.size (.slice (some ⟨w.heap.size, 0, none⟩) 1 1) [34] := RowU.lit (cells := [.int .u8 34]) (Nat.le_refl _) rfl (by omega) rfl
    have HB0 : Below w.heap.size w (w.alloc (.cells #[.int .u8 34] 5)) := (Below.refl _ _).alloc (Nat.le_refl _) _
    refine wp_loop_once ?_
    go_wp2_with (at_builtin; refine ap_u8 (W := w.alloc (.cells #[.int .u8 34] 5)) (base := w.heap.size) (w0 := w) (v := .slice (some ⟨w.heap.size, 0, none⟩) 1 1) (l := [34]) (c := 34) rfl rfl rfl (by simp; rfl) rfl HO0 HB0 HB0.size (by simp) ?_; intro v1 w1 HO HB _ _; have hcv := own_string (P := Tryz.prog) Tryz.underlying45 Tryz.underlying5 Tryz.underlying9 (Kd.own_of_R HO))
    go_ret
    exact ⟨rfl, HB⟩
  · have hne := empty_f h0
    have hbl := Lib.hid (bl_ne h0)
    clear h0
    have hrl := Sp.run_le (bl s)
    rw [bl_len] at hrl
    by_cases hr : Sp.run (bl s) = s.size
    · have T : ((Sp.run (bl s) : Int) == (s.size : Int)) = true := beq_iff_eq.2 (by omega)
      have HRR := Lib.hid hr
      clear hr
      go_enter Tryz.func99, Tryz.ntmps99
      go_wp2_with (go_at_call 74; refine (run_any s _ (by omega)).mono ?_; rintro e w1 ⟨rfl, HB⟩)
      go_ret
      refine ⟨?_, HB⟩
      rw [Sp.text, if_pos ⟨hbl.out, by rw [HRR.out, bl_len]⟩]
      show Ending.returned (.string s) = .returned (.string (str s.data.toList))
      rw [str_bl]
    · have T : ((Sp.run (bl s) : Int) == (s.size : Int)) = false := beq_eq_false_iff_ne.2 (by omega)
      have HRR := Lib.hid hr
      clear hr
      go_enter Tryz.func99, Tryz.ntmps99
      go_wp2_with (go_at_call 74; refine (run_any s _ (by omega)).mono ?_; rintro e w1 ⟨rfl, HB⟩)
      have HO0 : RowU (w1.alloc (.cells #[.int .u8 34] 5)) w.heap.size (.slice (some ⟨w1.heap.size, 0, none⟩) 1 1) [34] := RowU.lit (cells := [.int .u8 34]) HB.size rfl (by omega) rfl
      have HB0 := Lib.hid (HB.alloc HB.size (.cells #[.int .u8 34] 5))
      go_loopw [3, 19] (fun v3 v19 wr => ∃ (i : Nat) (o : Sp.Bs), v19 = .int .i64 (i : Int) ∧ i ≤ s.size ∧ o.length ≤ 4 * i + 1 ∧ RowU wr w.heap.size v3 o ∧ Hid (34 :: (bl s).flatMap Sp.quo = o ++ ((bl s).drop i).flatMap Sp.quo) ∧ Below w.heap.size w wr) (fun _ v19 _ => s.size - (intOf v19).toNat)
      case atStart => exact ⟨0, [34], rfl, Nat.zero_le _, by simp, HO0, Lib.hid (by simp), HB0.out⟩
      case round =>
        obtain ⟨i, o, rfl, hi, ho, HO, HQ, HBr⟩ := hrel
        by_cases hlt : i < s.size
        · have hdr := bl_drop s i hlt
          obtain ⟨c, hc⟩ : ∃ c, c = s[i]'hlt := ⟨_, rfl⟩
          rw [← hc] at hdr
          obtain ⟨C, hC⟩ : ∃ C : Int, C = (c.toNat : Int) := ⟨_, rfl⟩
          have hx : ∀ h : i < s.size, ((s[i]'h).toNat : Int) = C := fun h => by rw [hC, hc]
          have hC0 : 0 ≤ C := by omega
          have hC1 : C ≤ 255 := by have := c.toNat_lt; omega
          have T34 : (C == 34) = decide (c = 34) := u8_eqb 34 hC rfl
          have T92 : (C == 92) = decide (c = 92) := u8_eqb 92 hC rfl
          have T32 : decide (C < 32) = decide (c < 32) := u8_ltb 32 hC rfl
          have T126 : decide (126 < C) = decide (126 < c) := u8_gtb 126 hC rfl
          have hcat : 34 :: (bl s).flatMap Sp.quo = (o ++ Sp.quo c) ++ ((bl s).drop (i + 1)).flatMap Sp.quo := by rw [HQ.out, hdr]; simp
          have hql := quo_len c
          have HF := Lib.hid (And.intro hcat hC)
          clear hcat hdr hc
          by_cases e1 : c = 34 ∨ c = 92
          · have hq : Sp.quo c = [92, c] := by rw [Sp.quo, if_pos e1]
            rw [hq] at HF
            clear hq hql
            have HC := Lib.hid HF.out.2
            clear hC
            rcases e1 with e | e
            all_goals
              simp only [e, decide_true, decide_false, show ¬ (92 : UInt8) = 34 by decide] at T34 T92
              go_wp2_with (at_builtin; refine ap_us (W := wr) (base := w.heap.size) (w0 := w) (v := u3) (l := o) (cs := [92, c]) (m := 2) rfl rfl rfl rfl rfl (by rw [HC.out]; rfl) HO HBr HBr.size (by omega) (by omega) ?_; intro v1 w2 HO2 HB2 _ _)
              go_roundw
              case rel => exact ⟨i + 1, o ++ [92, c], by go_num, by omega, by simp; omega, HO2, Lib.hid HF.out.1, HB2⟩
              case measure => simp [intOf]; omega
          · by_cases e2 : c < 32 ∨ 126 < c
            · have hq : Sp.quo c = [92, 120, Sp.nib (c.toNat / 16), Sp.nib (c.toNat % 16)] := by rw [Sp.quo, if_neg e1, if_pos e2]; rfl
              rw [hq] at HF
              clear hq hql
              simp only [not_or] at e1
              simp only [e1.1, e1.2, decide_false] at T34 T92
              obtain ⟨N1, hN1⟩ : ∃ N : Int, N = ((Sp.nib (c.toNat / 16)).toNat : Int) := ⟨_, rfl⟩
              obtain ⟨N2, hN2⟩ : ∃ N : Int, N = ((Sp.nib (c.toNat % 16)).toNat : Int) := ⟨_, rfl⟩
              have q1 : 0 ≤ C / 16 ∧ C / 16 < 16 := by omega
              have q2 : 0 ≤ C % 16 ∧ C % 16 < 16 := by omega
              have hx1 : ∀ h, (((⟨#[48, 49, 50, 51, 52, 53, 54, 55, 56, 57, 97, 98, 99, 100, 101, 102]⟩ : ByteArray)[(C / 16).toNat]'h).toNat : Int) = N1 := fun h => by
                rw [digs_at, hN1]; congr 3; omega
              have hx2 : ∀ h, (((⟨#[48, 49, 50, 51, 52, 53, 54, 55, 56, 57, 97, 98, 99, 100, 101, 102]⟩ : ByteArray)[(C % 16).toNat]'h).toNat : Int) = N2 := fun h => by
                rw [digs_at, hN2]; congr 3; omega
              have qa : bits .and .u8 C 15 = C % 16 := and15 c hC
              have HX := Lib.hid (And.intro hN1 hN2)
              clear hN1 hN2 hC
              have HO1 := HO.drew
              have HB1 := HBr.drew
              by_cases e3 : c < 32
              · simp only [e3, decide_true] at T32
                go_wp2
                refine region_mix [0] [1, 2, 3, 4, 5, 6] [7, 8, 9] mixed (by kernel_rfl) (fun _ _ _ _ _ h => h) ?_
                simp only [pick, List.getElem?_cons_zero, List.getElem?_cons_succ]
                refine wpPre_move (wpPre_nil ?_)
                repeat still_step
                refine wpStill_nil ?_
                clear q1 q2 hx1 hx2 qa
                go_wp2_with (at_builtin; refine ap_us (W := wr.drew) (base := w.heap.size) (w0 := w) (v := u3) (l := o) (cs := [92, 120, Sp.nib (c.toNat / 16), Sp.nib (c.toNat % 16)]) (m := 4) rfl rfl rfl rfl rfl (by rw [HX.out.1, HX.out.2]; rfl) HO1 HB1 HB1.size (by omega) (by omega) ?_; intro v1 w2 HO2 HB2 _ _)
                go_roundw
                case rel => exact ⟨i + 1, o ++ [92, 120, Sp.nib (c.toNat / 16), Sp.nib (c.toNat % 16)], by go_num, by omega, by simp; omega, HO2, Lib.hid HF.out.1, HB2⟩
                case measure => simp [intOf]; omega
              · have e4 : 126 < c := by rcases e2 with h | h; exact absurd h e3; exact h
                simp only [e3, e4, decide_true, decide_false] at T32 T126
                go_wp2
                refine region_mix [0] [1, 2, 3, 4, 5, 6] [7, 8, 9] mixed (by kernel_rfl) (fun _ _ _ _ _ h => h) ?_
                simp only [pick, List.getElem?_cons_zero, List.getElem?_cons_succ]
                refine wpPre_move (wpPre_nil ?_)
                repeat still_step
                refine wpStill_nil ?_
                clear q1 q2 hx1 hx2 qa
                go_wp2_with (at_builtin; refine ap_us (W := wr.drew) (base := w.heap.size) (w0 := w) (v := u3) (l := o) (cs := [92, 120, Sp.nib (c.toNat / 16), Sp.nib (c.toNat % 16)]) (m := 4) rfl rfl rfl rfl rfl (by rw [HX.out.1, HX.out.2]; rfl) HO1 HB1 HB1.size (by omega) (by omega) ?_; intro v1 w2 HO2 HB2 _ _)
                go_roundw
                case rel => exact ⟨i + 1, o ++ [92, 120, Sp.nib (c.toNat / 16), Sp.nib (c.toNat % 16)], by go_num, by omega, by simp; omega, HO2, Lib.hid HF.out.1, HB2⟩
                case measure => simp [intOf]; omega
            · have hq : Sp.quo c = [c] := by rw [Sp.quo, if_neg e1, if_neg e2]
              rw [hq] at HF
              clear hq hql
              have HC := Lib.hid HF.out.2
              clear hC
              simp only [not_or] at e1 e2
              simp only [e1.1, e1.2, e2.1, e2.2, decide_false] at T34 T92 T32 T126
              go_wp2_with (at_builtin; refine ap_u8 (W := wr) (base := w.heap.size) (w0 := w) (v := u3) (l := o) (c := c) rfl rfl rfl rfl HC.out HO HBr HBr.size (by omega) ?_; intro v1 w2 HO2 HB2 _ _)
              go_roundw
              case rel => exact ⟨i + 1, o ++ [c], by go_num, by omega, by simp; omega, HO2, Lib.hid HF.out.1, HB2⟩
              case measure => simp [intOf]; omega
        · go_wp2_with (at_builtin; refine ap_u8 (W := wr) (base := w.heap.size) (w0 := w) (v := u3) (l := o) (c := 34) rfl rfl rfl rfl rfl HO HBr HBr.size (by omega) ?_; intro v1 w2 HO2 HB2 _ _; have hcv := own_string (P := Tryz.prog) Tryz.underlying45 Tryz.underlying5 Tryz.underlying9 (Kd.own_of_R HO2))
          go_ret
          refine ⟨?_, HB2⟩
          have hn : List.drop i (bl s) = [] := List.drop_eq_nil_of_le (by rw [bl_len]; omega)
          have h2 := HQ.out
          rw [hn] at h2
          simp only [List.flatMap_nil, List.append_nil] at h2
          show Ending.returned (.string (strOfNums (us (o ++ [34])))) = _
          rw [str_us, ← h2, Sp.text, if_neg (fun q => HRR.out (by rw [q.2, bl_len]))]
end Go.Proofs.YthnhfddlmkhgkaaGreatDoor

set_option linter.unusedVariables false
namespace Go.Proofs.YthnhfddlmkhgkaaGreatDoor
open Go.RowKit Go.Proofs.YthnhfddlmkhgkaaGreatDoorW.PrintWords

theorem R_iterAt {α : Type} {d : Kd α} {e : Nat} {w : World} {base : Nat} {ok : Nat → Prop} {v : Value} {xs : List α} (h : d.R e w base ok v xs) {k : Nat} {s : ByteArray} {pos : Nat} (hk : w.heap[k]? = some (.stringIter s pos)) (pos' : Nat) :
    d.R e (w.iterAt k s pos') base ok v xs :=
  Kd.R_mono (Kd.R_move (Kd.R_bound h) (fun j hj => Lib.iterAt_other w k j s pos' (fun e => by
    obtain ⟨_, _, _, q, _, cells, hc⟩ := hj
    rw [e, hk] at hc
    cases hc))) (fun _ h => h.1)
theorem R_ne_iter {α : Type} {d : Kd α} {e : Nat} {w : World} {base : Nat} {ok : Nat → Prop} {v : Value} {xs : List α} (h : d.R e w base ok v xs) {k : Nat} {s : ByteArray} {pos : Nat} (hk : w.heap[k]? = some (.stringIter s pos)) : some k ≠ v.ownBlock := by
  intro e
  obtain ⟨_, inner, ho, _⟩ := h
  obtain ⟨cells, hc⟩ := own_typed ho k e.symm
  rw [hk] at hc
  cases hc

/-- what flags answers -/
def FlagsPost (w : World) (r : Option (List Bool)) (e : Ending) (w' : World) : Prop :=
  (∃ v d, r = some d ∧ e = .returned (.tuple #[v, .bool true]) ∧ RowB w' w.heap.size v d ∧ Below w.heap.size w w') ∨
  (r = none ∧ e = .returned (.tuple #[.slice none 0 0, .bool false]) ∧ Below w.heap.size w w')

set_option maxHeartbeats 2000000 in
set_option maxRecDepth 100000 in
theorem flags_any (s : ByteArray) (w : World) (hs : s.size ≤ 1099511627776) :
    Calls Tryz.prog 80 #[.string s] w (FlagsPost w (Sp.flags (bl s))) := by
  go_enter Tryz.func80, Tryz.ntmps80
  go_wp2
  go_loopw [4] (fun v4 wr => ∃ (pos : Nat) (o : List Bool), pos ≤ s.size ∧ o.length ≤ pos ∧ Hid (wr.heap[w.heap.size]? = some (.stringIter s pos)) ∧ RowB wr w.heap.size v4 o ∧ Hid (Sp.flags (bl s) = (Sp.flags ((bl s).drop pos)).map (o ++ ·)) ∧ Below w.heap.size w wr) (fun _ wr => s.size - wr.iterPos w.heap.size)
  case atStart => exact ⟨0, [], Nat.zero_le _, Nat.le_refl _, Lib.hid (World.iter_heap w s 0), Kd.R_nil _ _ _ _ _, Lib.hid (by simp), (Below.refl _ _).alloc (Nat.le_refl _) _⟩
  case round =>
    obtain ⟨pos, o, hp, ho, HI, HO, HQ, HB⟩ := hrel
    by_cases hlt : pos < s.size
    · have hdr := bl_drop s pos hlt
      obtain ⟨c, hc⟩ : ∃ c, c = s[pos]'hlt := ⟨_, rfl⟩
      rw [← hc] at hdr
      have fin : c = 48 ∨ c = 49 → Sp.flags (bl s) = (Sp.flags ((bl s).drop (pos + 1))).map ((o ++ [c == 49]) ++ ·) := fun q => by
        rw [HQ.out, hdr, Sp.flags, if_pos q, Option.map_map]; simp [Function.comp_def]
      have bad : ¬ (c = 48 ∨ c = 49) → Sp.flags (bl s) = none := fun q => by
        rw [HQ.out, hdr, Sp.flags, if_neg q]; rfl
      have HF := Lib.hid (And.intro fin bad)
      clear fin bad hdr
      by_cases ha : c.toNat < 128
      · have hn := Lib.run_next_ascii_at (P := Tryz.prog) wr w.heap.size s pos 0 HI.out hlt (by rw [← hc]; exact ha)
        obtain ⟨C, hC⟩ : ∃ C : Int, C = (c.toNat : Int) := ⟨_, rfl⟩
        rw [← hc, ← hC] at hn
        have hC0 : 0 ≤ C := by omega
        have hC1 : C ≤ 127 := by omega
        have T48 : (C != 48) = !decide (c = 48) := u8_neb 48 hC rfl
        have T49 : (C != 49) = !decide (c = 49) := u8_neb 49 hC rfl
        have E49 : (C == 49) = decide (c = 49) := u8_eqb 49 hC rfl
        have HI1 : Hid ((wr.iterAt w.heap.size s (pos + 1)).heap[w.heap.size]? = some (.stringIter s (pos + 1))) := Lib.iterAt_heap wr w.heap.size s pos (pos + 1) HI.out
        have HO1 : RowB (wr.iterAt w.heap.size s (pos + 1)) w.heap.size u4 o := R_iterAt HO HI.out (pos + 1)
        have HN1 := Lib.hid (R_ne_iter HO HI.out)
        have HB1 : Below w.heap.size w (wr.iterAt w.heap.size s (pos + 1)) := Lib.below_iterAt HB (Nat.le_refl _) s (pos + 1)
        have hsz := Lib.hid (Lib.iterAt_size wr w.heap.size s (pos + 1))
        have hpos := Lib.hid (show wr.iterPos w.heap.size = pos by simp only [World.iterPos, HI.out])
        have HLT := Lib.hid (show w.heap.size < (wr.iterAt w.heap.size s (pos + 1)).heap.size from (Array.getElem?_eq_some_iff.1 HI1.out).1)
        generalize hW : wr.iterAt w.heap.size s (pos + 1) = W at *
        clear hC hc ha hW
        by_cases e : c = 48 ∨ c = 49
        · have HF1 := Lib.hid (HF.out.1 e)
          rcases e with e | e
          all_goals
            simp only [e, decide_true, decide_false, Bool.not_true, Bool.not_false, show ¬ (49 : UInt8) = 48 by decide, show ¬ (48 : UInt8) = 49 by decide] at T48 T49 E49
            simp only [e] at HF1
            go_wp2_with (at_builtin; (first | refine ap_b (W := W) (base := w.heap.size) (w0 := w) (v := u4) (l := o) (c := true) rfl rfl rfl rfl HO1 HB1 HB1.size (by omega) ?_ | refine ap_b (W := W) (base := w.heap.size) (w0 := w) (v := u4) (l := o) (c := false) rfl rfl rfl rfl HO1 HB1 HB1.size (by omega) ?_); intro v1 w2 HO2 HB2 hg2 _)
            go_roundw
            case rel =>
              have hI2 : w2.heap[w.heap.size]? = some (.stringIter s (pos + 1)) := (hg2.block _ HLT.out HN1.out).trans HI1.out
              exact ⟨pos + 1, _, by omega, by simp; omega, Lib.hid hI2, HO2, HF1, HB2⟩
            case measure =>
              have hI2 : w2.heap[w.heap.size]? = some (.stringIter s (pos + 1)) := (hg2.block _ HLT.out HN1.out).trans HI1.out
              rw [show w2.iterPos w.heap.size = pos + 1 by simp only [World.iterPos, hI2], hpos.out]
              omega
        · have HF1 := Lib.hid (HF.out.2 e)
          simp only [not_or] at e
          simp only [e.1, e.2, decide_false, Bool.not_false] at T48 T49 E49
          go_wp2
          go_ret2
          exact .inr ⟨HF1.out, rfl, HB1⟩
      · have hn := Lib.run_next_any_at (P := Tryz.prog) wr w.heap.size s pos 0 HI.out hlt
        have h1 := decode_high s pos hlt (by rw [← hc]; omega)
        have hne : ¬ (c = 48 ∨ c = 49) := by rintro (rfl | rfl) <;> exact ha (by decide)
        have HF1 := Lib.hid (HF.out.2 hne)
        generalize (Utf8.decode s pos).1 = R at *
        generalize (Utf8.decode s pos).2 = Wd at *
        obtain ⟨C, hC⟩ : ∃ C : Int, C = (R : Int) := ⟨_, rfl⟩
        rw [← hC] at hn
        have T48 : (C != 48) = true := by rw [bne_iff_ne]; omega
        have T49 : (C != 49) = true := by rw [bne_iff_ne]; omega
        have HB1 : Below w.heap.size w (wr.iterAt w.heap.size s (pos + Wd)) := Lib.below_iterAt HB (Nat.le_refl _) s (pos + Wd)
        generalize hW : wr.iterAt w.heap.size s (pos + Wd) = W at *
        clear hC hc ha hW h1
        go_wp2
        go_ret2
        exact .inr ⟨HF1.out, rfl, HB1⟩
    · have hn := Lib.run_next_end_at (P := Tryz.prog) wr w.heap.size s pos 0 HI.out hlt
      go_wp2
      go_ret2
      refine .inl ⟨_, o, ?_, rfl, HO, HB⟩
      have hn : List.drop pos (bl s) = [] := List.drop_eq_nil_of_le (by rw [bl_len]; omega)
      rw [HQ.out, hn]
      simp [Sp.flags]
end Go.Proofs.YthnhfddlmkhgkaaGreatDoor

set_option linter.unusedVariables false
namespace Go.Proofs.YthnhfddlmkhgkaaGreatDoor
open Go.RowKit Go.Proofs.YthnhfddlmkhgkaaGreatDoorW.PrintWords

/-- a slice of bools that is read -/
abbrev ReadB (w : World) (A : Option Addr) (l : List Bool) : Prop := Kd.bool.C w A l.length l
theorem ReadB.at_ {w : World} {A : Option Addr} {l : List Bool} (h : ReadB w A l) (k : Nat) (hk : k < l.length) : ∃ ad, A = some ad ∧ w.cell? (ad.add k) = some (.bool (l[k]'hk)) := by
  obtain ⟨ad, e, hc⟩ := h.2.2 (by omega)
  obtain ⟨c, hl, hK, hcell⟩ := hc k (l[k]'hk) (List.getElem?_eq_getElem hk)
  have hK' : c = [.bool (l[k]'hk)] := hK
  subst hK'
  refine ⟨ad, e, ?_⟩
  have := hcell 0 _ rfl
  simpa [Kd.bool, Kd.scalar] using this
theorem ReadB.below {w w1 : World} {A : Option Addr} {l : List Bool} (h : ReadB w A l) (hb : Below w.heap.size w w1) : ReadB w1 A l := Kd.C_below h hb

theorem RowU.cell {w : World} {base g n cap : Nat} {l : List UInt8} (h : RowU w base (.slice (some ⟨g, 0, none⟩) n cap) l) (i : Nat) (hi : i < l.length) :
    w.cell? ⟨g, i, none⟩ = some (.int .u8 ((l[i]'hi).toNat : Int)) ∧ w.frozen? ⟨g, i, none⟩ = false := by
  have hn : n = l.length := by
    obtain ⟨A, c, he, _⟩ := Kd.R_reads h
    rw [us_len] at he
    injection he
  have := Kd.R_celln 0 h (i : Int) (by omega) (by omega)
  rw [Int.toNat_natCast] at this
  refine ⟨this.1.trans ?_, this.2⟩
  simp [rdOf, us, hi]
theorem RowU.put {w : World} {base g n cap : Nat} {l : List UInt8} (h : RowU w base (.slice (some ⟨g, 0, none⟩) n cap) l) (i : Nat) (c : UInt8) {x : Int} (hx : x = (c.toNat : Int)) :
    RowU (w.setCell ⟨g, i, none⟩ (.int .u8 x)) base (.slice (some ⟨g, 0, none⟩) n cap) (l.set i c) := by
  subst hx
  have := Kd.R_putn h (i : Int) (c.toNat : Int)
  rw [Int.toNat_natCast] at this
  have he : us (l.set i c) = (us l).set i (c.toNat : Int) := by simp [us, List.map_set]
  rw [RowU, he]
  exact this
theorem RowU.form {w : World} {base : Nat} {v : Value} {l : List UInt8} (h : RowU w base v l) (hp : 0 < l.length) : ∃ g cap, v = .slice (some ⟨g, 0, none⟩) l.length cap ∧ base ≤ g ∧ g < w.heap.size := by
  obtain ⟨g, cap, h1, h2, h3, _⟩ := Kd.R_form h (by rw [us_len]; exact hp)
  rw [us_len] at h1
  exact ⟨g, cap, h1, h2, h3⟩

def fl (b : Bool) : UInt8 := if b then 49 else 48
theorem set_mid {A R : Sp.Bs} {x y : UInt8} {i : Nat} (h : A.length = i) : (A ++ x :: R).set i y = A ++ y :: R := by
  subst h; simp
theorem take_snoc' {l : List Bool} {i : Nat} (h : i < l.length) : (l.take (i + 1)).map fl = (l.take i).map fl ++ [fl (l[i]'h)] := by
  rw [List.take_succ_eq_append_getElem h, List.map_append]; rfl
theorem repl_succ {n i : Nat} (h : i < n) : List.replicate (n - i) (0 : UInt8) = 0 :: List.replicate (n - (i + 1)) 0 := by
  rw [show n - i = (n - (i + 1)) + 1 by omega, List.replicate_succ]

set_option maxHeartbeats 2000000 in
set_option maxRecDepth 100000 in
theorem flagged_any (A : Option Addr) (l : List Bool) (cap : Nat) (w : World) (hr : ReadB w A l) (hl : l.length ≤ 1099511627776) :
    Calls Tryz.prog 91 #[.slice A l.length cap] w (BRet w (.string (str (Sp.flagged l)))) := by
  have HR := Lib.hid hr
  clear hr
  by_cases h0 : l.length = 0
  · obtain rfl : l = [] := List.eq_nil_of_length_eq_zero h0
    clear h0
    simp only [List.length_nil]
    go_enter Tryz.func91, Tryz.ntmps91
    go_wp2
    go_ret
    exact ⟨rfl, Below.refl _ _⟩
  · have hne : ((l.length : Int) == 0) = false := by rw [beq_eq_false_iff_ne]; omega
    have h1 : 0 < l.length := by omega
    clear h0
    go_enter Tryz.func91, Tryz.ntmps91
    go_wp2_with (first | ((with_reducible refine gate_dst (N := 11) rfl ?_); refine Kd.R_make (Kd.int .u8) _ 5 rfl (N := 11) rfl 45 _ _ rfl (l.length : Int) rfl rfl Tryz.underlying45 (.int .u8 0) 1 info5 rfl (by decide) (by omega) 0 (ok := fun _ => True) (okp := fun _ => True) rfl (fun _ hk => hk) trivial (by omega) (by omega) (Below.refl _ _) (Nat.le_refl _) ?_; intro v1 w1 HO0 HB0 j1 j2; clear hne j1 j2; have HV := Lib.hid (And.intro HO0 HB0); clear HO0 HB0))
    obtain ⟨HO0, HB⟩ := HV.out
    have HO1 : RowU w1 w.heap.size v1 (List.replicate l.length 0) := by
      have he : us (List.replicate l.length 0) = List.replicate ((l.length : Int)).toNat 0 := by simp [us]
      rw [RowU, he]; exact HO0
    clear HV HO0
    obtain ⟨g, gc, hv, hg1, hg2⟩ := HO1.form (by simp; omega)
    rw [List.length_replicate] at hv
    rw [hv] at HO1 ⊢
    clear hv v1
    have HG := Lib.hid hg1
    clear hg1 hg2
    go_loopw [14] (fun v14 wr => ∃ (i : Nat), v14 = .int .i64 (i : Int) ∧ i ≤ l.length ∧ RowU wr w.heap.size (.slice (some ⟨g, 0, none⟩) l.length gc) ((l.take i).map fl ++ List.replicate (l.length - i) 0) ∧ Below w.heap.size w wr) (fun v14 _ => l.length - (intOf v14).toNat)
    case atStart => exact ⟨0, rfl, Nat.zero_le _, by simpa using HO1, HB⟩
    case round =>
      obtain ⟨i, rfl, hi, HO, HBr⟩ := hrel
      clear HO1 HB
      by_cases hlt : i < l.length
      · obtain ⟨ad, hA, hcell⟩ := (HR.out.below HBr).at_ i hlt
        obtain ⟨b, hb⟩ : ∃ b, b = l[i]'hlt := ⟨_, rfl⟩
        rw [← hb] at hcell
        subst hA
        rw [repl_succ hlt] at HO
        have hlen : ((l.take i).map fl).length = i := by simp; omega
        have hc0 := HO.cell i (by simp; omega)
        have P1 : RowU (wr.setCell ⟨g, i, none⟩ (.int .u8 48)) w.heap.size (.slice (some ⟨g, 0, none⟩) l.length gc) ((l.take i).map fl ++ 48 :: List.replicate (l.length - (i + 1)) 0) := by
          have := HO.put i 48 (x := 48) rfl; rwa [set_mid hlen] at this
        have P2 : RowU ((wr.setCell ⟨g, i, none⟩ (.int .u8 48)).setCell ⟨g, i, none⟩ (.int .u8 49)) w.heap.size (.slice (some ⟨g, 0, none⟩) l.length gc) ((l.take i).map fl ++ 49 :: List.replicate (l.length - (i + 1)) 0) := by
          have := P1.put i 49 (x := 49) rfl; rwa [set_mid hlen] at this
        have hc1 := P1.cell i (by simp; omega)
        have B1 := HBr.setCell (p := ⟨g, i, none⟩) HG.out (.int .u8 48)
        have B2 := B1.setCell (p := ⟨g, i, none⟩) HG.out (.int .u8 49)
        obtain ⟨V0, x0⟩ : ∃ V, wr.cell? ⟨g, i, none⟩ = some V := ⟨_, hc0.1⟩
        obtain ⟨V1, x1⟩ : ∃ V, (wr.setCell ⟨g, i, none⟩ (.int .u8 48)).cell? ⟨g, i, none⟩ = some V := ⟨_, hc1.1⟩
        have f0 := hc0.2
        have f1 := hc1.2
        have HP := Lib.hid (And.intro P1 (And.intro P2 (And.intro B1 (And.intro B2 hb))))
        clear P1 P2 B1 B2 hb hlen HO hc0 hc1
        have HS : Hid (∀ x : Bool, x = l[i]'hlt → (l.take i).map fl ++ fl x :: List.replicate (l.length - (i + 1)) 0 = (l.take (i + 1)).map fl ++ List.replicate (l.length - (i + 1)) 0) := Lib.hid (fun x hx => by rw [hx, take_snoc' hlt]; simp)
        cases b with
        | true =>
          go_wp2
          refine ⟨⟨i + 1, by go_num, by omega, ?_, HP.out.2.2.2.1⟩, by simp [intOf]; omega⟩
          have := HS.out true HP.out.2.2.2.2
          rw [← this]
          exact HP.out.2.1
        | false =>
          go_wp2
          refine ⟨⟨i + 1, by go_num, by omega, ?_, HP.out.2.2.1⟩, by simp [intOf]; omega⟩
          have := HS.out false HP.out.2.2.2.2
          rw [← this]
          exact HP.out.1
      · have hcv := own_string (P := Tryz.prog) Tryz.underlying45 Tryz.underlying5 Tryz.underlying9 (Kd.own_of_R HO)
        go_wp2
        go_ret
        refine ⟨?_, HBr⟩
        have hi' : i = l.length := by omega
        have hne : l ≠ [] := fun q => by rw [q] at h1; exact absurd h1 (by simp)
        show Ending.returned (.string (strOfNums _)) = _
        rw [str_us, hi', Sp.flagged, if_neg hne]
        simp
        rw [List.take_of_length_le (by simp)]
        rfl
end Go.Proofs.YthnhfddlmkhgkaaGreatDoor

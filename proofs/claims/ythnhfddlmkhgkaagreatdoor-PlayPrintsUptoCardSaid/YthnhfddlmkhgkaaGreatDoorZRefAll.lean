/- Plain Lean: the document's own reading of numbers and calls says the same. The document's tables: its package-level variables. -/
import Derived.Test.YthnhfddlmkhgkaaGreatDoorZFirst
import Derived.Test.YthnhfddlmkhgkaaGreatDoorZLawAll
import Derived.Test.YthnhfddlmkhgkaaGreatDoorZCallsC
set_option linter.unusedVariables false
namespace Go.Proofs.YthnhfddlmkhgkaaGreatDoor
open Go.RowKit Go.Proofs.YthnhfddlmkhgkaaGreatDoorW.PrintWords

set_option maxHeartbeats 1000000 in
theorem rbare_any (c : UInt8) (n : Int) (hn : n = (c.toNat : Int)) (w : World) :
    Calls Tryz.prog 83 #[.int .u8 n] w (SRet w (.bool (Sp.isBare c))) := by
  have h0 : 0 ≤ n := by omega
  have h1 : n ≤ 255 := by have := c.toNat_lt; omega
  have hd : Sp.isBare c = decide ((97 ≤ n ∧ n ≤ 122) ∨ (65 ≤ n ∧ n ≤ 90) ∨ (48 ≤ n ∧ n ≤ 57) ∨ n = 95 ∨ n = 46 ∨ n = 45 ∨ n = 47) := by
    subst hn
    have e : ∀ k : UInt8, (c == k) = decide ((c.toNat : Int) = (k.toNat : Int)) := fun k => by
      rw [Bool.eq_iff_iff, beq_iff_eq, decide_eq_true_iff]
      exact ⟨fun h => by rw [h], fun h => UInt8.toNat_inj.1 (by omega)⟩
    simp only [Sp.isBare, e]
    rw [Bool.eq_iff_iff]
    simp only [Bool.or_eq_true, Bool.and_eq_true, decide_eq_true_eq, UInt8.le_iff_toNat_le]
    have k1 : (97 : UInt8).toNat = 97 := rfl
    have k2 : (122 : UInt8).toNat = 122 := rfl
    have k3 : (65 : UInt8).toNat = 65 := rfl
    have k4 : (90 : UInt8).toNat = 90 := rfl
    have k5 : (48 : UInt8).toNat = 48 := rfl
    have k6 : (57 : UInt8).toNat = 57 := rfl
    have k7 : (95 : UInt8).toNat = 95 := rfl
    have k8 : (46 : UInt8).toNat = 46 := rfl
    have k9 : (45 : UInt8).toNat = 45 := rfl
    have k10 : (47 : UInt8).toNat = 47 := rfl
    omega
  obtain ⟨r, hr⟩ : ∃ r, r = Sp.isBare c := ⟨_, rfl⟩
  rw [← hr] at hd ⊢
  have HR := Lib.hid hd
  clear hd hn hr
  go_enter Tryz.func83, Tryz.ntmps83
  go_wp2
  all_goals go_ret
  all_goals (refine ⟨ret_bool ?_, rfl⟩; rw [HR.out, Bool.eq_iff_iff, decide_eq_true_iff]; first | (simp; omega) | (simp_all; done) | omega | (simp_all; omega))
set_option maxHeartbeats 1000000 in
theorem rdigit_any (c : UInt8) (n : Int) (hn : n = (c.toNat : Int)) (w : World) :
    Calls Tryz.prog 137 #[.int .u8 n] w (SRet w (.int .i64 (Sp.digit c))) := by
  have h0 : 0 ≤ n := by omega
  have h1 : n ≤ 255 := by have := c.toNat_lt; omega
  have hd : Sp.digit c = if 48 ≤ n ∧ n ≤ 57 then n - 48 else if 97 ≤ n ∧ n ≤ 102 then n - 87 else if 65 ≤ n ∧ n ≤ 70 then n - 55 else -1 := by
    subst hn; simp only [Sp.digit, Bool.and_eq_true, decide_eq_true_eq, UInt8.le_iff_toNat_le]; norm_cast
  rw [hd]
  clear hd hn
  go_enter Tryz.func137, Tryz.ntmps137
  go_wp2
  all_goals go_ret
  all_goals exact ⟨ret_int (by (repeat' split) <;> omega), rfl⟩
theorem duo_sum {h l : UInt8} {A B : Int} (hA : Sp.digit h = A) (hB : Sp.digit l = B) (a0 : 0 ≤ A) (b0 : 0 ≤ B) : 16 * A + B = ((Sp.duo h l).toNat : Int) := by
  have r1 := Sp.digit_rng h
  have r2 := Sp.digit_rng l
  unfold Sp.duo
  rw [hA, hB] at *
  rw [UInt8.toNat_ofNat']
  omega
def quotedR (n : Nat) : Option (Sp.Bs × Sp.Bs) → Value
  | some (wd, r) => .tuple #[.string (str wd), .int .i64 ((n : Int) - r.length)]
  | none => .tuple #[.string ⟨#[]⟩, .int .i64 (-1)]
theorem ret_qr {a b : Int} {s : ByteArray} (h : a = b) : Ending.returned (.tuple #[.string s, .int .i64 a]) = .returned (.tuple #[.string s, .int .i64 b]) := by rw [h]
set_option maxHeartbeats 1000000 in
set_option maxRecDepth 100000 in
theorem rquoted_any (s : ByteArray) (i0 : Nat) (w : World) (hs : s.size ≤ 1099511627776) (hi0 : i0 < s.size) :
    Calls Tryz.prog 82 #[.string s, .int .i64 (i0 : Int)] w (BRet w (quotedR s.size (Sp.quoted ((bl s).drop (i0 + 1))))) := by
  go_enter Tryz.func82, Tryz.ntmps82
  go_wp2
  go_loopw [1, 6] (fun v1 v6 wr => ∃ (i : Nat) (o : Sp.Bs), v1 = .int .i64 (i : Int) ∧ i ≤ s.size ∧ o.length ≤ i ∧ RowU wr w.heap.size v6 o ∧ Hid (Sp.quoted ((bl s).drop (i0 + 1)) = (Sp.quoted ((bl s).drop i)).map fun p => (o ++ p.1, p.2)) ∧ Below w.heap.size w wr) (fun v1 _ _ => s.size - (intOf v1).toNat)
  case atStart => exact ⟨i0 + 1, [], by go_num, by omega, by simp, RowU.nil _ _, Lib.hid (by simp), Below.refl _ _⟩
  case round =>
    obtain ⟨i, o, rfl, hi, ho, HO, HQ, HB⟩ := hrel
    by_cases hlt : i < s.size
    · have hdr := bl_drop s i hlt
      obtain ⟨c, hc⟩ : ∃ c, c = s[i]'hlt := ⟨_, rfl⟩
      rw [← hc] at hdr
      obtain ⟨C, hC⟩ : ∃ C : Int, C = (c.toNat : Int) := ⟨_, rfl⟩
      have hx : ∀ h : i < s.size, ((s[i]'h).toNat : Int) = C := fun h => by rw [hC, hc]
      have hC255 : 0 ≤ C ∧ C ≤ 255 := by have := c.toNat_lt; omega
      obtain ⟨hC0, hC1⟩ := hC255
      have T34 : (C == 34) = decide (c = 34) := u8_eqb 34 hC rfl
      have T32 : decide (C < 32) = decide (c < 32) := u8_ltb 32 hC rfl
      have T126 : decide (126 < C) = decide (126 < c) := u8_gtb 126 hC rfl
      have T92 : (C != 92) = !decide (c = 92) := u8_neb 92 hC rfl
      have HD := Lib.hid hdr
      have HC := Lib.hid hC
      clear hdr hC hc
      have HX := Lib.hid HQ.out
      by_cases e34 : c = 34
      · simp only [e34, decide_true] at T34
        clear T32 T126 T92
        have hcv := own_string (P := Tryz.prog) Tryz.underlying45 Tryz.underlying5 Tryz.underlying9 (Kd.own_of_R HO)
        go_wp2
        go_ret2
        refine ⟨?_, HB⟩
        rw [HX.out, HD.out, e34, Sp.quoted_q]
        simp only [Option.map_some, List.append_nil, quotedR, str_us]
        exact ret_qr (by rw [List.length_drop, bl_len]; omega)
      simp only [e34, decide_false] at T34
      by_cases e32 : c < 32
      · simp only [e32, decide_true] at T32
        go_wp2
        go_ret2
        refine ⟨?_, HB⟩
        rw [HX.out, HD.out, Sp.quoted_bad e34 (Sp.letter_bad (.inl e32))]
        rfl
      simp only [e32, decide_false] at T32
      by_cases e126 : 126 < c
      · simp only [e126, decide_true] at T126
        go_wp2
        go_ret2
        refine ⟨?_, HB⟩
        rw [HX.out, HD.out, Sp.quoted_bad e34 (Sp.letter_bad (.inr e126))]
        rfl
      simp only [e126, decide_false] at T126
      by_cases e92 : c = 92
      · simp only [e92, decide_true, Bool.not_true] at T92
        by_cases l1 : i + 1 < s.size
        · have hdr1 := bl_drop s (i + 1) l1
          obtain ⟨d, hd⟩ : ∃ d, d = s[i + 1]'l1 := ⟨_, rfl⟩
          rw [← hd] at hdr1
          obtain ⟨D, hD⟩ : ∃ D : Int, D = (d.toNat : Int) := ⟨_, rfl⟩
          have hx1 : ∀ h : i + 1 < s.size, ((s[i + 1]'h).toNat : Int) = D := fun h => by rw [hD, hd]
          have hD255 : 0 ≤ D ∧ D ≤ 255 := by have := d.toNat_lt; omega
          obtain ⟨hD0, hD1⟩ := hD255
          have U34 : (D == 34) = decide (d = 34) := u8_eqb 34 hD rfl
          have U92 : (D == 92) = decide (d = 92) := u8_eqb 92 hD rfl
          have U120 : (D != 120) = !decide (d = 120) := u8_neb 120 hD rfl
          have HD1 := Lib.hid hdr1
          have HDD := Lib.hid hD
          clear hdr1 hD hd
          by_cases e : d = 34 ∨ d = 92
          · have fin : Sp.quoted ((bl s).drop (i0 + 1)) = (Sp.quoted ((bl s).drop (i + 1 + 1))).map fun p => ((o ++ [d]) ++ p.1, p.2) := by
              rw [HX.out, HD.out, HD1.out, e92, Sp.quoted_step (by decide) (Sp.letter_esc e), Option.map_map]
              simp [Function.comp_def]
            have HF := Lib.hid fin
            clear fin
            rcases e with e | e
            all_goals
              simp only [e, decide_true, decide_false, show ¬ (92 : UInt8) = 34 by decide] at U34 U92
              go_wp2_with (at_builtin; refine ap_u8 (base := w.heap.size) (w0 := w) (v := u6) (l := o) (c := d) rfl rfl rfl rfl HDD.out HO HB HB.size (by omega) ?_; intro v1 w1 HO1 HB1 _ _)
              go_roundw
              case rel => exact ⟨i + 1 + 1, o ++ [d], by go_num, by omega, by simp; omega, HO1, HF, HB1⟩
              case measure => simp [intOf]; omega
          · simp only [not_or] at e
            simp only [e.1, e.2, decide_false] at U34 U92
            by_cases l3 : i + 3 < s.size
            · have hdr2 := bl_drop s (i + 1 + 1) (by omega)
              have hdr3 := bl_drop s (i + 1 + 1 + 1) (by omega)
              obtain ⟨h, hh⟩ : ∃ h, h = s[i + 2]'(by omega) := ⟨_, rfl⟩
              obtain ⟨l, hl⟩ : ∃ l, l = s[i + 3]'l3 := ⟨_, rfl⟩
              replace hdr2 : List.drop (i + 1 + 1) (bl s) = h :: List.drop (i + 1 + 1 + 1) (bl s) := by rw [hdr2, hh]
              replace hdr3 : List.drop (i + 1 + 1 + 1) (bl s) = l :: List.drop (i + 1 + 1 + 1 + 1) (bl s) := by rw [hdr3, hl]
              obtain ⟨Hn, hHn⟩ : ∃ D : Int, D = (h.toNat : Int) := ⟨_, rfl⟩
              obtain ⟨Ln, hLn⟩ : ∃ D : Int, D = (l.toNat : Int) := ⟨_, rfl⟩
              have hx2 : ∀ q : i + 2 < s.size, ((s[i + 2]'q).toNat : Int) = Hn := fun q => by rw [hHn, hh]
              have hx3 : ∀ q : i + 3 < s.size, ((s[i + 3]'q).toNat : Int) = Ln := fun q => by rw [hLn, hl]
              have HDL := Lib.hid (And.intro hdr2 hdr3)
              have HN := Lib.hid (And.intro hHn hLn)
              clear hdr2 hdr3 hHn hLn hh hl
              by_cases e120 : d = 120
              · simp only [e120, decide_true, Bool.not_true] at U120
                have fin : 0 ≤ Sp.digit h → 0 ≤ Sp.digit l → Sp.quoted ((bl s).drop (i0 + 1)) = (Sp.quoted ((bl s).drop (i + 1 + 1 + 1 + 1))).map fun p => ((o ++ [Sp.duo h l]) ++ p.1, p.2) := fun q1 q2 => by
                  rw [HX.out, HD.out, HD1.out, HDL.out.1, HDL.out.2, e92, e120, Sp.quoted_step (by decide) (Sp.letter_hex q1 q2), Option.map_map]
                  simp [Function.comp_def]
                have bad : ¬ (0 ≤ Sp.digit h ∧ 0 ≤ Sp.digit l) → Sp.quoted ((bl s).drop (i0 + 1)) = none := fun q => by
                  rw [HX.out, HD.out, HD1.out, HDL.out.1, HDL.out.2, e92, e120, Sp.quoted_bad (by decide) (Sp.letter_nohex (by decide) (by simpa using q))]
                  rfl
                have HF := Lib.hid (And.intro fin bad)
                clear fin bad
                have hA := rdigit_any h Hn HN.out.1
                have hB := rdigit_any l Ln HN.out.2
                have HDA := Lib.hid (And.intro (Sp.digit_rng h) (Sp.digit_rng l))
                generalize hAA : Sp.digit h = A at *
                generalize hBB : Sp.digit l = B at *
                have HAB := Lib.hid (And.intro hAA hBB)
                clear hAA hBB
                have A1 := HDA.out.1.1
                have A2 := HDA.out.1.2
                have B1 := HDA.out.2.1
                have B2 := HDA.out.2.2
                have HCA := Lib.hid hA
                have HCB := Lib.hid hB
                clear hA hB
                by_cases a0 : 0 ≤ A
                · by_cases b0 : 0 ≤ B
                  · have HBI := Lib.hid (duo_sum HAB.out.1 HAB.out.2 a0 b0)
                    go_wp2_with (first | (go_at_call 137; ((with_reducible refine (HCA.out _).mono ?_); rintro e w1 ⟨rfl, rfl⟩)) | (go_at_call 137; ((with_reducible refine (HCB.out _).mono ?_); rintro e w1 ⟨rfl, rfl⟩)) | (at_builtin; refine ap_u8 (W := wr) (base := w.heap.size) (w0 := w) (v := u6) (l := o) (c := Sp.duo h l) rfl rfl rfl rfl HBI.out HO HB HB.size (by omega) ?_; intro v1 w1 HO2 HB2 _ _))
                    go_roundw
                    case rel => exact ⟨i + 1 + 1 + 1 + 1, o ++ [Sp.duo h l], by go_num, by omega, by simp; omega, HO2, Lib.hid (HF.out.1 a0 b0), HB2⟩
                    case measure => simp [intOf]; omega
                  · go_wp2_with (first | (go_at_call 137; ((with_reducible refine (HCA.out _).mono ?_); rintro e w1 ⟨rfl, rfl⟩)) | (go_at_call 137; ((with_reducible refine (HCB.out _).mono ?_); rintro e w1 ⟨rfl, rfl⟩)))
                    go_ret2
                    refine ⟨?_, HB⟩
                    rw [HF.out.2 (fun q => absurd q.2 (by omega))]
                    rfl
                · go_wp2_with (first | (go_at_call 137; ((with_reducible refine (HCA.out _).mono ?_); rintro e w1 ⟨rfl, rfl⟩)) | (go_at_call 137; ((with_reducible refine (HCB.out _).mono ?_); rintro e w1 ⟨rfl, rfl⟩)))
                  go_ret2
                  refine ⟨?_, HB⟩
                  rw [HF.out.2 (fun q => absurd q.1 (by omega))]
                  rfl
              · simp only [e120, decide_false, Bool.not_false] at U120
                go_wp2
                go_ret2
                refine ⟨?_, HB⟩
                rw [HX.out, HD.out, HD1.out, HDL.out.1, HDL.out.2, e92, Sp.quoted_bad (by decide) (Sp.letter_nohex (by simpa using e) (fun q => e120 q.1))]
                rfl
            · go_wp2
              all_goals go_ret2
              all_goals refine ⟨?_, HB⟩
              all_goals rw [HX.out, HD.out, HD1.out, e92, Sp.quoted_bad (by decide) (Sp.letter_short (by simpa using e) (by rw [List.length_drop, bl_len]; omega))]
              all_goals rfl
        · go_wp2
          go_ret2
          refine ⟨?_, HB⟩
          have hn : List.drop (i + 1) (bl s) = [] := List.drop_eq_nil_of_le (by rw [bl_len]; omega)
          rw [HX.out, HD.out, hn, e92, Sp.quoted_bad (by decide) Sp.letter_end]
          rfl
      · simp only [e92, decide_false, Bool.not_false] at T92
        go_wp2_with (at_builtin; refine ap_u8 (base := w.heap.size) (w0 := w) (v := u6) (l := o) (c := c) rfl rfl rfl rfl HC.out HO HB HB.size (by omega) ?_; intro v1 w1 HO1 HB1 _ _)
        go_roundw
        case rel => exact ⟨i + 1, o ++ [c], by go_num, by omega, by simp; omega, HO1, Lib.hid (by rw [HX.out, HD.out, Sp.quoted_step e34 (Sp.letter_plain e32 e126 e92), Option.map_map]; simp [Function.comp_def]), HB1⟩
        case measure => simp [intOf]; omega
    · go_wp2
      go_ret2
      refine ⟨?_, HB⟩
      have hn : List.drop i (bl s) = [] := List.drop_eq_nil_of_le (by rw [bl_len]; omega)
      rw [HQ.out, hn, Sp.quoted_nil]
      rfl
end Go.Proofs.YthnhfddlmkhgkaaGreatDoor

set_option linter.unusedVariables false
namespace Go.Proofs.YthnhfddlmkhgkaaGreatDoor
namespace Sp
/-- a row of digits' number -/
def val (w : Bs) : Nat := w.foldl (fun a c => 10 * a + (c.toNat - 48)) 0
theorem val_snoc (l : Bs) (c : UInt8) : val (l ++ [c]) = 10 * val l + (c.toNat - 48) := by simp [val]
/-- 0, or digits of which the first is not 0 -/
def digs (w : Bs) : Prop := w ≠ [] ∧ (∀ b ∈ w, 48 ≤ b.toNat ∧ b.toNat ≤ 57) ∧ (w = [48] ∨ w.head? ≠ some 48)
theorem val_lt {l : Bs} (h : ∀ b ∈ l, 48 ≤ b.toNat ∧ b.toNat ≤ 57) : val l < 10 ^ l.length := by
  have key : ∀ (l : Bs) (a k : Nat), (∀ b ∈ l, 48 ≤ b.toNat ∧ b.toNat ≤ 57) → a < 10 ^ k → l.foldl (fun a c => 10 * a + (c.toNat - 48)) a < 10 ^ (k + l.length) := by
    intro l
    induction l with
    | nil => intro a k _ ha; simpa using ha
    | cons c l ih =>
      intro a k h ha
      have hc := h c List.mem_cons_self
      have := ih (10 * a + (c.toNat - 48)) (k + 1) (fun b hb => h b (List.mem_cons_of_mem _ hb)) (by rw [Nat.pow_succ]; omega)
      rw [List.foldl_cons, List.length_cons]
      rw [show k + (l.length + 1) = k + 1 + l.length by omega]
      exact this
  have := key l 0 0 h (by simp)
  rwa [Nat.zero_add] at this
theorem digs_val : ∀ (n : Nat) (w : Bs), w.length ≤ n → digs w → Lib.decDigits (val w) = w ∧ (w.head? ≠ some 48 → 0 < val w) := by
  intro n
  induction n with
  | zero =>
    intro w hw h
    exact absurd (List.eq_nil_of_length_eq_zero (by omega)) h.1
  | succ n ih =>
    intro w hw h
    obtain ⟨h1, h2, h3⟩ := h
    rcases List.eq_nil_or_concat w with rfl | ⟨l, c, rfl⟩
    · exact absurd rfl h1
    · rw [List.concat_eq_append] at *
      have hc := h2 c (by simp)
      rw [val_snoc]
      by_cases hl : l = []
      · subst hl
        have h0 : val [] = 0 := rfl
        rw [h0, Lib.decDigits_one (by omega)]
        refine ⟨?_, fun hh => ?_⟩
        · have : UInt8.ofNat (48 + (10 * 0 + (c.toNat - 48))) = c := by
            apply UInt8.toNat_inj.1
            rw [UInt8.toNat_ofNat']
            omega
          rw [this]; rfl
        · have : c ≠ 48 := fun e => hh (by rw [e]; rfl)
          have : c.toNat ≠ 48 := fun e => this (UInt8.toNat_inj.1 e)
          omega
      · have hh : (l ++ [c]).head? = l.head? := by
          cases l with
          | nil => exact absurd rfl hl
          | cons a b => rfl
        have hne : l.head? ≠ some 48 := by
          rcases h3 with h3 | h3
          · have := congrArg List.length h3
            simp only [List.length_append, List.length_cons, List.length_nil] at this
            exact absurd (List.eq_nil_of_length_eq_zero (by omega)) hl
          · rwa [hh] at h3
        rw [List.length_append, List.length_singleton] at hw
        obtain ⟨q1, q2⟩ := ih l (by omega) ⟨hl, fun b hb => h2 b (List.mem_append_left _ hb), .inr hne⟩
        have q3 := q2 hne
        refine ⟨?_, fun _ => by omega⟩
        rw [Lib.decDigits, dif_neg (by omega), show (10 * val l + (c.toNat - 48)) / 10 = val l by omega, show (10 * val l + (c.toNat - 48)) % 10 = c.toNat - 48 by omega, q1]
        congr 2
        apply UInt8.toNat_inj.1
        rw [UInt8.toNat_ofNat']
        omega
theorem dec_val (u : Nat) : val (Lib.decDigits u) = u ∧ (0 < u → (Lib.decDigits u).head? ≠ some 48) := by
  induction u using Nat.strongRecOn with
  | _ u ih =>
    rw [Lib.decDigits]
    split
    · rename_i h
      have e : (UInt8.ofNat (48 + u)).toNat = 48 + u := by rw [UInt8.toNat_ofNat']; omega
      refine ⟨by simp only [val, List.foldl_cons, List.foldl_nil]; rw [e]; omega, fun h0 h1 => ?_⟩
      simp only [List.head?_cons, Option.some.injEq] at h1
      rw [h1] at e
      have : (48 : UInt8).toNat = 48 := rfl
      omega
    · rename_i h
      have e : (UInt8.ofNat (48 + u % 10)).toNat = 48 + u % 10 := by rw [UInt8.toNat_ofNat']; omega
      have h1 := ih (u / 10) (by omega)
      refine ⟨by rw [val_snoc, h1.1, e]; omega, fun _ => ?_⟩
      have hne := dec_ne (u / 10)
      have h2 := h1.2 (by omega)
      generalize Lib.decDigits (u / 10) = l at hne h2
      cases l with
      | nil => exact absurd rfl hne
      | cons a b => simpa using h2
theorem dec_digs (u : Nat) : digs (Lib.decDigits u) := by
  refine ⟨dec_ne u, dec_digit u, ?_⟩
  by_cases h : u = 0
  · subst h; exact .inl (by rw [Lib.decDigits_one (by omega)]; rfl)
  · exact .inr ((dec_val u).2 (by omega))
theorem nd_le : ∀ (k u : Nat), u < 10 ^ (k + 1) → Lib.nDigits u ≤ k + 1
  | 0, u, h => by rw [Lib.nDigits_small (by simpa using h)]; omega
  | k + 1, u, h => by
    by_cases hu : u < 10
    · rw [Lib.nDigits_small hu]; omega
    · rw [Lib.nDigits_big hu]
      have := nd_le k (u / 10) (by rw [Nat.pow_succ] at h; omega)
      omega
theorem number_yes {w : Bs} (h : digs w) (hv : val w ≤ 1073741824) : number w = some (val w : Int) := by
  have h1 := (digs_val _ w (Nat.le_refl _) h).1
  have h2 := number_itoa (x := (val w : Int)) (by omega) (by unfold most; omega)
  rwa [itoa_dec (by omega), Int.toNat_natCast, h1] at h2
theorem number_no {w : Bs} (h : ¬ (digs w ∧ w.length ≤ 10 ∧ val w ≤ 1073741824)) : number w = none := by
  cases hn : number w with
  | none => rfl
  | some x =>
    obtain ⟨h0, h1, h2⟩ := number_some hn
    unfold most at h1
    rw [itoa_dec h0] at h2
    refine absurd ⟨?_, ?_, ?_⟩ h
    · rw [← h2]; exact dec_digs _
    · rw [← h2, Lib.decDigits_length]
      exact nd_le 9 _ (by have : (10 : Nat) ^ (9 + 1) = 10000000000 := rfl; omega)
    · rw [← h2, (dec_val _).1]; omega
/-- the document's Number: -1 where there is none -/
def numR (w : Bs) : Int := (number w).getD (-1)
theorem numR_rng (w : Bs) : -1 ≤ numR w ∧ numR w ≤ 1073741824 := by
  unfold numR
  cases h : number w with
  | none => simp
  | some x => have := number_some h; unfold most at this; simp only [Option.getD_some]; omega
theorem numR_some {w : Bs} (h : 0 ≤ numR w) : number w = some (numR w) := by
  unfold numR at *
  cases hn : number w with
  | none => rw [hn] at h; simp at h
  | some x => rfl
theorem numR_none {w : Bs} (h : ¬ 0 ≤ numR w) : number w = none := by
  cases hn : number w with
  | none => rfl
  | some x => have := number_some hn; exact absurd (by unfold numR; rw [hn]; exact this.1) h
/-- the document's filling of a call: all words are taken, a number that is none is remembered -/
def fillR : Bs → List Bs → Call → Bool → Call × Bool
  | l :: ls, w :: ws, c, g =>
    match cell l with
    | some k => fillR ls ws (c.setN k (numR w)) (g && decide (0 ≤ numR w))
    | none => fillR ls ws (c.setT l w) g
  | _, _, c, g => (c, g)
theorem fillR_false : ∀ (ls : Bs) (ws : List Bs) (c : Call), (fillR ls ws c false).2 = false
  | [], ws, c => by simp [fillR]
  | l :: ls, [], c => by simp [fillR]
  | l :: ls, w :: ws, c => by
    simp only [fillR, Bool.false_and]
    split
    · exact fillR_false ls ws _
    · exact fillR_false ls ws _
theorem fillR_call : ∀ (ls : Bs) (ws : List Bs) (c : Call), fillCall ls ws c = if (fillR ls ws c true).2 then some (fillR ls ws c true).1 else none
  | [], ws, c => by simp [fillR, fillCall]
  | l :: ls, [], c => by simp [fillR, fillCall]
  | l :: ls, w :: ws, c => by
    simp only [fillR, fillCall, Bool.true_and]
    cases cell l with
    | none => exact fillR_call ls ws _
    | some k =>
      simp only
      by_cases h : 0 ≤ numR w
      · rw [numR_some h, decide_eq_true h]
        exact fillR_call ls ws _
      · rw [numR_none h, decide_eq_false h, fillR_false]
        rfl
def callR (op : Nat) (ws : List Bs) : Call × Bool := fillR (callRows.getD op ([], [])).2 (ws.drop 1) { op := op } true
theorem callR_call (op : Nat) (ws : List Bs) : call op ws = if (callR op ws).2 then ((callR op ws).1, 0) else ({}, 213) := by
  unfold call callR
  rw [fillR_call]
  split <;> simp_all
end Sp
end Go.Proofs.YthnhfddlmkhgkaaGreatDoor

set_option linter.unusedVariables false
namespace Go.Proofs.YthnhfddlmkhgkaaGreatDoor
open Go.RowKit Go.Proofs.YthnhfddlmkhgkaaGreatDoorW.PrintWords
namespace Sp
/-- the document's letters of a call, of a step -/
def trC (c : UInt8) : UInt8 := if c = 105 then 103 else if c = 50 then 109 else c
def trS (c : UInt8) : UInt8 := if c = 97 then 65 else if c = 107 then 75 else if c = 109 then 77 else if c = 120 then 88 else if c = 106 then 84 else if c = 100 then 68 else if c = 98 then 66 else c
def cformsR : List Bs := callRows.map fun r => r.2.map trC
def cnamesR : List Bs := callRows.map fun r => r.1
def formsR : List Bs := [] :: [] :: (stepRows.drop 2).map fun r => r.2.map trS
def namesR : List Bs := stepRows.map fun r => r.1
end Sp
def colCells (l : List Sp.Bs) : Array Value := (l.map fun s => Value.string (str s)).toArray
theorem gForms : Tryz.prog.globalNamed "annex/annexref21.forms" = some 1 := by kernel_rfl
theorem gNames : Tryz.prog.globalNamed "annex/annexref21.names" = some 2 := by kernel_rfl
theorem gCForms : Tryz.prog.globalNamed "annex/annexref21.callForms" = some 4 := by kernel_rfl
theorem gCNames : Tryz.prog.globalNamed "annex/annexref21.callNames" = some 5 := by kernel_rfl
/-- what the package-level variables hold, the document's tables of calls too -/
structure EnvR (w : World) : Prop where
  env : Env w
  cforms : w.var? Tryz.prog "annex/annexref21.callForms" = some (colCells Sp.cformsR)
  cnames : w.var? Tryz.prog "annex/annexref21.callNames" = some (colCells Sp.cnamesR)
theorem EnvR.below {w w' : World} (h : EnvR w) (hb : Below w.heap.size w w') : EnvR w' where
  env := h.env.below hb
  cforms := var_below gCForms hb h.cforms
  cnames := var_below gCNames hb h.cnames
theorem EnvR.drew {w : World} (h : EnvR w) : EnvR w.drew := h.below ((Below.refl _ _).drew)
/-- and of steps -/
structure EnvP (w : World) : Prop where
  r : EnvR w
  forms : w.var? Tryz.prog "annex/annexref21.forms" = some (colCells Sp.formsR)
  names : w.var? Tryz.prog "annex/annexref21.names" = some (colCells Sp.namesR)
theorem EnvP.below {w w' : World} (h : EnvP w) (hb : Below w.heap.size w w') : EnvP w' where
  r := h.r.below hb
  forms := var_below gForms hb h.forms
  names := var_below gNames hb h.names
theorem EnvP.drew {w : World} (h : EnvP w) : EnvP w.drew := h.below ((Below.refl _ _).drew)
/-- a cell of such a table -/
theorem col_cell {w : World} {n : String} {g : Nat} {l : List Sp.Bs} (hg : Tryz.prog.globalNamed n = some g) (hv : w.var? Tryz.prog n = some (colCells l)) (i : Nat) (hi : i < l.length) :
    w.cell? ⟨g, i, none⟩ = some (.string (str (l.getD i []))) := by
  obtain ⟨t, fr, h⟩ := var_row hg hv
  rw [cell_of_row _ _ _ _ _ _ h]
  simp [colCells, List.getD, hi]
end Go.Proofs.YthnhfddlmkhgkaaGreatDoor

set_option linter.unusedVariables false
namespace Go.Proofs.YthnhfddlmkhgkaaGreatDoor
open Go.RowKit Go.Proofs.YthnhfddlmkhgkaaGreatDoorW.PrintWords

theorem digs_head {l : Sp.Bs} (hd : ∀ b ∈ l, 48 ≤ b.toNat ∧ b.toNat ≤ 57) (c : UInt8) (r : Sp.Bs) (e : l = c :: r) : Sp.digs l ↔ (l = [48] ∨ c ≠ 48) := by
  subst e
  unfold Sp.digs
  simp only [List.head?_cons, ne_eq, Option.some.injEq, reduceCtorEq, not_false_eq_true, true_and]
  exact ⟨fun h => h.2, fun h => ⟨hd, h⟩⟩
set_option maxHeartbeats 2000000 in
set_option maxRecDepth 100000 in
theorem rdigits_any (l : Sp.Bs) (r : Bool) (hr : r = true ↔ Sp.digs l) (w : World) (hs : l.length ≤ 1099511627776) :
    Calls Tryz.prog 138 #[.string (str l)] w (BRet w (.bool r)) := by
  have hsz : (str l).size = l.length := str_size l
  have HR := Lib.hid hr
  clear hr
  cases hl : l with
  | nil =>
    have T : ((str []).toList.isEmpty) = true := by rw [Lib.toList_data]; rfl
    have HL := Lib.hid hl
    subst hl
    go_enter Tryz.func138, Tryz.ntmps138
    go_wp2
    go_ret
    refine ⟨ret_bool ?_, Below.refl _ _⟩
    cases r with
    | false => rfl
    | true => exact absurd rfl (HR.out.1 rfl).1
  | cons c0 r0 =>
    rw [← hl]
    have T := str_ne (t := l) (by rw [hl]; simp)
    have HL := Lib.hid hl
    have hpos : 0 < l.length := by rw [hl]; simp
    clear hl
    go_enter Tryz.func138, Tryz.ntmps138
    go_wp2
    go_loopw [3] (fun v3 wr => ∃ (i : Nat), v3 = .int .i64 (i : Int) ∧ i ≤ l.length ∧ Hid (∀ b ∈ l.take i, 48 ≤ b.toNat ∧ b.toNat ≤ 57) ∧ Below w.heap.size w wr) (fun v3 _ => l.length - (intOf v3).toNat)
    case atStart => exact ⟨0, rfl, Nat.zero_le _, Lib.hid (by simp), Below.refl _ _⟩
    case round =>
      obtain ⟨i, rfl, hi, HQ, HB⟩ := hrel
      by_cases hlt : i < l.length
      · obtain ⟨c, hc⟩ : ∃ c, c = l[i]'hlt := ⟨_, rfl⟩
        obtain ⟨C, hC⟩ : ∃ C : Int, C = (c.toNat : Int) := ⟨_, rfl⟩
        have hx : ∀ h : i < (str l).size, (((str l)[i]'h).toNat : Int) = C := fun h => by rw [hC, hc]; rfl
        have hC0 : 0 ≤ C := by omega
        have hC1 : C ≤ 255 := by have := c.toNat_lt; omega
        have HC := Lib.hid (And.intro hc hC)
        clear hc hC
        by_cases d1 : C < 48
        · have HF : Hid (r = false) := Lib.hid (by
            cases r with
            | false => rfl
            | true =>
              have := ((HR.out.1 rfl).2.1 c (by rw [HC.out.1]; exact List.getElem_mem _)).1
              have := HC.out.2
              omega)
          clear HR
          go_wp2
          go_ret
          exact ⟨ret_bool HF.out.symm, HB⟩
        · by_cases d2 : 57 < C
          · have HF : Hid (r = false) := Lib.hid (by
              cases r with
              | false => rfl
              | true =>
                have := ((HR.out.1 rfl).2.1 c (by rw [HC.out.1]; exact List.getElem_mem _)).2
                have := HC.out.2
                omega)
            clear HR
            go_wp2
            go_ret
            exact ⟨ret_bool HF.out.symm, HB⟩
          · have hd2 : C ≤ 57 := by omega
            have HN : Hid (∀ b ∈ l.take (i + 1), 48 ≤ b.toNat ∧ b.toNat ≤ 57) := Lib.hid (fun b hb => by
              rw [List.take_succ_eq_append_getElem hlt] at hb
              rcases List.mem_append.1 hb with h | h
              · exact HQ.out b h
              · rw [List.mem_singleton.1 h, ← HC.out.1]
                have := HC.out.2
                omega)
            go_wp2
            go_roundw
            case rel => exact ⟨i + 1, by go_num, by omega, HN, HB⟩
            case measure => simp [intOf]; omega
      · have HI : Hid (r = true ↔ (l = [48] ∨ c0 ≠ 48)) := Lib.hid (by
          have h := HQ.out
          rw [List.take_of_length_le (by omega)] at h
          rw [HR.out]
          exact digs_head h c0 r0 HL.out)
        obtain ⟨C, hC⟩ : ∃ C : Int, C = (c0.toNat : Int) := ⟨_, rfl⟩
        have hx : ∀ h : 0 < (str l).size, (((str l)[0]'h).toNat : Int) = C := fun h => by rw [hC]; simp only [HL.out]; rfl
        have hC0 : 0 ≤ C := by omega
        have hC1 : C ≤ 255 := by have := c0.toNat_lt; omega
        have T2 : (C != 48) = !decide (c0 = 48) := u8_neb 48 hC rfl
        have T1 : ((str l).toList == [48]) = decide (l = [48]) := by
          have h := str_eqb l [48]
          rwa [show (str [48]).toList = [48] by rw [Lib.toList_data]; rfl] at h
        clear hC HR
        by_cases e1 : l = [48]
        · rw [decide_eq_true e1] at T1
          have HF : Hid (true = r) := Lib.hid (HI.out.2 (.inl e1)).symm
          clear e1 HI
          go_wp2
          go_ret
          exact ⟨ret_bool HF.out, HB⟩
        · rw [decide_eq_false e1] at T1
          by_cases e2 : c0 = 48
          · simp only [e2, decide_true, Bool.not_true] at T2
            have HF : Hid (false = r) := Lib.hid (by
              cases r with
              | false => rfl
              | true => exact absurd (HI.out.1 rfl) (by simp [e1, e2]))
            clear e1 HI
            go_wp2
            go_ret
            exact ⟨ret_bool HF.out, HB⟩
          · simp only [e2, decide_false, Bool.not_false] at T2
            have HF : Hid (true = r) := Lib.hid (HI.out.2 (.inr e2)).symm
            clear e1 HI
            go_wp2
            go_ret
            exact ⟨ret_bool HF.out, HB⟩
open Classical in
set_option maxHeartbeats 2000000 in
set_option maxRecDepth 100000 in
theorem rnumber_any (l : Sp.Bs) (w : World) (hs : l.length ≤ 1099511627776) : Calls Tryz.prog 84 #[.string (str l)] w (BRet w (.int .i64 (Sp.numR l))) := by
  have hsz : (str l).size = l.length := str_size l
  obtain ⟨r, hr⟩ : ∃ r : Bool, r = decide (Sp.digs l) := ⟨_, rfl⟩
  have HD : Hid (∀ w, Calls Tryz.prog 138 #[.string (str l)] w (BRet w (.bool r))) := Lib.hid (fun w => rdigits_any l r (by rw [hr, decide_eq_true_iff]) w hs)
  obtain ⟨x, hx⟩ : ∃ x, x = Sp.numR l := ⟨_, rfl⟩
  rw [← hx]
  have HX := Lib.hid hx
  clear hx
  cases r with
  | false =>
    have hnd := of_decide_eq_false hr.symm
    have HF : Hid (-1 = x) := Lib.hid (by rw [HX.out, Sp.numR, Sp.number_no (fun h => hnd h.1)]; rfl)
    clear hr hnd HX
    go_enter Tryz.func84, Tryz.ntmps84
    go_wp2_with (go_at_call 138; refine (HD.out _).mono ?_; rintro e w1 ⟨rfl, HB⟩)
    go_ret
    exact ⟨ret_int HF.out, HB⟩
  | true =>
    have hnd := of_decide_eq_true hr.symm
    by_cases h10 : 10 < l.length
    · have HF : Hid (-1 = x) := Lib.hid (by rw [HX.out, Sp.numR, Sp.number_no (fun h => by omega)]; rfl)
      clear hr hnd HX
      go_enter Tryz.func84, Tryz.ntmps84
      go_wp2_with (go_at_call 138; refine (HD.out _).mono ?_; rintro e w1 ⟨rfl, HB⟩)
      go_ret
      exact ⟨ret_int HF.out, HB⟩
    · have HN := Lib.hid hnd
      have hl10 : l.length ≤ 10 := by omega
      clear hr hnd
      go_enter Tryz.func84, Tryz.ntmps84
      go_wp2_with (go_at_call 138; refine (HD.out _).mono ?_; rintro e w1 ⟨rfl, HB⟩)
      go_loopw [4, 5] (fun v4 v5 wr => ∃ (i n : Nat), v4 = .int .i64 (n : Int) ∧ v5 = .int .i64 (i : Int) ∧ i ≤ l.length ∧ n ≤ 9999999999 ∧ Hid (n = Sp.val (l.take i)) ∧ Below w.heap.size w wr) (fun _ v5 _ => l.length - (intOf v5).toNat)
      case atStart => exact ⟨0, 0, rfl, rfl, Nat.zero_le _, by omega, Lib.hid (by simp [Sp.val]), HB⟩
      case round =>
        obtain ⟨i, n, rfl, rfl, hi, hn, HQ, HBr⟩ := hrel
        by_cases hlt : i < l.length
        · obtain ⟨c, hc⟩ : ∃ c, c = l[i]'hlt := ⟨_, rfl⟩
          have hcd := HN.out.2.1 c (by rw [hc]; exact List.getElem_mem _)
          obtain ⟨C, hC⟩ : ∃ C : Int, C = (c.toNat : Int) := ⟨_, rfl⟩
          have hx : ∀ h : i < (str l).size, (((str l)[i]'h).toNat : Int) = C := fun h => by rw [hC, hc]; rfl
          have hC0 : 48 ≤ C := by omega
          have hC1 : C ≤ 57 := by omega
          have hv : 10 * n + (c.toNat - 48) = Sp.val (l.take (i + 1)) := by
            rw [List.take_succ_eq_append_getElem hlt, Sp.val_snoc, ← HQ.out, ← hc]
          have hb : 10 * n + (c.toNat - 48) ≤ 9999999999 := by
            rw [hv]
            have := Sp.val_lt (l := l.take (i + 1)) (fun b hb => HN.out.2.1 b (List.take_subset _ _ hb))
            rw [List.length_take, Nat.min_eq_left (by omega)] at this
            have h2 : (10 : Nat) ^ (i + 1) ≤ 10 ^ 10 := Nat.pow_le_pow_right (by omega) (by omega)
            omega
          have HV : Hid (10 * (n : Int) + (C - 48) = ((10 * n + (c.toNat - 48) : Nat) : Int)) := Lib.hid (by omega)
          have HV2 := Lib.hid (And.intro hv hb)
          clear hc hC hcd hv hb
          go_wp2
          go_roundw
          case rel =>
            refine ⟨i + 1, 10 * n + (c.toNat - 48), ?_, by go_num, by omega, HV2.out.2, Lib.hid HV2.out.1, HBr⟩
            rw [← HV.out]
          case measure => simp [intOf]; omega
        · have hv : n = Sp.val l := by rw [HQ.out, List.take_of_length_le (by omega)]
          by_cases h30 : 1073741824 < n
          · have HF : Hid (-1 = x) := Lib.hid (by rw [HX.out, Sp.numR, Sp.number_no (fun h => by omega)]; rfl)
            clear hv HX
            go_wp2
            go_ret
            exact ⟨ret_int HF.out, HBr⟩
          · have HF : Hid ((n : Int) = x) := Lib.hid (by rw [HX.out, Sp.numR, Sp.number_yes HN.out (by omega), hv]; rfl)
            clear hv HX
            go_wp2
            go_ret
            exact ⟨ret_int HF.out, HBr⟩
theorem row_get {rows : List (Sp.Bs × Sp.Bs)} (i : Nat) (h : i < rows.length) : (rows.map fun r => r.1).getD i [] = (rows.getD i ([], [])).1 := by
  simp [List.getD, h]
set_option maxHeartbeats 2000000 in
set_option maxRecDepth 100000 in
theorem rcallOf_any (l : Sp.Bs) (w : World) (he : EnvR w) :
    Calls Tryz.prog 105 #[.string (str l)] w (BRet w (.int .i64 (Sp.findRow Sp.callRows l : Nat))) := by
  have HE := Lib.hid he
  clear he
  go_enter Tryz.func105, Tryz.ntmps105
  go_wp2
  go_loopw [3] (fun v3 wr => ∃ (i : Nat), v3 = .int .i64 (i : Int) ∧ 1 ≤ i ∧ i ≤ 11 ∧ Hid (∀ j, j < i → 0 < j → (Sp.callRows.getD j ([], [])).1 ≠ l) ∧ Below w.heap.size w wr) (fun v3 _ => 11 - (intOf v3).toNat)
  case atStart => exact ⟨1, rfl, by omega, by omega, Lib.hid (fun j h => by omega), Below.refl _ _⟩
  case round =>
    obtain ⟨i, rfl, hi0, hi, HN, HB⟩ := hrel
    by_cases hlt : i < 11
    · have hcell := col_cell gCNames (HE.out.below HB).cnames i (by have : Sp.cnamesR.length = 11 := rfl; omega)
      rw [show Sp.cnamesR.getD i [] = (Sp.callRows.getD i ([], [])).1 from row_get i hlt] at hcell
      obtain ⟨n, hn⟩ : ∃ n, n = (Sp.callRows.getD i ([], [])).1 := ⟨_, rfl⟩
      rw [← hn] at hcell
      have HX := Lib.hid hn
      have HL := Lib.hid hlt
      clear hn
      have T := str_eqb n l
      by_cases he : n = l
      · rw [decide_eq_true he] at T
        have HE2 := Lib.hid he
        clear he
        go_wp2
        go_ret
        exact ⟨ret_int (by rw [Sp.find_some HN.out HL.out hi0 (by rw [← HX.out, HE2.out])]), HB⟩
      · rw [decide_eq_false he] at T
        have HE2 := Lib.hid he
        clear he
        go_wp2
        go_roundw
        case rel => exact ⟨i + 1, by go_num, by omega, by omega, Lib.hid (fun j h h2 => by
          rcases Nat.lt_or_ge j i with h3 | h3
          · exact HN.out j h3 h2
          · obtain rfl : j = i := by omega
            rw [← HX.out]; exact HE2.out), HB⟩
        case measure => simp [intOf]; omega
    · go_wp2
      go_ret
      exact ⟨ret_int (by rw [Sp.find_none (fun j hj => HN.out j (by have : Sp.callRows.length = 11 := rfl; omega))]; rfl), HB⟩
theorem rform_len (op : Nat) (h : op < 11) : (Sp.cformsR.getD op []).length = (Sp.callRows.getD op ([], [])).2.length := by
  have : ∀ o, o < 11 → (Sp.cformsR.getD o []).length = (Sp.callRows.getD o ([], [])).2.length := by decide
  exact this op h
set_option maxHeartbeats 2000000 in
set_option maxRecDepth 100000 in
theorem rshape_any (A : Option Addr) (ws : List Sp.Bs) (cap : Nat) (w : World) (he : EnvR w) (hr : ReadS w A ws) (hl : ws.length ≤ 1099511627776) :
    Calls Tryz.prog 59 #[.slice A ws.length cap] w (BRet w (.int .i64 ((Sp.shaped ws).2 : Int))) := by
  cases ws with
  | nil =>
    go_enter Tryz.func59, Tryz.ntmps59
    go_wp2
    go_ret
    exact ⟨rfl, Below.refl _ _⟩
  | cons n r =>
    obtain ⟨ad, hA, hcell⟩ := hr.at_ 0 (by simp)
    subst hA
    simp only [List.length_cons] at hl ⊢
    obtain ⟨op, hop⟩ : ∃ op, op = Sp.findRow Sp.callRows n := ⟨_, rfl⟩
    have hcell0 : w.cell? ad = some (.string (str n)) := by have := hcell; rwa [Addr.add_zero'] at this
    clear hcell hr
    have HE := Lib.hid he
    have HS : Hid (∀ w, EnvR w → Calls Tryz.prog 105 #[.string (str n)] w (BRet w (.int .i64 (op : Int)))) := Lib.hid (fun w h => by rw [hop]; exact rcallOf_any n w h)
    clear he
    by_cases h0 : op = 0
    · have T : ((op : Int) == 0) = true := beq_iff_eq.2 (by omega)
      have HSH : Hid (Sp.shaped (n :: r) = (0, 212)) := Lib.hid (by simp only [Sp.shaped]; rw [← hop, if_pos h0])
      clear h0 hop
      go_enter Tryz.func59, Tryz.ntmps59
      go_wp2_with (go_at_call 105; refine (HS.out _ HE.out).mono ?_; rintro e w1 ⟨rfl, HB⟩)
      go_ret
      rw [HSH.out]
      exact ⟨rfl, HB⟩
    · have T : ((op : Int) == 0) = false := beq_eq_false_iff_ne.2 (by omega)
      have hlt := (Sp.find_lt (rows := Sp.callRows) (l := n) (by rw [← hop]; exact h0)).1
      rw [← hop] at hlt
      have hlt' : op < 11 := hlt
      obtain ⟨f, hf⟩ : ∃ f, f = Sp.cformsR.getD op [] := ⟨_, rfl⟩
      have hfe := rform_len op hlt'
      rw [← hf] at hfe
      have hfl : f.length ≤ 4 := by rw [hfe]; exact lenCall_le op
      have HSH : Hid (Sp.shaped (n :: r) = if r.length ≠ f.length then (0, 215) else (op, 0)) := Lib.hid (by simp only [Sp.shaped]; rw [← hop, if_neg h0, hfe])
      have HC : Hid (∀ w, EnvR w → w.cell? ⟨4, op, none⟩ = some (.string (str f))) := Lib.hid (fun w h => by rw [hf]; exact col_cell gCForms h.cforms op hlt)
      have hfs : (str f).size = f.length := str_size f
      clear h0 hop hlt hf hfe
      by_cases hq : r.length = f.length
      · have T2 : ((r.length : Int) != (f.length : Int)) = false := by rw [bne_eq_false_iff_eq]; omega
        have HQ := Lib.hid hq
        clear hq
        go_enter Tryz.func59, Tryz.ntmps59
        go_wp2_with (go_at_call 105; refine (HS.out _ HE.out).mono ?_; rintro e w1 ⟨rfl, HB⟩; have hcf := HC.out _ (HE.out.below HB))
        go_ret
        rw [HSH.out, if_neg (by simpa using HQ.out)]
        exact ⟨rfl, HB⟩
      · have T2 : ((r.length : Int) != (f.length : Int)) = true := by rw [bne_iff_ne]; omega
        have HQ := Lib.hid hq
        clear hq
        go_enter Tryz.func59, Tryz.ntmps59
        go_wp2_with (go_at_call 105; refine (HS.out _ HE.out).mono ?_; rintro e w1 ⟨rfl, HB⟩; have hcf := HC.out _ (HE.out.below HB))
        go_ret
        rw [HSH.out, if_pos HQ.out]
        exact ⟨rfl, HB⟩
end Go.Proofs.YthnhfddlmkhgkaaGreatDoor

set_option linter.unusedVariables false
namespace Go.Proofs.YthnhfddlmkhgkaaGreatDoor
open Go.RowKit Go.Proofs.YthnhfddlmkhgkaaGreatDoorW.PrintWords

theorem trim_blank {c : UInt8} {r : Sp.Bs} (h : Sp.isBlank c = true) : Sp.trim (c :: r) = Sp.trim r := by simp [Sp.trim, h]
theorem trim_stop {c : UInt8} {r : Sp.Bs} (h : Sp.isBlank c = false) : Sp.trim (c :: r) = c :: r := by simp [Sp.trim, h]
theorem blank_cases {c : UInt8} : Sp.isBlank c = (decide (c = 32) || decide (c = 9)) := by
  unfold Sp.isBlank
  rw [Bool.eq_iff_iff]; simp
/-- what the rest of a line says behind a word -/
theorem split_behind {L q r t wd : Sp.Bs} {c : UInt8} {o : List Sp.Bs} (HQ : Sp.split L = (Sp.split q).map (o ++ ·)) (ht : Sp.trim q = c :: r) (h35 : c ≠ 35) (hw : Sp.word c r = some (wd, t)) :
    (Sp.clean t = true → Sp.split L = (Sp.split t).map ((o ++ [wd]) ++ ·)) ∧ (Sp.clean t = false → Sp.split L = none) := by
  have h := Sp.split_cons ht
  rw [if_neg h35, hw] at h
  refine ⟨fun hc => ?_, fun hc => ?_⟩
  · rw [HQ, h]
    simp only [Option.bind_some]
    rw [if_pos hc, Option.map_map]
    simp [Function.comp_def]
  · rw [HQ, h]
    simp only [Option.bind_some]
    rw [if_neg (by rw [hc]; decide)]; rfl
theorem split_bad {L q r : Sp.Bs} {c : UInt8} {o : List Sp.Bs} (HQ : Sp.split L = (Sp.split q).map (o ++ ·)) (ht : Sp.trim q = c :: r) (h35 : c ≠ 35) (hw : Sp.word c r = none) : Sp.split L = none := by
  rw [HQ, Sp.split_cons ht, if_neg h35, hw]; rfl
set_option maxHeartbeats 4000000 in
set_option maxRecDepth 100000 in
theorem words_any (s : ByteArray) (w : World) (hs : s.size ≤ 1099511627776) : Calls Tryz.prog 40 #[.string s] w (SplitPost w (Sp.split (bl s))) := by
  obtain ⟨L, hL⟩ : ∃ L, L = bl s := ⟨_, rfl⟩
  rw [← hL]
  have HL := Lib.hid hL
  clear hL
  go_enter Tryz.func40, Tryz.ntmps40
  go_wp2
  go_loopw [4, 5] (fun v4 v5 wr => ∃ (i : Nat) (o : List Sp.Bs), v5 = .int .i64 (i : Int) ∧ i ≤ s.size ∧ o.length ≤ i ∧ RowS wr w.heap.size v4 o ∧ Hid (Sp.split L = (Sp.split (L.drop i)).map (o ++ ·)) ∧ Below w.heap.size w wr) (fun _ v5 _ => s.size - (intOf v5).toNat)
  case atStart => exact ⟨0, [], rfl, Nat.zero_le _, by simp, RowS.nil _ _, Lib.hid (by simp), Below.refl _ _⟩
  case round =>
    obtain ⟨i, o, rfl, hi, ho, HO, HQ, HB⟩ := hrel
    have HOB := Lib.hid (And.intro HO HB)
    clear HO HB
    go_wp2
    go_loopw [5] (fun v5 wq => ∃ (k : Nat), v5 = .int .i64 (k : Int) ∧ i ≤ k ∧ k ≤ s.size ∧ Hid (Sp.trim (L.drop i) = Sp.trim (L.drop k)) ∧ wq = wr) (fun v5 _ => s.size - (intOf v5).toNat)
    case atStart => exact ⟨i, rfl, Nat.le_refl _, hi, Lib.hid rfl, rfl⟩
    case round =>
      obtain ⟨k, rfl, hik, hk, HT, rfl⟩ := hrel
      by_cases hlt : k < s.size
      · have hdr : L.drop k = (s[k]'hlt) :: L.drop (k + 1) := by rw [HL.out]; exact bl_drop s k hlt
        obtain ⟨c, hc⟩ : ∃ c, c = s[k]'hlt := ⟨_, rfl⟩
        rw [← hc] at hdr
        obtain ⟨C, hC⟩ : ∃ C : Int, C = (c.toNat : Int) := ⟨_, rfl⟩
        have hx : ∀ h : k < s.size, ((s[k]'h).toNat : Int) = C := fun h => by rw [hC, hc]
        have hC0 : 0 ≤ C := by omega
        have hC1 : C ≤ 255 := by have := c.toNat_lt; omega
        have T32 : (C == 32) = decide (c = 32) := u8_eqb 32 hC rfl
        have T9 : (C == 9) = decide (c = 9) := u8_eqb 9 hC rfl
        have T35 : (C == 35) = decide (c = 35) := u8_eqb 35 hC rfl
        have T34 : (C == 34) = decide (c = 34) := u8_eqb 34 hC rfl
        have HD := Lib.hid hdr
        have HC := Lib.hid (And.intro hC hc)
        clear hdr hC hc
        by_cases e32 : c = 32
        · simp only [e32, decide_true] at T32
          have HN : Hid (Sp.trim (L.drop i) = Sp.trim (L.drop (k + 1))) := Lib.hid (by rw [HT.out, HD.out, trim_blank (by rw [e32]; rfl)])
          clear T9 T35 T34
          go_wp2
          go_roundw
          case rel => exact ⟨k + 1, by go_num, by omega, by omega, HN, trivial⟩
          case measure => simp [intOf]; omega
        simp only [e32, decide_false] at T32
        by_cases e9 : c = 9
        · simp only [e9, decide_true] at T9
          have HN : Hid (Sp.trim (L.drop i) = Sp.trim (L.drop (k + 1))) := Lib.hid (by rw [HT.out, HD.out, trim_blank (by rw [e9]; rfl)])
          clear T35 T34
          go_wp2
          go_roundw
          case rel => exact ⟨k + 1, by go_num, by omega, by omega, HN, trivial⟩
          case measure => simp [intOf]; omega
        simp only [e9, decide_false] at T9
        have hnb : Sp.isBlank c = false := by rw [blank_cases, decide_eq_false e32, decide_eq_false e9]; rfl
        have HTR : Hid (Sp.trim (L.drop i) = c :: L.drop (k + 1)) := Lib.hid (by rw [HT.out, HD.out, trim_stop hnb])
        clear HT hnb e32 e9
        by_cases e35 : c = 35
        · simp only [e35, decide_true] at T35
          have HF : Hid (Sp.split L = some o) := Lib.hid (by rw [HQ.out, Sp.split_cons HTR.out, if_pos e35]; simp)
          clear T34
          go_wp2
          go_ret2
          exact .inl ⟨_, o, HF.out, rfl, HOB.out.1, HOB.out.2⟩
        simp only [e35, decide_false] at T35
        have HE := Lib.hid e35
        clear e35
        by_cases e34 : c = 34
        · simp only [e34, decide_true] at T34
          have H82 := rquoted_any s k wr hs hlt
          rw [← HL.out] at H82
          cases hq : Sp.quoted (L.drop (k + 1)) with
          | none =>
            rw [hq] at H82
            have HF : Hid (Sp.split L = none) := Lib.hid (split_bad HQ.out HTR.out HE.out (by rw [Sp.word, if_pos e34, hq]))
            have HC82 : Hid (Calls Tryz.prog 82 #[.string s, .int .i64 (k : Int)] wr (BRet wr (.tuple #[.string ⟨#[]⟩, .int .i64 (-1)]))) := Lib.hid H82
            clear hq H82 e34
            go_wp2_with (go_at_call 82; refine HC82.out.mono ?_; rintro e w1 ⟨rfl, HB1⟩)
            go_ret2
            exact .inr ⟨HF.out, rfl, HOB.out.2.trans (HB1.mono HOB.out.2.size)⟩
          | some p =>
            obtain ⟨wd, t⟩ := p
            rw [hq] at H82
            have hql := Sp.quoted_len _ (L.drop (k + 1)) (Nat.le_refl _) wd t hq
            have hdl : (L.drop (k + 1)).length = s.size - (k + 1) := by rw [List.length_drop, HL.out, bl_len]
            rw [hdl] at hql
            obtain ⟨N, hN⟩ : ∃ N, N + t.length = s.size := ⟨s.size - t.length, by omega⟩
            have hkN : k < N := by omega
            have HDR : Hid (L.drop N = t) := Lib.hid (by
              have h := Sp.quoted_drop _ (L.drop (k + 1)) (Nat.le_refl _) wd t hq
              rw [List.drop_drop, hdl] at h
              rw [← h]
              congr 1
              omega)
            have HSB := Lib.hid (split_behind HQ.out HTR.out HE.out (t := t) (wd := wd) (by rw [Sp.word, if_pos e34, hq]))
            have HC82 : Hid (Calls Tryz.prog 82 #[.string s, .int .i64 (k : Int)] wr (BRet wr (.tuple #[.string (str wd), .int .i64 (N : Int)]))) := Lib.hid (by
              simp only [quotedR] at H82
              rwa [show (s.size : Int) - t.length = (N : Int) by omega] at H82)
            have hwl : o.length + 1 ≤ N := by omega
            clear hq H82 e34 hql hdl
            obtain ⟨S, hS⟩ : ∃ S, S = str wd := ⟨_, rfl⟩
            rw [← hS] at HC82
            have HWD := Lib.hid hS
            clear hS
            cases t with
            | nil =>
              have hN1 : s.size ≤ N := by simp at hN; omega
              go_wp2_with (first | (go_at_call 82; refine HC82.out.mono ?_; rintro e w1 ⟨rfl, HB1q⟩; have HB1 := Lib.hid (And.intro (HOB.out.2.trans (HB1q.mono HOB.out.2.size)) (Kd.R_below HOB.out.1 HB1q)); clear HB1q) | (at_builtin;  refine ap_s (W := w1) (base := w.heap.size) (w0 := w) (v := u4) (l := o) (c := wd) rfl rfl rfl rfl HWD.out HB1.out.2 HB1.out.1 HB1.out.1.size (by omega) ?_; intro v1 w5 HO3 HB3 j1 j2; clear j1 j2))
              go_roundw
              case rel => exact ⟨N, o ++ [wd], rfl, by omega, by simp; omega, HO3, Lib.hid (by rw [HSB.out.1 rfl, HDR.out]), HB3⟩
              case measure => simp [intOf]; omega
            | cons d t =>
              simp only [List.length_cons] at hN
              have hN1 : N < s.size := by omega
              obtain ⟨D, hD⟩ : ∃ D : Int, D = (d.toNat : Int) := ⟨_, rfl⟩
              have hy : ∀ h : N < s.size, ((s[N]'h).toNat : Int) = D := fun h => by
                have h2 := bl_drop s N h
                rw [← HL.out, HDR.out] at h2
                injection h2 with h2 _
                rw [hD, h2]
              have hD0 : 0 ≤ D := by omega
              have hD1 : D ≤ 255 := by have := d.toNat_lt; omega
              have HDD := Lib.hid (And.intro trivial hD)
              clear hD
              by_cases b32 : d = 32
              · have U32 : (D != 32) = false := (u8_neb 32 HDD.out.2 rfl : (D != 32) = !decide (d = 32)).trans (by rw [decide_eq_true b32]; rfl)
                have HCL : Hid (Sp.clean (d :: t) = true) := Lib.hid (by rw [show d :: t = d :: t from rfl]; show Sp.isBlank d = true; rw [b32]; rfl)
                clear b32
                go_wp2_with (first | (go_at_call 82; refine HC82.out.mono ?_; rintro e w1 ⟨rfl, HB1q⟩; have HB1 := Lib.hid (And.intro (HOB.out.2.trans (HB1q.mono HOB.out.2.size)) (Kd.R_below HOB.out.1 HB1q)); clear HB1q) | (at_builtin;  refine ap_s (W := w1) (base := w.heap.size) (w0 := w) (v := u4) (l := o) (c := wd) rfl rfl rfl rfl HWD.out HB1.out.2 HB1.out.1 HB1.out.1.size (by omega) ?_; intro v1 w5 HO3 HB3 j1 j2; clear j1 j2))
                go_roundw
                case rel => exact ⟨N, o ++ [wd], rfl, by omega, by simp; omega, HO3, Lib.hid (by rw [HSB.out.1 HCL.out, HDR.out]), HB3⟩
                case measure => simp [intOf]; omega
              have U32 : (D != 32) = true := (u8_neb 32 HDD.out.2 rfl : (D != 32) = !decide (d = 32)).trans (by rw [decide_eq_false b32]; rfl)
              by_cases b9 : d = 9
              · have U9 : (D != 9) = false := (u8_neb 9 HDD.out.2 rfl : (D != 9) = !decide (d = 9)).trans (by rw [decide_eq_true b9]; rfl)
                have HCL : Hid (Sp.clean (d :: t) = true) := Lib.hid (by rw [show d :: t = d :: t from rfl]; show Sp.isBlank d = true; rw [b9]; rfl)
                clear b9 b32
                go_wp2_with (first | (go_at_call 82; refine HC82.out.mono ?_; rintro e w1 ⟨rfl, HB1q⟩; have HB1 := Lib.hid (And.intro (HOB.out.2.trans (HB1q.mono HOB.out.2.size)) (Kd.R_below HOB.out.1 HB1q)); clear HB1q) | (at_builtin;  refine ap_s (W := w1) (base := w.heap.size) (w0 := w) (v := u4) (l := o) (c := wd) rfl rfl rfl rfl HWD.out HB1.out.2 HB1.out.1 HB1.out.1.size (by omega) ?_; intro v1 w5 HO3 HB3 j1 j2; clear j1 j2))
                go_roundw
                case rel => exact ⟨N, o ++ [wd], rfl, by omega, by simp; omega, HO3, Lib.hid (by rw [HSB.out.1 HCL.out, HDR.out]), HB3⟩
                case measure => simp [intOf]; omega
              have U9 : (D != 9) = true := (u8_neb 9 HDD.out.2 rfl : (D != 9) = !decide (d = 9)).trans (by rw [decide_eq_false b9]; rfl)
              have HF : Hid (Sp.split L = none) := Lib.hid (HSB.out.2 (by rw [show d :: t = d :: t from rfl]; show Sp.isBlank d = false; rw [blank_cases, decide_eq_false b32, decide_eq_false b9]; rfl))
              clear b32 b9
              go_wp2_with (first | (go_at_call 82; refine HC82.out.mono ?_; rintro e w1 ⟨rfl, HB1q⟩; have HB1 := Lib.hid (And.intro (HOB.out.2.trans (HB1q.mono HOB.out.2.size)) (Kd.R_below HOB.out.1 HB1q)); clear HB1q))
              go_ret2
              exact .inr ⟨HF.out, rfl, HB1.out.1⟩
        · simp only [e34, decide_false] at T34
          have H34 := Lib.hid e34
          clear e34
          have hkk : k ≤ s.size := hk
          have TD : decide (s.size ≤ k) = false := decide_eq_false (by omega)
          go_wp2
          try simp only [TD]
          go_loopw [7] (fun v7 wq => ∃ (j : Nat), v7 = .int .i64 (j : Int) ∧ k ≤ j ∧ j ≤ s.size ∧ Hid (∀ b ∈ (L.drop k).take (j - k), Sp.isBare b = true) ∧ wq = wr) (fun v7 _ => s.size - (intOf v7).toNat)
          case atStart => exact ⟨k, rfl, Nat.le_refl _, hkk, Lib.hid (by simp), rfl⟩
          case round =>
            obtain ⟨j, rfl, hkj, hj, HJ, rfl⟩ := hrel
            by_cases hjl : j < s.size
            · have hdj : L.drop j = (s[j]'hjl) :: L.drop (j + 1) := by rw [HL.out]; exact bl_drop s j hjl
              obtain ⟨d, hd⟩ : ∃ d, d = s[j]'hjl := ⟨_, rfl⟩
              rw [← hd] at hdj
              obtain ⟨D, hD⟩ : ∃ D : Int, D = (d.toNat : Int) := ⟨_, rfl⟩
              have hy : ∀ h : j < s.size, ((s[j]'h).toNat : Int) = D := fun h => by rw [hD, hd]
              have hD0 : 0 ≤ D := by omega
              have hD1 : D ≤ 255 := by have := d.toNat_lt; omega
              obtain ⟨b, hb⟩ : ∃ b, b = Sp.isBare d := ⟨_, rfl⟩
              have HC83 : Hid (Calls Tryz.prog 83 #[.int .u8 D] wr (SRet wr (.bool b))) := Lib.hid (by rw [hb]; exact rbare_any d D hD wr)
              have hrd : (L.drop k).drop (j - k) = d :: L.drop (j + 1) := by rw [List.drop_drop, ← hdj]; congr 1; omega
              have hcut : (L.drop k).take (j - k) ++ d :: L.drop (j + 1) = L.drop k := by rw [← hrd, List.take_append_drop]
              have hln : (L.drop k).length = s.size - k := by rw [List.length_drop, HL.out, bl_len]
              have hjk : ((L.drop k).take (j - k)).length = j - k := by rw [List.length_take, hln]; omega
              cases b with
              | true =>
                have HN : Hid (∀ x ∈ (L.drop k).take (j + 1 - k), Sp.isBare x = true) := Lib.hid (fun x hx => by
                  rw [show j + 1 - k = (j - k) + 1 by omega, ← hcut] at hx
                  rw [List.take_append, hjk, show j - k + 1 - (j - k) = 1 by omega, List.take_of_length_le (by omega)] at hx
                  rcases List.mem_append.1 hx with h | h
                  · exact HJ.out x h
                  · have h2 : x = d := by simpa using h
                    rw [h2, ← hb])
                clear hdj hd hD hb hrd hcut hln hjk
                go_wp2_with (go_at_call 83; refine HC83.out.mono ?_; rintro e w1 ⟨rfl, rfl⟩)
                go_roundw
                case rel => exact ⟨j + 1, by go_num, by omega, by omega, HN, trivial⟩
                case measure => simp [intOf]; omega
              | false =>
                have hrun : Sp.run (L.drop k) = j - k := by
                  rw [← hcut, Sp.run_stop HJ.out hb.symm, hjk]
                by_cases hjk0 : j = k
                · have HF : Hid (Sp.split L = none) := Lib.hid (split_bad HQ.out HTR.out HE.out (by rw [Sp.word, if_neg H34.out, ← HD.out, if_pos (by rw [hrun]; omega)]))
                  have TJ : ((j : Int) == (k : Int)) = true := beq_iff_eq.2 (by omega)
                  clear hdj hd hD hb hrd hcut hln hjk hrun hjk0
                  go_wp2_with (go_at_call 83; refine HC83.out.mono ?_; rintro e w1 ⟨rfl, rfl⟩)
                  go_ret2
                  exact .inr ⟨HF.out, rfl, HOB.out.2⟩
                · have TJ : ((j : Int) == (k : Int)) = false := beq_eq_false_iff_ne.2 (by omega)
                  obtain ⟨wd, hwd⟩ : ∃ wd, wd = (L.drop k).take (j - k) := ⟨_, rfl⟩
                  have HSB := Lib.hid (split_behind HQ.out HTR.out HE.out (t := L.drop j) (wd := wd) (by rw [Sp.word, if_neg H34.out, ← HD.out, hrun, if_neg (by omega), hwd, List.drop_drop, show k + (j - k) = j by omega]))
                  obtain ⟨N, rfl⟩ : ∃ N, N = j := ⟨_, rfl⟩
                  obtain ⟨S, hS⟩ : ∃ S, S = s.extract k N := ⟨_, rfl⟩
                  have HWD : Hid (S = str wd) := Lib.hid (by rw [hS, Lib.extract_eq, hwd, HL.out]; rfl)
                  have HSE := Lib.hid hS
                  have hwl : o.length + 1 ≤ N := by omega
                  have hN1 : N < s.size := hjl
                  have HB1 := Lib.hid (And.intro HOB.out.2 HOB.out.1)
                  have HDD := Lib.hid (And.intro hdj hD)
                  clear hdj hd hD hb hrd hcut hln hjk hrun hwd hS
                  by_cases b32 : d = 32
                  · have U32 : (D != 32) = false := (u8_neb 32 HDD.out.2 rfl : (D != 32) = !decide (d = 32)).trans (by rw [decide_eq_true b32]; rfl)
                    have HCL : Hid (Sp.clean (L.drop N) = true) := Lib.hid (by rw [HDD.out.1]; show Sp.isBlank d = true; rw [b32]; rfl)
                    clear b32
                    go_wp2_with (first | (go_at_call 83; refine HC83.out.mono ?_; rintro e w1 ⟨rfl, rfl⟩) | (at_builtin; rw [← HSE.out]; refine ap_s (W := wr) (base := w.heap.size) (w0 := w) (v := u4) (l := o) (c := wd) rfl rfl rfl rfl HWD.out HB1.out.2 HB1.out.1 HB1.out.1.size (by omega) ?_; intro v1 w5 HO3 HB3 j1 j2; clear j1 j2))
                    go_roundw
                    case rel => exact ⟨N, o ++ [wd], rfl, by omega, by simp; omega, HO3, Lib.hid (by rw [HSB.out.1 HCL.out]), HB3⟩
                    case measure => simp [intOf]; omega
                  have U32 : (D != 32) = true := (u8_neb 32 HDD.out.2 rfl : (D != 32) = !decide (d = 32)).trans (by rw [decide_eq_false b32]; rfl)
                  by_cases b9 : d = 9
                  · have U9 : (D != 9) = false := (u8_neb 9 HDD.out.2 rfl : (D != 9) = !decide (d = 9)).trans (by rw [decide_eq_true b9]; rfl)
                    have HCL : Hid (Sp.clean (L.drop N) = true) := Lib.hid (by rw [HDD.out.1]; show Sp.isBlank d = true; rw [b9]; rfl)
                    clear b9 b32
                    go_wp2_with (first | (go_at_call 83; refine HC83.out.mono ?_; rintro e w1 ⟨rfl, rfl⟩) | (at_builtin; rw [← HSE.out]; refine ap_s (W := wr) (base := w.heap.size) (w0 := w) (v := u4) (l := o) (c := wd) rfl rfl rfl rfl HWD.out HB1.out.2 HB1.out.1 HB1.out.1.size (by omega) ?_; intro v1 w5 HO3 HB3 j1 j2; clear j1 j2))
                    go_roundw
                    case rel => exact ⟨N, o ++ [wd], rfl, by omega, by simp; omega, HO3, Lib.hid (by rw [HSB.out.1 HCL.out]), HB3⟩
                    case measure => simp [intOf]; omega
                  have U9 : (D != 9) = true := (u8_neb 9 HDD.out.2 rfl : (D != 9) = !decide (d = 9)).trans (by rw [decide_eq_false b9]; rfl)
                  have HF : Hid (Sp.split L = none) := Lib.hid (HSB.out.2 (by rw [HDD.out.1]; show Sp.isBlank d = false; rw [blank_cases, decide_eq_false b32, decide_eq_false b9]; rfl))
                  clear b32 b9
                  go_wp2_with (first | (go_at_call 83; refine HC83.out.mono ?_; rintro e w1 ⟨rfl, rfl⟩))
                  go_ret2
                  exact .inr ⟨HF.out, rfl, HB1.out.1⟩
            · have hjs : j = s.size := by omega
              have hln : (L.drop k).length = s.size - k := by rw [List.length_drop, HL.out, bl_len]
              have htk : (L.drop k).take (j - k) = L.drop k := List.take_of_length_le (by omega)
              have hrun : Sp.run (L.drop k) = j - k := by
                have h := HJ.out
                rw [htk] at h
                rw [Sp.run_all h, hln]; omega
              have TJ : ((j : Int) == (k : Int)) = false := beq_eq_false_iff_ne.2 (by omega)
              obtain ⟨wd, hwd⟩ : ∃ wd, wd = (L.drop k).take (j - k) := ⟨_, rfl⟩
              have hdn : L.drop j = [] := List.drop_eq_nil_of_le (by rw [HL.out, bl_len]; omega)
              have HSB := Lib.hid (split_behind HQ.out HTR.out HE.out (t := []) (wd := wd) (by rw [Sp.word, if_neg H34.out, ← HD.out, hrun, if_neg (by omega), hwd, List.drop_drop, show k + (j - k) = j by omega, hdn]))
              obtain ⟨N, rfl⟩ : ∃ N, N = j := ⟨_, rfl⟩
              obtain ⟨S, hS⟩ : ∃ S, S = s.extract k N := ⟨_, rfl⟩
              have HWD : Hid (S = str wd) := Lib.hid (by rw [hS, Lib.extract_eq, hwd, HL.out]; rfl)
              have HSE := Lib.hid hS
              have hwl : o.length + 1 ≤ N := by omega
              have HB1 := Lib.hid (And.intro HOB.out.2 HOB.out.1)
              have HDN := Lib.hid hdn
              clear hln htk hrun hwd hS hjs hdn
              go_wp2_with (first | (at_builtin; rw [← HSE.out]; refine ap_s (W := wr) (base := w.heap.size) (w0 := w) (v := u4) (l := o) (c := wd) rfl rfl rfl rfl HWD.out HB1.out.2 HB1.out.1 HB1.out.1.size (by omega) ?_; intro v1 w5 HO3 HB3 j1 j2; clear j1 j2))
              go_roundw
              case rel => exact ⟨N, o ++ [wd], rfl, by omega, by simp; omega, HO3, Lib.hid (by rw [HSB.out.1 rfl, HDN.out]), HB3⟩
              case measure => simp [intOf]; omega
      · have hdn : L.drop k = [] := List.drop_eq_nil_of_le (by rw [HL.out, bl_len]; omega)
        have HF : Hid (Sp.split L = some o) := Lib.hid (by rw [HQ.out, Sp.split_nil (by rw [HT.out, hdn]; rfl)]; simp)
        clear hdn
        go_wp2
        go_ret2
        exact .inl ⟨_, o, HF.out, rfl, HOB.out.1, HOB.out.2⟩
end Go.Proofs.YthnhfddlmkhgkaaGreatDoor

set_option linter.unusedVariables false
namespace Go.Proofs.YthnhfddlmkhgkaaGreatDoor
open Go.RowKit Go.Proofs.YthnhfddlmkhgkaaGreatDoorW.PrintWords

theorem call_letters (op : Nat) (h : op < 11) (l : UInt8) (hl : l ∈ (Sp.callRows.getD op ([], [])).2) : l = 112 ∨ l = 110 ∨ l = 50 ∨ l = 100 ∨ l = 104 ∨ l = 105 ∨ l = 111 ∨ l = 108 := by
  have key : ∀ o, o < 11 → ∀ l ∈ (Sp.callRows.getD o ([], [])).2, l = 112 ∨ l = 110 ∨ l = 50 ∨ l = 100 ∨ l = 104 ∨ l = 105 ∨ l = 111 ∨ l = 108 := by decide
  exact key op h l hl
theorem cform_tr (op : Nat) (h : op < 11) : Sp.cformsR.getD op [] = (Sp.callRows.getD op ([], [])).2.map Sp.trC := by
  have key : ∀ o, o < 11 → Sp.cformsR.getD o [] = (Sp.callRows.getD o ([], [])).2.map Sp.trC := by decide
  exact key op h
/-- a text's cell of a call -/
theorem CallAt.txt {w : World} {base g : Nat} {c : Sp.Call} (h : CallAt w base g c) : w.cell? ⟨g, 5, none⟩ = some (.string (str c.path)) ∧ w.cell? ⟨g, 6, none⟩ = some (.string (str c.name)) ∧ w.cell? ⟨g, 7, none⟩ = some (.string (str c.name2)) ∧ w.frozen? ⟨g, 5, none⟩ = false ∧ w.frozen? ⟨g, 6, none⟩ = false ∧ w.frozen? ⟨g, 7, none⟩ = false := by
  obtain ⟨v, h1, h2, h3⟩ := h
  refine ⟨?_, ?_, ?_, row_frozen h1 _, row_frozen h1 _, row_frozen h1 _⟩
  all_goals (rw [cell_of_row _ _ _ _ _ _ h1]; rfl)
def RCallPost (w : World) (r : Sp.Call × Bool) (e : Ending) (w' : World) : Prop :=
  ∃ v, e = .returned (.tuple #[.agg (callCells r.1 v).toArray, .bool r.2]) ∧ OU w' w.heap.size v r.1.data ∧ Below w.heap.size w w'
set_option maxHeartbeats 4000000 in
set_option maxRecDepth 100000 in
theorem rcall_any (op : Nat) (A : Option Addr) (ws : List Sp.Bs) (cap : Nat) (w : World) (he : EnvR w) (hr : ReadS w A ws) (n0 : Sp.Bs) (r0 : List Sp.Bs) (hw0 : ws = n0 :: r0) (hop : Sp.findRow Sp.callRows n0 = op) (h0 : 0 < op) (h11 : op < 11) (hl : lenCall op < ws.length) (hws : ∀ x ∈ ws, x.length ≤ 1099511627776) :
    Calls Tryz.prog 60 #[.slice A ws.length cap] w (RCallPost w (Sp.callR op ws)) := by
  obtain ⟨f, hf⟩ : ∃ f, f = (Sp.callRows.getD op ([], [])).2 := ⟨_, rfl⟩
  have hfl : f.length ≤ 4 := by rw [hf]; exact lenCall_le op
  have hfw : f.length < ws.length := by rw [hf]; exact hl
  have HLE : Hid (∀ l ∈ f, l = 112 ∨ l = 110 ∨ l = 50 ∨ l = 100 ∨ l = 104 ∨ l = 105 ∨ l = 111 ∨ l = 108) := Lib.hid (by rw [hf]; exact call_letters op h11)
  obtain ⟨f2, hf2⟩ : ∃ f2, f2 = f.map Sp.trC := ⟨_, rfl⟩
  have hfs : (str f2).size = f.length := by rw [str_size, hf2, List.length_map]
  have HCF : Hid (∀ w, EnvR w → w.cell? ⟨4, op, none⟩ = some (.string (str f2))) := Lib.hid (fun w h => by rw [hf2, hf, ← cform_tr op h11]; exact col_cell gCForms h.cforms op h11)
  have HF2 := Lib.hid hf2
  have h4 : 4 < w.heap.size := var_lt gCForms he.cforms
  obtain ⟨ad0, hA0, hcell0⟩ := hr.at_ 0 (by omega)
  have hcell00 : w.cell? ad0 = some (.string (str n0)) := by
    have h := hcell0
    rw [Addr.add_zero'] at h
    rw [h]
    simp [hw0]
  have HC105 : Hid (∀ w, EnvR w → Calls Tryz.prog 105 #[.string (str n0)] w (BRet w (.int .i64 (op : Int)))) := Lib.hid (fun w h => by rw [← hop]; exact rcallOf_any n0 w h)
  have HE := Lib.hid he
  have HR := Lib.hid hr
  have HW := Lib.hid hws
  obtain ⟨R, hR⟩ : ∃ R, R = Sp.callR op ws := ⟨_, rfl⟩
  rw [← hR]
  have HSP : Hid (R = Sp.fillR f (ws.drop 1) { op := op } true) := Lib.hid (by rw [hR, hf]; rfl)
  have hcellA : (w.alloc (Obj.cells #[Value.int IntKind.i64 0, Value.int IntKind.i64 0, Value.int IntKind.i64 0, Value.int IntKind.i64 0, Value.int IntKind.i64 0, Value.string { data := #[] }, Value.string { data := #[] }, Value.string { data := #[] }, Value.slice none 0 0] 51)).cell? ad0 = some (.string (str n0)) := below_read ((Below.refl _ _).alloc (Nat.le_refl _) _) hcell00
  subst hA0
  clear hf hf2 he hr hl hws hR hop hw0 hcell0 hcell00
  have hbA : Below w.heap.size w (w.alloc (Obj.cells #[Value.int IntKind.i64 0, Value.int IntKind.i64 0, Value.int IntKind.i64 0, Value.int IntKind.i64 0, Value.int IntKind.i64 0, Value.string { data := #[] }, Value.string { data := #[] }, Value.string { data := #[] }, Value.slice none 0 0] 51)) := (Below.refl _ _).alloc (Nat.le_refl _) _
  have hzA : ZeroAt (w.alloc (Obj.cells #[Value.int IntKind.i64 0, Value.int IntKind.i64 0, Value.int IntKind.i64 0, Value.int IntKind.i64 0, Value.int IntKind.i64 0, Value.string { data := #[] }, Value.string { data := #[] }, Value.string { data := #[] }, Value.slice none 0 0] 51)) w.heap.size := heap_alloc_new _ _
  go_enter Tryz.func60, Tryz.ntmps60
  go_wp2_with (go_at_call 105; refine (HC105.out _ (HE.out.below hbA)).mono ?_; rintro e w1 ⟨rfl, HB1⟩)
  have hz1 := hzA.below HB1
  have hB1 := hbA.trans (HB1.mono hbA.size)
  have hz1lt := row_lt hz1
  clear HB1 hbA hzA hcellA
  generalize hW : w1.alloc _ = W
  have hrow : W.heap[w1.heap.size]? = some (.cells (callCells { op := op } (.slice none 0 0)).toArray 51 (0, 0)) := by
    rw [← hW]
    exact heap_alloc_new _ _
  have hBW : Below w1.heap.size w1 W := by rw [← hW]; exact (Below.refl _ _).alloc (Nat.le_refl _) _
  have hz2 := hz1.below hBW
  have hB2 := hB1.trans (hBW.mono hB1.size)
  generalize w1.heap.size = G at hrow hz1lt ⊢
  have hC0 : CallAt W w.heap.size G { op := op } := ⟨_, hrow, ORow.nil _ _ _, fun k hk => by cases hk⟩
  have HI := Lib.hid (And.intro hC0 (And.intro hz2 hB2))
  clear hW hrow hBW hz1 hz2 hB1 hB2 hC0
  go_loopw [6, 7] (fun v6 v7 wr => ∃ (i : Nat) (c : Sp.Call) (g : Bool), v6 = .bool g ∧ v7 = .int .i64 (i : Int) ∧ i ≤ f.length ∧ CallAt wr w.heap.size G c ∧ ZeroAt wr w.heap.size ∧ Hid (R = Sp.fillR (f.drop i) (ws.drop (1 + i)) c g) ∧ Below w.heap.size w wr) (fun _ v7 _ => f.length - (intOf v7).toNat)
  case atStart => exact ⟨0, _, true, rfl, rfl, Nat.zero_le _, HI.out.1, HI.out.2.1, Lib.hid HSP.out, HI.out.2.2⟩
  case round =>
    obtain ⟨i, c, g, rfl, rfl, hi, HCA, HG, HQ, HB⟩ := hrel
    clear HI HSP
    have hcf := HCF.out wr (HE.out.below HB)
    by_cases hlt : i < f.length
    · obtain ⟨ad, hA, hcell⟩ := (HR.out.below HB).at_ (i + 1) (by omega)
      injection hA with hA
      subst hA
      obtain ⟨x, hxw⟩ : ∃ x, x = ws[i + 1]'(by omega) := ⟨_, rfl⟩
      rw [← hxw, Addr.add, if_neg (by omega)] at hcell
      obtain ⟨l, hl⟩ : ∃ l, l = f[i]'hlt := ⟨_, rfl⟩
      have HX := Lib.hid (HW.out x (by rw [hxw]; exact List.getElem_mem _))
      have HC84 : Hid (∀ w, Calls Tryz.prog 84 #[.string (str x)] w (BRet w (.int .i64 (Sp.numR x)))) := Lib.hid (fun w => rnumber_any x w HX.out)
      have HQ2 : Hid (R = Sp.fillR (l :: f.drop (i + 1)) (x :: ws.drop (1 + (i + 1))) c g) := Lib.hid (by
        rw [HQ.out, List.drop_eq_getElem_cons hlt, ← hl, Nat.add_comm 1 i, List.drop_eq_getElem_cons (show i + 1 < ws.length by omega), ← hxw, show i + 1 + 1 = 1 + (i + 1) by omega])
      obtain ⟨L, hL⟩ : ∃ L : Int, L = ((Sp.trC l).toNat : Int) := ⟨_, rfl⟩
      have hx : ∀ h : i < (str f2).size, (((str f2)[i]'h).toNat : Int) = L := fun h => by
        rw [hL, hl]
        have h2 : i < f2.length := by rw [HF2.out, List.length_map]; exact hlt
        show ((f2[i]'h2).toNat : Int) = _
        simp only [HF2.out, List.getElem_map]
      have hmem := HLE.out l (by rw [hl]; exact List.getElem_mem _)
      clear hl hxw HQ
      rcases hmem with rfl | rfl | rfl | rfl | rfl | rfl | rfl | rfl
      · have hL2 : L = 112 := hL
        clear hL
        subst hL2
        have HQ3 : Hid (R = Sp.fillR (f.drop (i + 1)) (ws.drop (1 + (i + 1))) { c with path := x } g) := Lib.hid HQ2.out
        clear HQ2
        go_wp2_with (first | (go_at_call 84; refine (HC84.out _).mono ?_; rintro e w2 ⟨rfl, HB2⟩; have HC2 := HCA.below HB2; have HB3 := Lib.hid (HB.trans (HB2.mono HB.size)); have hcf2 := HCF.out _ (HE.out.below HB3.out); obtain ⟨f5, f6, f7, r5, r6, r7⟩ := HC2.txt))
        go_roundw
        case rel => exact ⟨i + 1, { c with path := x }, g, rfl, by go_num, by omega, HC2.set rfl (fun _ => rfl), (HG.below HB2).far (by simp only; omega) _, HQ3, HB3.out.setCell (by simp only; omega) _⟩
        case measure => simp [intOf]; omega
      · have hL2 : L = 110 := hL
        clear hL
        subst hL2
        have HQ3 : Hid (R = Sp.fillR (f.drop (i + 1)) (ws.drop (1 + (i + 1))) { c with name := x } g) := Lib.hid HQ2.out
        clear HQ2
        go_wp2_with (first | (go_at_call 84; refine (HC84.out _).mono ?_; rintro e w2 ⟨rfl, HB2⟩; have HC2 := HCA.below HB2; have HB3 := Lib.hid (HB.trans (HB2.mono HB.size)); have hcf2 := HCF.out _ (HE.out.below HB3.out); obtain ⟨f5, f6, f7, r5, r6, r7⟩ := HC2.txt))
        go_roundw
        case rel => exact ⟨i + 1, { c with name := x }, g, rfl, by go_num, by omega, HC2.set rfl (fun _ => rfl), (HG.below HB2).far (by simp only; omega) _, HQ3, HB3.out.setCell (by simp only; omega) _⟩
        case measure => simp [intOf]; omega
      · have hL2 : L = 109 := hL
        clear hL
        subst hL2
        have HQ3 : Hid (R = Sp.fillR (f.drop (i + 1)) (ws.drop (1 + (i + 1))) { c with name2 := x } g) := Lib.hid HQ2.out
        clear HQ2
        go_wp2_with (first | (go_at_call 84; refine (HC84.out _).mono ?_; rintro e w2 ⟨rfl, HB2⟩; have HC2 := HCA.below HB2; have HB3 := Lib.hid (HB.trans (HB2.mono HB.size)); have hcf2 := HCF.out _ (HE.out.below HB3.out); obtain ⟨f5, f6, f7, r5, r6, r7⟩ := HC2.txt))
        go_roundw
        case rel => exact ⟨i + 1, { c with name2 := x }, g, rfl, by go_num, by omega, HC2.set rfl (fun _ => rfl), (HG.below HB2).far (by simp only; omega) _, HQ3, HB3.out.setCell (by simp only; omega) _⟩
        case measure => simp [intOf]; omega
      · have hL2 : L = 100 := hL
        clear hL
        subst hL2
        have HQ3 : Hid (R = Sp.fillR (f.drop (i + 1)) (ws.drop (1 + (i + 1))) { c with data := x } g) := Lib.hid HQ2.out
        clear HQ2
        have hxs : (str x).size = x.length := str_size x
        have HCV : Hid (∀ w2 : World, (convert 9 45 (.string (str x))).run Tryz.prog w2 = .ok (.slice (some ⟨w2.heap.size, 0, none⟩) x.length (grownCap w2 (str x).size 0 5)) (Lib.bytesWorld w2 5 (str x))) := Lib.hid (fun w2 => by
          have := Lib.run_convert_string_bytes (P := Tryz.prog) w2 9 45 5 (str x) Tryz.underlying9 Tryz.underlying45 Tryz.underlying5
          rw [this, str_size])
        go_wp2_with (first | (go_at_call 84; refine (HC84.out _).mono ?_; rintro e w2 ⟨rfl, HB2⟩; have HC2 := HCA.below HB2; have HB3 := Lib.hid (HB.trans (HB2.mono HB.size)); have hcf2 := HCF.out _ (HE.out.below HB3.out); have HG2 := HG.below HB2; have hcv := HCV.out w2; have hou := OU.conv w2 x HX.out (base := w.heap.size) HB3.out.size; have hbel : Below w2.heap.size w2 (Lib.bytesWorld w2 5 (str x)) := Lib.bytesWorld_below w2 5 (str x); (obtain ⟨W2, hW2⟩ : ∃ W2, W2 = Lib.bytesWorld w2 5 (str x) := ⟨_, rfl⟩); (obtain ⟨cp, hcp⟩ : ∃ cp, cp = grownCap w2 (str x).size 0 5 := ⟨_, rfl⟩); rw [← hW2] at hcv hou hbel; rw [← hcp] at hcv hou; clear hW2 hcp; have HC4 := HC2.below hbel; (obtain ⟨v8, q8, p8, o8⟩ := HC4); (have f8 : W2.cell? ⟨G, 8, none⟩ = some v8 := by rw [cell_of_row _ _ _ _ _ _ q8]; rfl); have r8 := row_frozen q8 8; have HK := Lib.hid (And.intro q8 (And.intro hou (And.intro hbel (row_lt (HC2.choose_spec.1))))); clear q8 p8 o8 hou hbel HC2))
        go_roundw
        case rel =>
          obtain ⟨q1, q2, q3, q4⟩ := HK.out
          refine ⟨i + 1, { c with data := x }, g, rfl, by go_num, by omega, ⟨_, (row_set q1 _).trans rfl, q2.far (p := ⟨G, 8, none⟩) (fun k hk => ?_) _, fun k hk => ?_⟩, ((HG2.below q3).far (by simp only; omega) _), HQ3, (HB3.out.trans (q3.mono HB3.out.size)).setCell (by simp only; omega) _⟩
          all_goals
            have : w2.heap.size = k := by simpa [Value.ownBlock] using hk
            first | omega | (simp only; omega)
        case measure => simp [intOf]; omega
      · have hL2 : L = 104 := hL
        clear hL
        subst hL2
        have HQ3 : Hid (R = Sp.fillR (f.drop (i + 1)) (ws.drop (1 + (i + 1))) (c.setN 1 (Sp.numR x)) (g && decide (0 ≤ Sp.numR x))) := Lib.hid HQ2.out
        clear HQ2
        obtain ⟨n, hn⟩ : ∃ n, n = Sp.numR x := ⟨_, rfl⟩
        rw [← hn] at HQ3 HC84
        clear hn
        cases g with
        | true =>
          go_wp2_with (first | (go_at_call 84; refine (HC84.out _).mono ?_; rintro e w2 ⟨rfl, HB2⟩; have HC2 := HCA.below HB2; have HB3 := Lib.hid (HB.trans (HB2.mono HB.size)); have hcf2 := HCF.out _ (HE.out.below HB3.out); obtain ⟨hcc, hcfz⟩ := HC2.num 1 (by omega) (by omega)))
          go_roundw
          case rel => exact ⟨i + 1, c.setN 1 n, decide (0 ≤ n), rfl, by go_num, by omega, HC2.putN 1 n (by omega) (by omega), (HG.below HB2).far (by simp only; omega) _, Lib.hid (by rw [HQ3.out, Bool.true_and]), HB3.out.setCell (by simp only; omega) _⟩
          case measure => simp [intOf]; omega
        | false =>
          go_wp2_with (first | (go_at_call 84; refine (HC84.out _).mono ?_; rintro e w2 ⟨rfl, HB2⟩; have HC2 := HCA.below HB2; have HB3 := Lib.hid (HB.trans (HB2.mono HB.size)); have hcf2 := HCF.out _ (HE.out.below HB3.out); obtain ⟨hcc, hcfz⟩ := HC2.num 1 (by omega) (by omega)))
          go_roundw
          case rel => exact ⟨i + 1, c.setN 1 n, false, rfl, by go_num, by omega, HC2.putN 1 n (by omega) (by omega), (HG.below HB2).far (by simp only; omega) _, Lib.hid (by rw [HQ3.out, Bool.false_and]), HB3.out.setCell (by simp only; omega) _⟩
          case measure => simp [intOf]; omega
      · have hL2 : L = 103 := hL
        clear hL
        subst hL2
        have HQ3 : Hid (R = Sp.fillR (f.drop (i + 1)) (ws.drop (1 + (i + 1))) (c.setN 2 (Sp.numR x)) (g && decide (0 ≤ Sp.numR x))) := Lib.hid HQ2.out
        clear HQ2
        obtain ⟨n, hn⟩ : ∃ n, n = Sp.numR x := ⟨_, rfl⟩
        rw [← hn] at HQ3 HC84
        clear hn
        cases g with
        | true =>
          go_wp2_with (first | (go_at_call 84; refine (HC84.out _).mono ?_; rintro e w2 ⟨rfl, HB2⟩; have HC2 := HCA.below HB2; have HB3 := Lib.hid (HB.trans (HB2.mono HB.size)); have hcf2 := HCF.out _ (HE.out.below HB3.out); obtain ⟨hcc, hcfz⟩ := HC2.num 2 (by omega) (by omega)))
          go_roundw
          case rel => exact ⟨i + 1, c.setN 2 n, decide (0 ≤ n), rfl, by go_num, by omega, HC2.putN 2 n (by omega) (by omega), (HG.below HB2).far (by simp only; omega) _, Lib.hid (by rw [HQ3.out, Bool.true_and]), HB3.out.setCell (by simp only; omega) _⟩
          case measure => simp [intOf]; omega
        | false =>
          go_wp2_with (first | (go_at_call 84; refine (HC84.out _).mono ?_; rintro e w2 ⟨rfl, HB2⟩; have HC2 := HCA.below HB2; have HB3 := Lib.hid (HB.trans (HB2.mono HB.size)); have hcf2 := HCF.out _ (HE.out.below HB3.out); obtain ⟨hcc, hcfz⟩ := HC2.num 2 (by omega) (by omega)))
          go_roundw
          case rel => exact ⟨i + 1, c.setN 2 n, false, rfl, by go_num, by omega, HC2.putN 2 n (by omega) (by omega), (HG.below HB2).far (by simp only; omega) _, Lib.hid (by rw [HQ3.out, Bool.false_and]), HB3.out.setCell (by simp only; omega) _⟩
          case measure => simp [intOf]; omega
      · have hL2 : L = 111 := hL
        clear hL
        subst hL2
        have HQ3 : Hid (R = Sp.fillR (f.drop (i + 1)) (ws.drop (1 + (i + 1))) (c.setN 3 (Sp.numR x)) (g && decide (0 ≤ Sp.numR x))) := Lib.hid HQ2.out
        clear HQ2
        obtain ⟨n, hn⟩ : ∃ n, n = Sp.numR x := ⟨_, rfl⟩
        rw [← hn] at HQ3 HC84
        clear hn
        cases g with
        | true =>
          go_wp2_with (first | (go_at_call 84; refine (HC84.out _).mono ?_; rintro e w2 ⟨rfl, HB2⟩; have HC2 := HCA.below HB2; have HB3 := Lib.hid (HB.trans (HB2.mono HB.size)); have hcf2 := HCF.out _ (HE.out.below HB3.out); obtain ⟨hcc, hcfz⟩ := HC2.num 3 (by omega) (by omega)))
          go_roundw
          case rel => exact ⟨i + 1, c.setN 3 n, decide (0 ≤ n), rfl, by go_num, by omega, HC2.putN 3 n (by omega) (by omega), (HG.below HB2).far (by simp only; omega) _, Lib.hid (by rw [HQ3.out, Bool.true_and]), HB3.out.setCell (by simp only; omega) _⟩
          case measure => simp [intOf]; omega
        | false =>
          go_wp2_with (first | (go_at_call 84; refine (HC84.out _).mono ?_; rintro e w2 ⟨rfl, HB2⟩; have HC2 := HCA.below HB2; have HB3 := Lib.hid (HB.trans (HB2.mono HB.size)); have hcf2 := HCF.out _ (HE.out.below HB3.out); obtain ⟨hcc, hcfz⟩ := HC2.num 3 (by omega) (by omega)))
          go_roundw
          case rel => exact ⟨i + 1, c.setN 3 n, false, rfl, by go_num, by omega, HC2.putN 3 n (by omega) (by omega), (HG.below HB2).far (by simp only; omega) _, Lib.hid (by rw [HQ3.out, Bool.false_and]), HB3.out.setCell (by simp only; omega) _⟩
          case measure => simp [intOf]; omega
      · have hL2 : L = 108 := hL
        clear hL
        subst hL2
        have HQ3 : Hid (R = Sp.fillR (f.drop (i + 1)) (ws.drop (1 + (i + 1))) (c.setN 4 (Sp.numR x)) (g && decide (0 ≤ Sp.numR x))) := Lib.hid HQ2.out
        clear HQ2
        obtain ⟨n, hn⟩ : ∃ n, n = Sp.numR x := ⟨_, rfl⟩
        rw [← hn] at HQ3 HC84
        clear hn
        cases g with
        | true =>
          go_wp2_with (first | (go_at_call 84; refine (HC84.out _).mono ?_; rintro e w2 ⟨rfl, HB2⟩; have HC2 := HCA.below HB2; have HB3 := Lib.hid (HB.trans (HB2.mono HB.size)); have hcf2 := HCF.out _ (HE.out.below HB3.out); obtain ⟨hcc, hcfz⟩ := HC2.num 4 (by omega) (by omega)))
          go_roundw
          case rel => exact ⟨i + 1, c.setN 4 n, decide (0 ≤ n), rfl, by go_num, by omega, HC2.putN 4 n (by omega) (by omega), (HG.below HB2).far (by simp only; omega) _, Lib.hid (by rw [HQ3.out, Bool.true_and]), HB3.out.setCell (by simp only; omega) _⟩
          case measure => simp [intOf]; omega
        | false =>
          go_wp2_with (first | (go_at_call 84; refine (HC84.out _).mono ?_; rintro e w2 ⟨rfl, HB2⟩; have HC2 := HCA.below HB2; have HB3 := Lib.hid (HB.trans (HB2.mono HB.size)); have hcf2 := HCF.out _ (HE.out.below HB3.out); obtain ⟨hcc, hcfz⟩ := HC2.num 4 (by omega) (by omega)))
          go_roundw
          case rel => exact ⟨i + 1, c.setN 4 n, false, rfl, by go_num, by omega, HC2.putN 4 n (by omega) (by omega), (HG.below HB2).far (by simp only; omega) _, Lib.hid (by rw [HQ3.out, Bool.false_and]), HB3.out.setCell (by simp only; omega) _⟩
          case measure => simp [intOf]; omega
    · obtain ⟨v, hv1, hv2, hv3⟩ := HCA
      go_wp2_with (first | (refine wpList_load_row rfl 51 _ rfl G rfl 51 (callCells c v).toArray _ _ hv1 Tryz.underlying51 rfl (by kernel_rfl) ?_) | (refine wpList_store_row rfl 51 _ _ rfl w.heap.size (callCells c v).toArray rfl rfl 51 _ HG (by kernel_rfl) rfl (call_one _ hv2.one) ?_))
      refine bodyPost_ret (results_ct rfl _ _ w.heap.size 51 (callCells c v).toArray (0, 0) _ rfl (setRow_heap _ _ _ _ _ _ HG) Tryz.underlying51 rfl (by kernel_rfl)) rfl ?_
      have hii : i = f.length := by omega
      have hq : R = (c, g) := by
        rw [HQ.out, hii, List.drop_length]
        simp [Sp.fillR]
      rw [hq]
      exact ⟨v, rfl, hv2.step (by simp) (fun k hk => setRow_other _ (show k ≠ w.heap.size by have := (hv3 k hk); omega)), setRow_below HB (Nat.le_refl _) _⟩
end Go.Proofs.YthnhfddlmkhgkaaGreatDoor

set_option linter.unusedVariables false
namespace Go.Proofs.YthnhfddlmkhgkaaGreatDoor
open Go.RowKit Go.Proofs.YthnhfddlmkhgkaaGreatDoorW.PrintWords

theorem words_some {l : Sp.Bs} {ws : List Sp.Bs} (h : Sp.split l = some ws) (hl : l.length ≤ 1099511627776) (w : World) : Calls Tryz.prog 40 #[.string (str l)] w (SplitS w ws) := by
  have hw := words_any (str l) w (by rw [str_size]; exact hl)
  rw [show bl (str l) = l from rfl] at hw
  refine hw.mono ?_
  rintro e w1 (⟨v, ws2, hs, rfl, hv, hb⟩ | ⟨hs, rfl, hb⟩)
  · rw [h] at hs
    injection hs with hs
    subst hs
    obtain ⟨A, c, rfl, hc, hr⟩ := hv.reads
    exact ⟨A, c, rfl, hr, hc, hb⟩
  · rw [h] at hs; cases hs
theorem words_none {l : Sp.Bs} (h : Sp.split l = none) (hl : l.length ≤ 1099511627776) (w : World) : Calls Tryz.prog 40 #[.string (str l)] w (BRet w (.tuple #[.slice none 0 0, .bool false])) := by
  have hw := words_any (str l) w (by rw [str_size]; exact hl)
  rw [show bl (str l) = l from rfl] at hw
  refine hw.mono ?_
  rintro e w1 (⟨v, ws2, hs, rfl, hv, hb⟩ | ⟨hs, rfl, hb⟩)
  · rw [h] at hs; cases hs
  · exact ⟨rfl, hb⟩
theorem shaped_find {n : Sp.Bs} {r : List Sp.Bs} {op : Nat} (h : Sp.shaped (n :: r) = (op, 0)) : Sp.findRow Sp.callRows n = op := by
  simp only [Sp.shaped] at h
  split at h
  · cases h
  · split at h
    · cases h
    · injection h
theorem parseCall_line {t : Sp.Bs} (hs : ¬ 1048576 < t.length) (h : (10 : UInt8) ∈ t) : Sp.parseCall t = ({}, 214) := by
  unfold Sp.parseCall
  rw [if_neg hs]
  cases Sp.split t with
  | none => rfl
  | some ws => simp only; rw [if_pos h]
theorem parseCall_plain {t : Sp.Bs} (hs : ¬ 1048576 < t.length) (h : (10 : UInt8) ∉ t) : Sp.parseCall t = match Sp.split t with | none => ({}, 214) | some ws => if (Sp.shaped ws).2 ≠ 0 then ({}, (Sp.shaped ws).2) else Sp.call (Sp.shaped ws).1 ws := by
  unfold Sp.parseCall
  rw [if_neg hs]
  cases Sp.split t with
  | none => rfl
  | some ws => simp only; rw [if_neg h]
def RCV (c : Sp.Call) (g : Bool) (w : World) (e : Ending) (w' : World) : Prop :=
  ∃ A2 k2, e = .returned (.tuple #[.agg #[.int .i64 c.op, .int .i64 c.h, .int .i64 c.h2, .int .i64 c.off, .int .i64 c.len, .string (str c.path), .string (str c.name), .string (str c.name2), .slice A2 c.data.length k2], .bool g]) ∧ OU w' w.heap.size (.slice A2 c.data.length k2) c.data ∧ Below w.heap.size w w'
set_option maxHeartbeats 8000000 in
set_option maxRecDepth 100000 in
theorem rparseCall_any (t : Sp.Bs) (w : World) (he : EnvR w) (hs : t.length ≤ 140737488355328) :
    Calls Tryz.prog 29 #[.string (str t)] w (PCallPost w (Sp.parseCall t)) := by
  have HE := Lib.hid he
  clear he
  have hsz : (str t).size = t.length := str_size t
  by_cases hbig : 1048576 < t.length
  · have HSP : Hid (Sp.parseCall t = ({}, 216)) := Lib.hid (by unfold Sp.parseCall; rw [if_pos hbig])
    have hb0 : Below w.heap.size w (w.alloc (.cells #[.int .i64 0, .int .i64 0, .int .i64 0, .int .i64 0, .int .i64 0, .string ⟨#[]⟩, .string ⟨#[]⟩, .string ⟨#[]⟩, .slice none 0 0] 51)) := (Below.refl _ _).alloc (Nat.le_refl _) _
    have hz0 : ZeroAt (w.alloc (.cells #[.int .i64 0, .int .i64 0, .int .i64 0, .int .i64 0, .int .i64 0, .string ⟨#[]⟩, .string ⟨#[]⟩, .string ⟨#[]⟩, .slice none 0 0] 51)) w.heap.size := heap_alloc_new w _
    go_enter Tryz.func29, Tryz.ntmps29
    go_wp2_with (refine wpList_store_row rfl 51 (.tmp 2) (.tmp 13) rfl w.heap.size (callCells {} (.slice none 0 0)).toArray rfl rfl 51 _ hz0 (by kernel_rfl) rfl (call_one _ rfl) ?_)
    refine bodyPost_ret (results_ct rfl _ _ w.heap.size 51 (callCells {} (.slice none 0 0)).toArray (0, 0) _ rfl (setRow_heap _ _ _ _ _ _ hz0) Tryz.underlying51 rfl (by kernel_rfl)) rfl ?_
    rw [HSP.out]
    exact ⟨_, rfl, ORow.nil _ _ _, setRow_below hb0 (Nat.le_refl _) _⟩
  · have HL1 : Hid (t.length ≤ 1099511627776) := Lib.hid (by omega)
    have HNB := Lib.hid hbig
    obtain ⟨r, hr⟩ : ∃ r, r = Sp.parseCall t := ⟨_, rfl⟩
    rw [← hr]
    have HR := Lib.hid hr
    clear hr
    go_enter Tryz.func29, Tryz.ntmps29
    go_wp2
    generalize hW : w.alloc _ = W0
    have hz0 : ZeroAt W0 w.heap.size := by rw [← hW]; exact heap_alloc_new _ _
    have hb0 : Below w.heap.size w W0 := by rw [← hW]; exact (Below.refl _ _).alloc (Nat.le_refl _) _
    clear hW
    go_loopw [4] (fun v4 wr => ∃ (i : Nat), v4 = .int .i64 (i : Int) ∧ i ≤ t.length ∧ Hid ((10 : UInt8) ∉ t.take i) ∧ wr = W0) (fun v4 _ => t.length - (intOf v4).toNat)
    case atStart => exact ⟨0, rfl, Nat.zero_le _, Lib.hid (by simp), rfl⟩
    case round =>
      obtain ⟨i, rfl, hi, HQ, rfl⟩ := hrel
      by_cases hlt : i < t.length
      · obtain ⟨c, hc⟩ : ∃ c, c = t[i]'hlt := ⟨_, rfl⟩
        obtain ⟨C, hC⟩ : ∃ C : Int, C = (c.toNat : Int) := ⟨_, rfl⟩
        have hx : ∀ h : i < (str t).size, (((str t)[i]'h).toNat : Int) = C := fun h => by rw [hC, hc]; rfl
        have hC0 : 0 ≤ C := by omega
        have hC1 : C ≤ 255 := by have := c.toNat_lt; omega
        have T : (C == 10) = decide (c = 10) := u8_eqb 10 hC rfl
        have HC := Lib.hid hc
        clear hC hc
        by_cases e : c = 10
        · simp only [e, decide_true] at T
          have HF : Hid (r = ({}, 214)) := Lib.hid (by rw [HR.out]; exact parseCall_line HNB.out (by rw [← e, HC.out]; exact List.getElem_mem _))
          clear e
          go_wp2_with (refine wpList_store_row rfl 51 (.tmp 2) (.tmp 24) rfl w.heap.size (callCells {} (.slice none 0 0)).toArray rfl rfl 51 _ hz0 (by kernel_rfl) rfl (call_one _ rfl) ?_)
          refine bodyPost_ret (results_ct rfl _ _ w.heap.size 51 (callCells {} (.slice none 0 0)).toArray (0, 0) _ rfl (setRow_heap _ _ _ _ _ _ hz0) Tryz.underlying51 rfl (by kernel_rfl)) rfl ?_
          rw [HF.out]
          exact ⟨_, rfl, ORow.nil _ _ _, setRow_below hb0 (Nat.le_refl _) _⟩
        · simp only [e, decide_false] at T
          have HN : Hid ((10 : UInt8) ∉ t.take (i + 1)) := Lib.hid (by
            rw [List.take_succ_eq_append_getElem hlt, ← HC.out]
            intro h
            rcases List.mem_append.1 h with h | h
            · exact HQ.out h
            · exact e (List.mem_singleton.1 h).symm)
          clear e
          go_wp2
          go_roundw
          case rel => exact ⟨i + 1, by go_num, by omega, HN, trivial⟩
          case measure => simp [intOf]; omega
      · have HSP := parseCall_plain HNB.out (t := t) (by have h := HQ.out; rwa [List.take_of_length_le (by omega)] at h)
        rw [← HR.out] at HSP
        clear HQ
        cases hspl : Sp.split t with
        | none =>
          have HSPL := Lib.hid hspl
          rw [hspl] at HSP
          have HF := Lib.hid HSP
          clear HSP hspl
          go_wp2_with (first | (go_at_call 40; refine (words_none HSPL.out HL1.out _).mono ?_; rintro e w2 ⟨rfl, hb2⟩; have hz5 := hz0.below hb2; have HB2 := Lib.hid (hb0.trans (hb2.mono hb0.size)); clear hb2; have tk1 := trivial) | (have tq := tk1; refine wpList_store_row rfl 51 (.tmp 2) (.tmp 32) rfl w.heap.size (callCells {} (.slice none 0 0)).toArray rfl rfl 51 _ hz5 (by kernel_rfl) rfl (call_one _ rfl) ?_))
          refine bodyPost_ret (results_ct rfl _ _ w.heap.size 51 (callCells {} (.slice none 0 0)).toArray (0, 0) _ rfl (setRow_heap _ _ _ _ _ _ hz5) Tryz.underlying51 rfl (by kernel_rfl)) rfl ?_
          rw [HF.out]
          exact ⟨_, rfl, ORow.nil _ _ _, setRow_below HB2.out (Nat.le_refl _) _⟩
        | some ws =>
          have HSPL := Lib.hid hspl
          rw [hspl] at HSP
          have hsl := Sp.split_len _ t (Nat.le_refl _) ws hspl
          have HWS : Hid (∀ x ∈ ws, x.length ≤ 1099511627776) := Lib.hid (fun x hx => by have := hsl.1 x hx; have := HL1.out; omega)
          have hwl : ws.length ≤ 1099511627776 := by have := HL1.out; omega
          have HQ1 : Hid (r = if (Sp.shaped ws).2 ≠ 0 then ({}, (Sp.shaped ws).2) else Sp.call (Sp.shaped ws).1 ws) := Lib.hid HSP
          clear HSP hspl hsl
          obtain ⟨op, er, hsh⟩ : ∃ op er, Sp.shaped ws = (op, er) := ⟨_, _, rfl⟩
          rw [hsh] at HQ1
          have HC59 : Hid (∀ (A : Option Addr) (cap : Nat) (w1 : World), Below w.heap.size w w1 → ReadS w1 A ws → Calls Tryz.prog 59 #[.slice A ws.length cap] w1 (BRet w1 (.int .i64 (er : Int)))) := Lib.hid (fun A cap w1 hb hr => by
            have h := rshape_any A ws cap w1 (HE.out.below hb) hr hwl
            rwa [hsh] at h)
          have HSH := Lib.hid hsh
          clear hsh hwl
          by_cases he0 : er = 0
          · have T2 : ((er : Int) != 0) = false := by rw [bne_eq_false_iff_eq]; omega
            have hok := shaped_ok (l := ws) (op := op) (by rw [HSH.out, he0])
            obtain ⟨c, g, hcl⟩ : ∃ c g, Sp.callR op ws = (c, g) := ⟨_, _, rfl⟩
            have HQ : Hid (r = if g then (c, 0) else ({}, 213)) := Lib.hid (by rw [HQ1.out]; simp only [he0]; rw [if_neg (by simp), Sp.callR_call, hcl])
            have HC60 : Hid (∀ (A : Option Addr) (cap : Nat) (w1 : World), Below w.heap.size w w1 → ReadS w1 A ws → Calls Tryz.prog 60 #[.slice A ws.length cap] w1 (RCV c g w1)) := Lib.hid (fun A cap w1 hb hr => by
              suffices h : Calls Tryz.prog 60 #[.slice A ws.length cap] w1 (RCallPost w1 (c, g)) from h.mono (fun _ _ ⟨v, a, b, d⟩ => by
                obtain ⟨A2, k2, rfl, _, _⟩ := b.reads
                exact ⟨A2, k2, a, b, d⟩)
              rw [← hcl]
              cases hws : ws with
              | nil => rw [hws] at hok; have := hok.2.2; simp only [List.length_nil] at this; omega
              | cons n r2 =>
                rw [← hws]
                exact rcall_any op A ws cap w1 (HE.out.below hb) hr n r2 hws (shaped_find (by rw [← hws, HSH.out, he0])) hok.1 hok.2.1 (by omega) HWS.out)
            clear he0 hcl hok
            cases g with
            | false =>
              have HF : Hid (r = ({}, 213)) := Lib.hid HQ.out
              clear HQ
              go_wp2_with (first | (go_at_call 40; refine (words_some HSPL.out HL1.out _).mono ?_; rintro e w2 ⟨A, cap, rfl, hrs, hcap, hb2⟩; have hz5 := hz0.below hb2; have HB2 := Lib.hid (hb0.trans (hb2.mono hb0.size)); have HRS := Lib.hid hrs; clear hb2 hrs hcap) | (go_at_call 59; refine (HC59.out _ _ _ HB2.out HRS.out).mono ?_; rintro e w4 ⟨rfl, hb4⟩; have hz6 := hz5.below hb4; have HB4 := Lib.hid (And.intro (HB2.out.trans (hb4.mono HB2.out.size)) (HRS.out.below hb4)); clear hb4) | (go_at_call 60; refine (HC60.out _ _ _ HB4.out.1 HB4.out.2).mono ?_; rintro e w5 ⟨A2, k2, rfl, hv, hb5⟩; have hz7 : ZeroAt (w5.alloc (.cells #[.int .i64 c.op, .int .i64 c.h, .int .i64 c.h2, .int .i64 c.off, .int .i64 c.len, .string (str c.path), .string (str c.name), .string (str c.name2), .slice A2 c.data.length k2] 51)) w.heap.size := (hz6.below hb5).below ((Below.refl _ _).alloc (Nat.le_refl _) _); have HB5 := Lib.hid (HB4.out.1.trans (hb5.mono HB4.out.1.size)); clear hb5 hv; have tk1 := trivial) | (have tq := tk1; refine wpList_store_row rfl 51 (.tmp 2) (.tmp 46) rfl w.heap.size (callCells {} (.slice none 0 0)).toArray rfl rfl 51 _ hz7 (by kernel_rfl) rfl (call_one _ rfl) ?_))
              refine bodyPost_ret (results_ct rfl _ _ w.heap.size 51 (callCells {} (.slice none 0 0)).toArray (0, 0) _ rfl (setRow_heap _ _ _ _ _ _ hz7) Tryz.underlying51 rfl (by kernel_rfl)) rfl ?_
              rw [HF.out]
              exact ⟨_, rfl, ORow.nil _ _ _, setRow_below (HB5.out.alloc HB5.out.size _) (Nat.le_refl _) _⟩
            | true =>
              have HF : Hid (r = (c, 0)) := Lib.hid HQ.out
              clear HQ
              go_wp2_with (first | (go_at_call 40; refine (words_some HSPL.out HL1.out _).mono ?_; rintro e w2 ⟨A, cap, rfl, hrs, hcap, hb2⟩; have hz5 := hz0.below hb2; have HB2 := Lib.hid (hb0.trans (hb2.mono hb0.size)); have HRS := Lib.hid hrs; clear hb2 hrs hcap) | (go_at_call 59; refine (HC59.out _ _ _ HB2.out HRS.out).mono ?_; rintro e w4 ⟨rfl, hb4⟩; have hz6 := hz5.below hb4; have HB4 := Lib.hid (And.intro (HB2.out.trans (hb4.mono HB2.out.size)) (HRS.out.below hb4)); clear hb4) | (go_at_call 60; refine (HC60.out _ _ _ HB4.out.1 HB4.out.2).mono ?_; rintro e w5 ⟨A2, k2, rfl, hv, hb5⟩; have hz7 : ZeroAt (w5.alloc (.cells #[.int .i64 c.op, .int .i64 c.h, .int .i64 c.h2, .int .i64 c.off, .int .i64 c.len, .string (str c.path), .string (str c.name), .string (str c.name2), .slice A2 c.data.length k2] 51)) w.heap.size := (hz6.below hb5).below ((Below.refl _ _).alloc (Nat.le_refl _) _); have hrw7 : (w5.alloc (.cells #[.int .i64 c.op, .int .i64 c.h, .int .i64 c.h2, .int .i64 c.off, .int .i64 c.len, .string (str c.path), .string (str c.name), .string (str c.name2), .slice A2 c.data.length k2] 51)).heap[w5.heap.size]? = some (.cells (callCells c (.slice A2 c.data.length k2)).toArray 51 (0, 0)) := heap_alloc_new _ _; have hone := hv.one; have hl5 := hz6.below hb5; have HB5 := Lib.hid (And.intro (HB4.out.1.trans (hb5.mono HB4.out.1.size)) (And.intro hv (And.intro (row_lt hz6) hb5.size))); clear hb5 hv; have tk1 := trivial) | (have tq := tk1; refine wpList_load_row rfl 51 (.tmp 8) rfl w5.heap.size rfl 51 (callCells c (.slice A2 c.data.length k2)).toArray _ _ hrw7 Tryz.underlying51 rfl (by kernel_rfl) ?_) | (have tq := tk1; refine wpList_store_row rfl 51 (.tmp 2) (.tmp 47) rfl w.heap.size (callCells c (.slice A2 c.data.length k2)).toArray rfl rfl 51 _ hz7 (by kernel_rfl) rfl (call_one _ hone) ?_))
              refine bodyPost_ret (results_ct rfl _ _ w.heap.size 51 (callCells c (.slice A2 c.data.length k2)).toArray (0, 0) _ rfl (setRow_heap _ _ _ _ _ _ hz7) Tryz.underlying51 rfl (by kernel_rfl)) rfl ?_
              rw [HF.out]
              obtain ⟨q1, q2, q3, q4⟩ := HB5.out
              have q2' : OU (w5.alloc (.cells #[.int .i64 c.op, .int .i64 c.h, .int .i64 c.h2, .int .i64 c.off, .int .i64 c.len, .string (str c.path), .string (str c.name), .string (str c.name2), .slice A2 c.data.length k2] 51)) w.heap.size (.slice A2 c.data.length k2) c.data := (q2.lower (HB4.out.1.size)).below ((Below.refl _ _).alloc (Nat.le_refl _) _)
              exact ⟨_, rfl, q2'.step (by simp) (fun k hk => setRow_other _ (show k ≠ w.heap.size by have := (q2.lt k hk).1; omega)), setRow_below (q1.alloc q1.size _) (Nat.le_refl _) _⟩
          · have T2 : ((er : Int) != 0) = true := by rw [bne_iff_ne]; omega
            have HF : Hid (r = ({}, er)) := Lib.hid (by rw [HQ1.out]; simp [he0])
            clear he0
            go_wp2_with (first | (go_at_call 40; refine (words_some HSPL.out HL1.out _).mono ?_; rintro e w2 ⟨A, cap, rfl, hrs, hcap, hb2⟩; have hz5 := hz0.below hb2; have HB2 := Lib.hid (hb0.trans (hb2.mono hb0.size)); have HRS := Lib.hid hrs; clear hb2 hrs hcap) | (go_at_call 59; refine (HC59.out _ _ _ HB2.out HRS.out).mono ?_; rintro e w4 ⟨rfl, hb4⟩; have hz6 := hz5.below hb4; have HB4 := Lib.hid (HB2.out.trans (hb4.mono HB2.out.size)); clear hb4; have tk1 := trivial) | (have tq := tk1; refine wpList_store_row rfl 51 (.tmp 2) (.tmp 37) rfl w.heap.size (callCells {} (.slice none 0 0)).toArray rfl rfl 51 _ hz6 (by kernel_rfl) rfl (call_one _ rfl) ?_))
            refine bodyPost_ret (results_ct rfl _ _ w.heap.size 51 (callCells {} (.slice none 0 0)).toArray (0, 0) _ rfl (setRow_heap _ _ _ _ _ _ hz6) Tryz.underlying51 rfl (by kernel_rfl)) rfl ?_
            rw [HF.out]
            exact ⟨_, rfl, ORow.nil _ _ _, setRow_below HB4.out (Nat.le_refl _) _⟩
end Go.Proofs.YthnhfddlmkhgkaaGreatDoor

/- Walks: what some functions of the play package and its laws compute, as contracts. -/
import Derived.Test.YthnhfddlmkhgkaaGreatDoorZLawG
import Derived.Test.YthnhfddlmkhgkaaGreatDoorZPrintP
import Derived.Test.YthnhfddlmkhgkaaGreatDoorZFirst
set_option linter.unusedVariables false
namespace Go.Proofs.YthnhfddlmkhgkaaGreatDoor
open Go.RowKit Go.Proofs.YthnhfddlmkhgkaaGreatDoorW.PrintWords

/-- a slice of whole numbers that is read -/
abbrev ReadI (w : World) (A : Option Addr) (l : List Int) : Prop := (Kd.int .i64).C w A l.length l
theorem ReadI.at_ {w : World} {A : Option Addr} {l : List Int} (h : ReadI w A l) (k : Nat) (hk : k < l.length) : ∃ ad, A = some ad ∧ w.cell? (ad.add k) = some (.int .i64 (l[k]'hk)) := by
  obtain ⟨ad, e, hc⟩ := h.2.2 (by omega)
  obtain ⟨c, hl, hK, hcell⟩ := hc k (l[k]'hk) (List.getElem?_eq_getElem hk)
  have hK' : c = [.int .i64 (l[k]'hk)] := hK
  subst hK'
  refine ⟨ad, e, ?_⟩
  have := hcell 0 _ rfl
  simpa [Kd.int, Kd.scalar] using this
theorem ReadI.below {w w1 : World} {A : Option Addr} {l : List Int} (h : ReadI w A l) (hb : Below w.heap.size w w1) : ReadI w1 A l := Kd.C_below h hb
theorem str_cat2 (a b : Sp.Bs) : str a ++ str b = str (a ++ b) := by
  apply ByteArray.ext
  simp [str]
set_option maxHeartbeats 8000000 in
set_option maxRecDepth 100000 in
theorem noisy_any (t : Sp.Bs) (nz : List Int) (A : Option Addr) (k : Nat) (deaf : Sp.Bs) (w : World) (hr : ReadI w A nz) (ht : t.length ≤ 65536) (hd : deaf.length ≤ 64) :
    Calls Tryz.prog 22 #[.string (str t), .slice A nz.length k, .string (str deaf)] w (fun e w' => ∃ fs, e = .returned (.string (str (Sp.noised deaf t fs))) ∧ Below w.heap.size w w') := by
  have HR := Lib.hid hr
  clear hr
  have hsz : (str t).size = t.length := str_size t
  have hsz2 : (str deaf).size = deaf.length := str_size deaf
  obtain ⟨D1, hD1⟩ : ∃ x, x = 35 :: deaf := ⟨_, rfl⟩
  obtain ⟨D2, hD2⟩ : ∃ x, x = 35 :: deaf ++ [10] := ⟨_, rfl⟩
  have hadd1 : (⟨#[35]⟩ : ByteArray) ++ str deaf = str D1 := by rw [hD1]; exact str_cat2 [35] deaf
  have hadd2 : str D1 ++ (⟨#[10]⟩ : ByteArray) = str D2 := by rw [hD1, hD2]; exact str_cat2 (35 :: deaf) [10]
  have hD1s : (str D1).size = deaf.length + 1 := by rw [str_size, hD1]; simp
  have hD2l : D2.length = deaf.length + 2 := by rw [hD2]; simp
  have HD2 := Lib.hid hD2
  clear hD1 hD2
  go_enter Tryz.func22, Tryz.ntmps22
  go_wp2
  go_loopw [7, 8, 9] (fun v7 v8 v9 wr => ∃ (i : Nat) (fs : List Sp.Quad) (n : Nat) (o : Sp.Bs), v9 = .int .i64 (i : Int) ∧ v8 = .int .i64 (n : Int) ∧ i ≤ t.length ∧ n ≤ i ∧ o.length ≤ i + n * 76 ∧ RowU wr w.heap.size v7 o ∧ Hid (n = fs.length ∧ fs.length = (t.take i).count 10 ∧ o = Sp.noised deaf (t.take i) fs) ∧ Below w.heap.size w wr) (fun _ _ v9 _ => t.length - (intOf v9).toNat)
  case atStart => exact ⟨0, [], 0, [], rfl, rfl, Nat.zero_le _, Nat.le_refl _, by simp, RowU.nil _ _, Lib.hid (by simp [Sp.noised]), Below.refl _ _⟩
  case round =>
    obtain ⟨i, fs, n, o, rfl, rfl, hi, hn, hol, HO, HF, HB⟩ := hrel
    by_cases hlt : i < t.length
    · have q2 : (0 : Int) ≤ (i : Int) ∧ (i : Int) < (t.length : Int) := ⟨by omega, by omega⟩
      obtain ⟨C, hC⟩ : ∃ C : Int, C = ((t[i]'hlt).toNat : Int) := ⟨_, rfl⟩
      have hx : ∀ h : i < (str t).size, (((str t)[i]'h).toNat : Int) = C := fun h => by rw [hC]; rfl
      have T10 : (C != 10) = !decide (t[i]'hlt = 10) := by rw [← u8_eqb 10 hC rfl]; rfl
      have hC0 : 0 ≤ C := by omega
      have HCC := Lib.hid hC
      have htk : t.take (i + 1) = t.take i ++ [t[i]'hlt] := List.take_succ_eq_append_getElem hlt
      by_cases c10 : t[i]'hlt = 10
      · rw [decide_eq_true c10] at T10
        have T10 : (C != 10) = false := T10
        have HN : Hid (∀ q, n + 1 = (fs ++ [q]).length ∧ (fs ++ [q]).length = (t.take (i + 1)).count 10 ∧ o ++ 10 :: Sp.noise deaf q = Sp.noised deaf (t.take (i + 1)) (fs ++ [q])) := Lib.hid (fun q => by
          refine ⟨by rw [List.length_append, HF.out.1]; rfl, ?_, ?_⟩
          · rw [htk, c10, List.count_append, ← HF.out.2.1, List.length_append]; rfl
          · rw [htk, c10, Sp.noised_nl _ _ _ _ HF.out.2.1, HF.out.2.2])
        rw [c10] at hC
        have HCC10 : Hid (C = ((10 : UInt8).toNat : Int)) := Lib.hid hC
        clear hC htk HCC c10
        by_cases hln : n < nz.length
        · obtain ⟨ad, hA, _⟩ := HR.out.at_ n hln
          have HCK : Hid (∀ w3, Below w.heap.size w w3 → w3.cell? (ad.add n) = some (.int .i64 (nz[n]'hln))) := Lib.hid (fun w3 hb => by
            obtain ⟨ad2, hA2, h2⟩ := (HR.out.below hb).at_ n hln
            rw [hA] at hA2
            injection hA2 with hA2
            subst hA2
            exact h2)
          subst hA
          generalize nz[n]'hln = X at HCK
          have q3 : (0 : Int) ≤ (n : Int) ∧ (n : Int) < (nz.length : Int) := ⟨by omega, by omega⟩
          go_wp2_with (at_builtin; (first | (refine ap_u8 (W := wr) (base := w.heap.size) (w0 := w) (v := u7) (l := o) (c := 10) rfl rfl rfl rfl HCC10.out HO HB HB.size (by omega) ?_; intro v1 w1 HO1 HB1 j1 j2; clear j1 j2; have hck := HCK.out w1 HB1) | (refine ap_str (base := w.heap.size) (w0 := w) (c := [10]) rfl rfl rfl rfl (by assumption) (by assumption) (Below.size (by assumption)) (by simp only [List.length_append, List.length_cons, List.length_nil]; omega) ?_; intro v2 w2 HO2 HB2) | (refine ap_str (base := w.heap.size) (w0 := w) (c := D2) rfl rfl rfl rfl (by assumption) (by assumption) (Below.size (by assumption)) (by simp only [List.length_append, List.length_cons, List.length_nil]; omega) ?_; intro v2 w2 HO2 HB2) | (refine ap_str (base := w.heap.size) (w0 := w) (c := [32, 9, 35, 32, 34, 10]) rfl rfl rfl rfl (by assumption) (by assumption) (Below.size (by assumption)) (by simp only [List.length_append, List.length_cons, List.length_nil]; omega) ?_; intro v2 w2 HO2 HB2) | (refine ap_str (base := w.heap.size) (w0 := w) (c := [9, 32, 32]) rfl rfl rfl rfl (by assumption) (by assumption) (Below.size (by assumption)) (by simp only [List.length_append, List.length_cons, List.length_nil]; omega) ?_; intro v2 w2 HO2 HB2)))
          all_goals (
            go_roundw
            case rel => first | (refine ⟨i + 1, fs ++ [(true, true, true, true)], n + 1, _, by go_num, by go_num, by omega, by omega, ?_, by assumption, ?_, by assumption⟩; rotate_left; (focus (refine Lib.hid ⟨(HN.out (true, true, true, true)).1, (HN.out (true, true, true, true)).2.1, ?_⟩; rw [← (HN.out (true, true, true, true)).2.2]; simp [Sp.noise, HD2.out]; done)); (simp only [List.length_append, List.length_cons, List.length_nil]; omega)) | (refine ⟨i + 1, fs ++ [(true, true, true, false)], n + 1, _, by go_num, by go_num, by omega, by omega, ?_, by assumption, ?_, by assumption⟩; rotate_left; (focus (refine Lib.hid ⟨(HN.out (true, true, true, false)).1, (HN.out (true, true, true, false)).2.1, ?_⟩; rw [← (HN.out (true, true, true, false)).2.2]; simp [Sp.noise, HD2.out]; done)); (simp only [List.length_append, List.length_cons, List.length_nil]; omega)) | (refine ⟨i + 1, fs ++ [(true, true, false, true)], n + 1, _, by go_num, by go_num, by omega, by omega, ?_, by assumption, ?_, by assumption⟩; rotate_left; (focus (refine Lib.hid ⟨(HN.out (true, true, false, true)).1, (HN.out (true, true, false, true)).2.1, ?_⟩; rw [← (HN.out (true, true, false, true)).2.2]; simp [Sp.noise, HD2.out]; done)); (simp only [List.length_append, List.length_cons, List.length_nil]; omega)) | (refine ⟨i + 1, fs ++ [(true, true, false, false)], n + 1, _, by go_num, by go_num, by omega, by omega, ?_, by assumption, ?_, by assumption⟩; rotate_left; (focus (refine Lib.hid ⟨(HN.out (true, true, false, false)).1, (HN.out (true, true, false, false)).2.1, ?_⟩; rw [← (HN.out (true, true, false, false)).2.2]; simp [Sp.noise, HD2.out]; done)); (simp only [List.length_append, List.length_cons, List.length_nil]; omega)) | (refine ⟨i + 1, fs ++ [(true, false, true, true)], n + 1, _, by go_num, by go_num, by omega, by omega, ?_, by assumption, ?_, by assumption⟩; rotate_left; (focus (refine Lib.hid ⟨(HN.out (true, false, true, true)).1, (HN.out (true, false, true, true)).2.1, ?_⟩; rw [← (HN.out (true, false, true, true)).2.2]; simp [Sp.noise]; done)); (simp only [List.length_append, List.length_cons, List.length_nil]; omega)) | (refine ⟨i + 1, fs ++ [(true, false, true, false)], n + 1, _, by go_num, by go_num, by omega, by omega, ?_, by assumption, ?_, by assumption⟩; rotate_left; (focus (refine Lib.hid ⟨(HN.out (true, false, true, false)).1, (HN.out (true, false, true, false)).2.1, ?_⟩; rw [← (HN.out (true, false, true, false)).2.2]; simp [Sp.noise]; done)); (simp only [List.length_append, List.length_cons, List.length_nil]; omega)) | (refine ⟨i + 1, fs ++ [(true, false, false, true)], n + 1, _, by go_num, by go_num, by omega, by omega, ?_, by assumption, ?_, by assumption⟩; rotate_left; (focus (refine Lib.hid ⟨(HN.out (true, false, false, true)).1, (HN.out (true, false, false, true)).2.1, ?_⟩; rw [← (HN.out (true, false, false, true)).2.2]; simp [Sp.noise]; done)); (simp only [List.length_append, List.length_cons, List.length_nil]; omega)) | (refine ⟨i + 1, fs ++ [(true, false, false, false)], n + 1, _, by go_num, by go_num, by omega, by omega, ?_, by assumption, ?_, by assumption⟩; rotate_left; (focus (refine Lib.hid ⟨(HN.out (true, false, false, false)).1, (HN.out (true, false, false, false)).2.1, ?_⟩; rw [← (HN.out (true, false, false, false)).2.2]; simp [Sp.noise]; done)); (simp only [List.length_append, List.length_cons, List.length_nil]; omega)) | (refine ⟨i + 1, fs ++ [(false, true, true, true)], n + 1, _, by go_num, by go_num, by omega, by omega, ?_, by assumption, ?_, by assumption⟩; rotate_left; (focus (refine Lib.hid ⟨(HN.out (false, true, true, true)).1, (HN.out (false, true, true, true)).2.1, ?_⟩; rw [← (HN.out (false, true, true, true)).2.2]; simp [Sp.noise, HD2.out]; done)); (simp only [List.length_append, List.length_cons, List.length_nil]; omega)) | (refine ⟨i + 1, fs ++ [(false, true, true, false)], n + 1, _, by go_num, by go_num, by omega, by omega, ?_, by assumption, ?_, by assumption⟩; rotate_left; (focus (refine Lib.hid ⟨(HN.out (false, true, true, false)).1, (HN.out (false, true, true, false)).2.1, ?_⟩; rw [← (HN.out (false, true, true, false)).2.2]; simp [Sp.noise, HD2.out]; done)); (simp only [List.length_append, List.length_cons, List.length_nil]; omega)) | (refine ⟨i + 1, fs ++ [(false, true, false, true)], n + 1, _, by go_num, by go_num, by omega, by omega, ?_, by assumption, ?_, by assumption⟩; rotate_left; (focus (refine Lib.hid ⟨(HN.out (false, true, false, true)).1, (HN.out (false, true, false, true)).2.1, ?_⟩; rw [← (HN.out (false, true, false, true)).2.2]; simp [Sp.noise, HD2.out]; done)); (simp only [List.length_append, List.length_cons, List.length_nil]; omega)) | (refine ⟨i + 1, fs ++ [(false, true, false, false)], n + 1, _, by go_num, by go_num, by omega, by omega, ?_, by assumption, ?_, by assumption⟩; rotate_left; (focus (refine Lib.hid ⟨(HN.out (false, true, false, false)).1, (HN.out (false, true, false, false)).2.1, ?_⟩; rw [← (HN.out (false, true, false, false)).2.2]; simp [Sp.noise, HD2.out]; done)); (simp only [List.length_append, List.length_cons, List.length_nil]; omega)) | (refine ⟨i + 1, fs ++ [(false, false, true, true)], n + 1, _, by go_num, by go_num, by omega, by omega, ?_, by assumption, ?_, by assumption⟩; rotate_left; (focus (refine Lib.hid ⟨(HN.out (false, false, true, true)).1, (HN.out (false, false, true, true)).2.1, ?_⟩; rw [← (HN.out (false, false, true, true)).2.2]; simp [Sp.noise]; done)); (simp only [List.length_append, List.length_cons, List.length_nil]; omega)) | (refine ⟨i + 1, fs ++ [(false, false, true, false)], n + 1, _, by go_num, by go_num, by omega, by omega, ?_, by assumption, ?_, by assumption⟩; rotate_left; (focus (refine Lib.hid ⟨(HN.out (false, false, true, false)).1, (HN.out (false, false, true, false)).2.1, ?_⟩; rw [← (HN.out (false, false, true, false)).2.2]; simp [Sp.noise]; done)); (simp only [List.length_append, List.length_cons, List.length_nil]; omega)) | (refine ⟨i + 1, fs ++ [(false, false, false, true)], n + 1, _, by go_num, by go_num, by omega, by omega, ?_, by assumption, ?_, by assumption⟩; rotate_left; (focus (refine Lib.hid ⟨(HN.out (false, false, false, true)).1, (HN.out (false, false, false, true)).2.1, ?_⟩; rw [← (HN.out (false, false, false, true)).2.2]; simp [Sp.noise]; done)); (simp only [List.length_append, List.length_cons, List.length_nil]; omega)) | (refine ⟨i + 1, fs ++ [(false, false, false, false)], n + 1, _, by go_num, by go_num, by omega, by omega, ?_, by assumption, ?_, by assumption⟩; rotate_left; (focus (refine Lib.hid ⟨(HN.out (false, false, false, false)).1, (HN.out (false, false, false, false)).2.1, ?_⟩; rw [← (HN.out (false, false, false, false)).2.2]; simp [Sp.noise]; done)); (simp only [List.length_append, List.length_cons, List.length_nil]; omega))
            case measure => simp [intOf]; omega)
        · go_wp2_with (at_builtin; refine ap_u8 (W := wr) (base := w.heap.size) (w0 := w) (v := u7) (l := o) (c := 10) rfl rfl rfl rfl HCC10.out HO HB HB.size (by omega) ?_; intro v1 w1 HO1 HB1 j1 j2; clear j1 j2)
          go_roundw
          case rel => exact ⟨i + 1, fs ++ [(false, false, false, false)], n + 1, o ++ [10], by go_num, by go_num, by omega, by omega, by simp only [List.length_append, List.length_cons, List.length_nil]; omega, HO1, Lib.hid ⟨(HN.out (false, false, false, false)).1, (HN.out (false, false, false, false)).2.1, by rw [← (HN.out (false, false, false, false)).2.2]; simp [Sp.noise]⟩, HB1⟩
          case measure => simp [intOf]; omega
      · rw [decide_eq_false c10] at T10
        have T10 : (C != 10) = true := T10
        have HN : Hid (n = fs.length ∧ fs.length = (t.take (i + 1)).count 10 ∧ o ++ [t[i]'hlt] = Sp.noised deaf (t.take (i + 1)) fs) := Lib.hid (by
          refine ⟨HF.out.1, ?_, ?_⟩
          · rw [htk, List.count_append, HF.out.2.1]
            have : [t[i]'hlt].count 10 = 0 := List.count_eq_zero.2 (by simpa using fun e => c10 e.symm)
            omega
          · rw [htk, Sp.noised_snoc _ _ _ _ c10, HF.out.2.2])
        clear hC htk
        generalize t[i]'hlt = c at HN HCC c10
        clear c10
        go_wp2_with (at_builtin; refine ap_u8 (W := wr) (base := w.heap.size) (w0 := w) (v := u7) (l := o) (c := c) rfl rfl rfl rfl HCC.out HO HB HB.size (by omega) ?_; intro v1 w1 HO1 HB1 j1 j2; clear j1 j2)
        go_roundw
        case rel => exact ⟨i + 1, fs, n, o ++ [c], by go_num, by go_num, by omega, by omega, by simp; omega, HO1, HN, HB1⟩
        case measure => simp [intOf]; omega
    · have hcv := own_string (P := Tryz.prog) Tryz.underlying45 Tryz.underlying5 Tryz.underlying9 (Kd.own_of_R HO)
      rw [str_us] at hcv
      go_wp2
      go_ret
      have h := HF.out.2.2
      rw [List.take_of_length_le (by omega)] at h
      exact ⟨fs, by rw [← h]; rfl, HB⟩
end Go.Proofs.YthnhfddlmkhgkaaGreatDoor

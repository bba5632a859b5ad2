/- Walks: what some functions of the play package and its laws compute, as contracts. -/
import Derived.Test.YthnhfddlmkhgkaaGreatDoorZWriteD
import Derived.Test.YthnhfddlmkhgkaaGreatDoorZLawK
set_option linter.unusedVariables false
namespace Go.Proofs.YthnhfddlmkhgkaaGreatDoor
open Go.RowKit Go.Proofs.YthnhfddlmkhgkaaGreatDoorW.PrintWords

set_option maxHeartbeats 2000000 in
set_option maxRecDepth 100000 in
theorem rhexed_any (A : Option Addr) (l : List UInt8) (cap : Nat) (w : World) (hr : ReadU w A l) (hl : l.length ≤ 1099511627776) :
    Calls Tryz.prog 95 #[.slice A l.length cap] w (BRet w (.string (str (Sp.hexed l)))) := by
  have HR := Lib.hid hr
  clear hr
  by_cases h0 : l.length = 0
  · obtain rfl : l = [] := List.eq_nil_of_length_eq_zero h0
    clear h0
    simp only [List.length_nil]
    go_enter Tryz.func95, Tryz.ntmps95
    go_wp2
    go_ret
    exact ⟨rfl, Below.refl _ _⟩
  · have hne : ((l.length : Int) == 0) = false := by rw [beq_eq_false_iff_ne]; omega
    have HN := Lib.hid h0
    clear h0
    go_enter Tryz.func95, Tryz.ntmps95
    go_wp2
    go_loopw [3, 4] (fun v3 v4 wr => ∃ (i : Nat) (o : Sp.Bs), v4 = .int .i64 (i : Int) ∧ i ≤ l.length ∧ o.length = 2 * i ∧ RowU wr w.heap.size v3 o ∧ Hid (l.flatMap Sp.two = o ++ (l.drop i).flatMap Sp.two) ∧ Below w.heap.size w wr) (fun _ v4 _ => l.length - (intOf v4).toNat)
    case atStart => exact ⟨0, [], rfl, Nat.zero_le _, rfl, RowU.nil _ _, Lib.hid (by simp), Below.refl _ _⟩
    case round =>
      obtain ⟨i, o, rfl, hi, ho, HO, HQ, HB⟩ := hrel
      by_cases hlt : i < l.length
      · have hdr : l.drop i = (l[i]'hlt) :: l.drop (i + 1) := List.drop_eq_getElem_cons hlt
        obtain ⟨ad, hA, hcell⟩ := (HR.out.below HB).at_ i hlt
        obtain ⟨c, hc⟩ : ∃ c, c = l[i]'hlt := ⟨_, rfl⟩
        rw [← hc] at hdr hcell
        obtain ⟨C, hC⟩ : ∃ C : Int, C = (c.toNat : Int) := ⟨_, rfl⟩
        rw [← hC] at hcell
        have HCW : Hid (∀ w1, Below w.heap.size w w1 → w1.cell? (ad.add i) = some (.int .u8 C)) := Lib.hid (fun w1 h => by
          obtain ⟨ad2, hA2, h2⟩ := (HR.out.below h).at_ i hlt
          rw [hA] at hA2
          injection hA2 with hA2
          rw [hA2, h2, hC, hc])
        subst hA
        have hC0 : 0 ≤ C := by omega
        have hC1 : C ≤ 255 := by have := c.toNat_lt; omega
        obtain ⟨N1, hN1⟩ : ∃ N : Int, N = ((Sp.nib (c.toNat / 16)).toNat : Int) := ⟨_, rfl⟩
        obtain ⟨N2, hN2⟩ : ∃ N : Int, N = ((Sp.nib (c.toNat % 16)).toNat : Int) := ⟨_, rfl⟩
        have q1 : 0 ≤ C / 16 ∧ C / 16 < 16 := by omega
        have q2 : 0 ≤ C % 16 ∧ C % 16 < 16 := by omega
        have hx1 : ∀ h, (((⟨#[48, 49, 50, 51, 52, 53, 54, 55, 56, 57, 97, 98, 99, 100, 101, 102]⟩ : ByteArray)[(C / 16).toNat]'h).toNat : Int) = N1 := fun h => by
          rw [digs_at, hN1]; congr 3; omega
        have hx2 : ∀ h, (((⟨#[48, 49, 50, 51, 52, 53, 54, 55, 56, 57, 97, 98, 99, 100, 101, 102]⟩ : ByteArray)[(C % 16).toNat]'h).toNat : Int) = N2 := fun h => by
          rw [digs_at, hN2]; congr 3; omega
        have HX1 := Lib.hid hN1
        have HX2 := Lib.hid hN2
        have HF : Hid (l.flatMap Sp.two = (o ++ [Sp.nib (c.toNat / 16)] ++ [Sp.nib (c.toNat % 16)]) ++ (l.drop (i + 1)).flatMap Sp.two) := Lib.hid (by
          rw [HQ.out, hdr]; simp [Sp.two])
        clear hN1 hN2 hdr hC hc
        go_wp2_with (at_builtin; first | (refine ap_u8 (W := wr) (base := w.heap.size) (w0 := w) (v := u3) (l := o) (c := Sp.nib (c.toNat / 16)) rfl rfl rfl rfl HX1.out HO HB HB.size (by omega) ?_; intro v1 w1 HO1 HB1 j1 j2; clear j1 j2; have hcell1 := HCW.out w1 HB1) | (refine ap_u8 (W := w1) (base := w.heap.size) (w0 := w) (v := v1) (l := o ++ [Sp.nib (c.toNat / 16)]) (c := Sp.nib (c.toNat % 16)) rfl rfl rfl rfl HX2.out HO1 HB1 HB1.size (by simp; omega) ?_; intro v2 w2 HO2 HB2 j1 j2; clear j1 j2))
        go_roundw
        case rel => exact ⟨i + 1, o ++ [Sp.nib (c.toNat / 16)] ++ [Sp.nib (c.toNat % 16)], by go_num, by omega, by simp; omega, HO2, HF, HB2⟩
        case measure => simp [intOf]; omega
      · have hcv := own_string (P := Tryz.prog) Tryz.underlying45 Tryz.underlying5 Tryz.underlying9 (Kd.own_of_R HO)
        have HF : Hid (o = l.flatMap Sp.two) := Lib.hid (by
          have h2 := HQ.out
          rw [List.drop_eq_nil_of_le (by omega), List.flatMap_nil, List.append_nil] at h2
          exact h2.symm)
        go_wp2
        go_ret
        refine ⟨?_, HB⟩
        show Ending.returned (.string (strOfNums (us o))) = _
        rw [str_us, HF.out, Sp.hexed, if_neg (fun q => HN.out (by rw [q]; rfl))]
set_option maxHeartbeats 2000000 in
set_option maxRecDepth 100000 in
theorem rkeep_any (A : Option Addr) (l : List Bool) (cap : Nat) (w : World) (hr : ReadB w A l) (hl : l.length ≤ 1099511627776) :
    Calls Tryz.prog 96 #[.slice A l.length cap] w (BRet w (.string (str (Sp.flagged l)))) := by
  have HR := Lib.hid hr
  clear hr
  by_cases h0 : l.length = 0
  · obtain rfl : l = [] := List.eq_nil_of_length_eq_zero h0
    clear h0
    simp only [List.length_nil]
    go_enter Tryz.func96, Tryz.ntmps96
    go_wp2
    go_ret
    exact ⟨rfl, Below.refl _ _⟩
  · have hne : ((l.length : Int) == 0) = false := by rw [beq_eq_false_iff_ne]; omega
    have HN := Lib.hid h0
    clear h0
    go_enter Tryz.func96, Tryz.ntmps96
    go_wp2
    go_loopw [3, 4] (fun v3 v4 wr => ∃ (i : Nat), v4 = .int .i64 (i : Int) ∧ i ≤ l.length ∧ RowU wr w.heap.size v3 ((l.take i).map fl) ∧ Below w.heap.size w wr) (fun _ v4 _ => l.length - (intOf v4).toNat)
    case atStart => exact ⟨0, rfl, Nat.zero_le _, RowU.nil _ _, Below.refl _ _⟩
    case round =>
      obtain ⟨i, rfl, hi, HO, HB⟩ := hrel
      by_cases hlt : i < l.length
      · obtain ⟨ad, hA, hcell⟩ := (HR.out.below HB).at_ i hlt
        obtain ⟨b, hb⟩ : ∃ b, b = l[i]'hlt := ⟨_, rfl⟩
        rw [← hb] at hcell
        subst hA
        have hln : ((l.take i).map fl).length ≤ l.length := by rw [List.length_map, List.length_take]; omega
        have HT : Hid ((l.take (i + 1)).map fl = (l.take i).map fl ++ [fl b]) := Lib.hid (by rw [List.take_succ_eq_append_getElem hlt, ← hb, List.map_append]; rfl)
        clear hb
        cases b with
        | true =>
          go_wp2_with (at_builtin; refine ap_u8 (W := wr) (base := w.heap.size) (w0 := w) (v := u3) (l := (l.take i).map fl) (c := 49) rfl rfl rfl rfl rfl HO HB HB.size (by omega) ?_; intro v1 w1 HO1 HB1 j1 j2; clear j1 j2)
          go_roundw
          case rel => exact ⟨i + 1, by go_num, by omega, by rw [HT.out]; exact HO1, HB1⟩
          case measure => simp [intOf]; omega
        | false =>
          go_wp2_with (at_builtin; refine ap_u8 (W := wr) (base := w.heap.size) (w0 := w) (v := u3) (l := (l.take i).map fl) (c := 48) rfl rfl rfl rfl rfl HO HB HB.size (by omega) ?_; intro v1 w1 HO1 HB1 j1 j2; clear j1 j2)
          go_roundw
          case rel => exact ⟨i + 1, by go_num, by omega, by rw [HT.out]; exact HO1, HB1⟩
          case measure => simp [intOf]; omega
      · have hcv := own_string (P := Tryz.prog) Tryz.underlying45 Tryz.underlying5 Tryz.underlying9 (Kd.own_of_R HO)
        have HF : Hid (List.take i (List.map fl l) = l.map fl) := Lib.hid (by rw [List.take_of_length_le (by rw [List.length_map]; omega)])
        go_wp2
        go_ret
        refine ⟨?_, HB⟩
        show Ending.returned (.string (strOfNums (us (List.take i (List.map fl l))))) = _
        rw [str_us, HF.out, Sp.flagged, if_neg (fun q => HN.out (by rw [q]; rfl))]
        rfl
end Go.Proofs.YthnhfddlmkhgkaaGreatDoor

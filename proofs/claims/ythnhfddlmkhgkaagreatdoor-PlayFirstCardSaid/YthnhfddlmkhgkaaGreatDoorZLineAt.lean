/- Walks: what some functions of the play package and its laws compute, as contracts. -/
import Derived.Test.YthnhfddlmkhgkaaGreatDoorZCanonC
set_option linter.unusedVariables false
namespace Go.Proofs.YthnhfddlmkhgkaaGreatDoor
open Go.RowKit Go.Proofs.YthnhfddlmkhgkaaGreatDoorW.PrintWords

theorem upto_ne {c : UInt8} (h : c ≠ 10) (j : Nat) (r : Sp.Bs) : Sp.upto (j + 1) (c :: r) = c :: Sp.upto (j + 1) r := by
  simp only [Sp.upto]
  by_cases hm : (10 : UInt8) ∈ r
  · rw [if_pos (List.mem_cons_of_mem _ hm), if_pos hm]
    have h1 : Sp.line1 (c :: r) = c :: Sp.line1 r := by simp [Sp.line1, h]
    have h2 : Sp.rest1 (c :: r) = Sp.rest1 r := by simp [Sp.rest1, h]
    rw [h1, h2]; rfl
  · rw [if_neg hm, if_neg (by simp [Ne.symm h, hm])]
theorem upto_nl (j : Nat) (r : Sp.Bs) : Sp.upto (j + 1) (10 :: r) = 10 :: Sp.upto j r := by
  simp only [Sp.upto]
  rw [if_pos (by simp)]
  simp [Sp.line1, Sp.rest1]
theorem upto_nil (j : Nat) : Sp.upto j [] = [] := by cases j <;> simp [Sp.upto]
/-- how lineAt goes on: at place i, behind n - 1 line ends -/
def LA (K n i : Nat) (t : Sp.Bs) : Prop := 1 ≤ n ∧ (K = 0 ∨ n ≤ K ∧ Sp.upto K t = t.take i ++ Sp.upto (K + 1 - n) (t.drop i))
theorem LA.ne {K n i : Nat} {t : Sp.Bs} (h : LA K n i t) (hi : i < t.length) (hc : t[i]'hi ≠ 10) : LA K n (i + 1) t := by
  refine ⟨h.1, h.2.imp id fun ⟨h1, h2⟩ => ⟨h1, ?_⟩⟩
  obtain ⟨j, hj⟩ : ∃ j, K + 1 - n = j + 1 := ⟨K - n, by omega⟩
  rw [h2, hj, List.drop_eq_getElem_cons hi, upto_ne hc, List.take_succ_eq_append_getElem hi, List.append_assoc]
  rfl
theorem LA.nl {K n i : Nat} {t : Sp.Bs} (h : LA K n i t) (hi : i < t.length) (hc : t[i]'hi = 10) (hn : n ≠ K) : LA K (n + 1) (i + 1) t := by
  refine ⟨by omega, h.2.imp id fun ⟨h1, h2⟩ => ⟨by omega, ?_⟩⟩
  obtain ⟨j, hj⟩ : ∃ j, K + 1 - n = j + 1 := ⟨K - n, by omega⟩
  rw [h2, hj, List.drop_eq_getElem_cons hi, hc, upto_nl, List.take_succ_eq_append_getElem hi, hc, show K + 1 - (n + 1) = j by omega]
  simp
theorem LA.stop {K n i : Nat} {t : Sp.Bs} (h : LA K n i t) (hi : i < t.length) (hc : t[i]'hi = 10) (hn : n = K) : Sp.upto K t = t.take (i + 1) := by
  rcases h.2 with h0 | ⟨h1, h2⟩
  · have := h.1; omega
  · rw [h2, show K + 1 - n = 0 + 1 by omega, List.drop_eq_getElem_cons hi, hc, upto_nl, List.take_succ_eq_append_getElem hi, hc]
    simp [Sp.upto]
theorem LA.fin {K n i : Nat} {t : Sp.Bs} (h : LA K n i t) (hi : t.length ≤ i) : Sp.upto K t = if K < 1 then [] else t := by
  rcases h.2 with h0 | ⟨h1, h2⟩
  · subst h0; simp [Sp.upto]
  · rw [h2, List.drop_eq_nil_of_le hi, upto_nil, List.append_nil, List.take_of_length_le hi, if_neg (by have := h.1; omega)]
set_option maxHeartbeats 4000000 in
set_option maxRecDepth 100000 in
theorem lineAt_any (t : Sp.Bs) (K : Nat) (b : Bool) (w : World) (hl : t.length ≤ 1099511627776) (hK : K ≤ 1099511627776) :
    Calls Tryz.prog 23 #[.string (str t), .int .i64 (if b then (K : Int) else (K : Int) + 1), .bool b] w (SRet w (.string (str (Sp.upto K t)))) := by
  have hsz : (str t).size = t.length := str_size t
  have h0 : LA K 1 0 t := by
    refine ⟨Nat.le_refl _, ?_⟩
    rcases Nat.eq_zero_or_pos K with h | h
    · exact .inl h
    · exact .inr ⟨h, by simp⟩
  obtain ⟨r, hr⟩ : ∃ r, r = Sp.upto K t := ⟨_, rfl⟩
  rw [← hr]
  have HR := Lib.hid hr
  have H0 := Lib.hid h0
  clear hr h0
  cases b
  all_goals
    simp only [if_true, Bool.false_eq_true, if_false]
    go_enter Tryz.func23, Tryz.ntmps23
    go_wp2
    go_loopw [7, 8] (fun v7 v8 wr => ∃ (n i : Nat), v7 = .int .i64 (n : Int) ∧ v8 = .int .i64 (i : Int) ∧ i ≤ t.length ∧ n ≤ i + 1 ∧ Hid (LA K n i t) ∧ wr = w) (fun _ v8 _ => t.length - (intOf v8).toNat)
    case atStart => exact ⟨1, 0, rfl, rfl, Nat.zero_le _, Nat.le_refl _, H0, rfl⟩
    case round =>
      obtain ⟨n, i, rfl, rfl, hi, hn, HL, rfl⟩ := hrel
      by_cases hlt : i < t.length
      · have q2 : (0 : Int) ≤ (i : Int) ∧ (i : Int) < (t.length : Int) := ⟨by omega, by omega⟩
        obtain ⟨C, hC⟩ : ∃ C : Int, C = ((t[i]'hlt).toNat : Int) := ⟨_, rfl⟩
        have hx : ∀ h : i < (str t).size, (((str t)[i]'h).toNat : Int) = C := fun h => by rw [hC]; rfl
        have T10 : (C == 10) = decide (t[i]'hlt = 10) := u8_eqb 10 hC rfl
        have hC0 : 0 ≤ C := by omega
        clear hC
        by_cases c10 : t[i]'hlt = 10
        · rw [decide_eq_true c10] at T10
          by_cases ck : n = K
          · have T2 : ((n : Int) == (K : Int)) = true := beq_iff_eq.2 (by omega)
            have HE : Hid (r = t.take (i + 1)) := Lib.hid (by rw [HR.out]; exact HL.out.stop hlt c10 ck)
            clear c10 ck
            have hcut : (str t).extract 0 (i + 1) = str (t.take (i + 1)) := by rw [Lib.extract_eq, bl_str, List.drop_zero]; rfl
            go_wp2
            go_ret
            rw [HE.out]
            exact ⟨rfl, rfl⟩
          · have T2 : ((n : Int) == (K : Int)) = false := beq_eq_false_iff_ne.2 (by omega)
            have HE := Lib.hid (HL.out.nl hlt c10 ck)
            clear c10 ck
            go_wp2
            go_roundw
            case rel => exact ⟨n + 1, i + 1, by go_num, by go_num, by omega, by omega, HE, trivial⟩
            case measure => simp [intOf]; omega
        · rw [decide_eq_false c10] at T10
          have HE := Lib.hid (HL.out.ne hlt c10)
          clear c10
          go_wp2
          go_roundw
          case rel => exact ⟨n, i + 1, by go_num, by go_num, by omega, by omega, HE, trivial⟩
          case measure => simp [intOf]; omega
      · by_cases ck : K < 1
        · have T2 : decide ((K : Int) < 1) = true := decide_eq_true (by omega)
          have HE : Hid (r = []) := Lib.hid (by rw [HR.out, HL.out.fin (by omega), if_pos ck])
          clear ck
          go_wp2
          go_ret
          rw [HE.out]
          exact ⟨rfl, rfl⟩
        · have T2 : decide ((K : Int) < 1) = false := decide_eq_false (by omega)
          have HE : Hid (r = t) := Lib.hid (by rw [HR.out, HL.out.fin (by omega), if_neg ck])
          clear ck
          go_wp2
          go_ret
          rw [HE.out]
          exact ⟨rfl, rfl⟩
end Go.Proofs.YthnhfddlmkhgkaaGreatDoor

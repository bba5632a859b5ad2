/- Plain Lean: steps and plays that are to be written, as the document tells them. -/
import Derived.Test.YthnhfddlmkhgkaaGreatDoorZLawJ
set_option linter.unusedVariables false
namespace Go.Proofs.YthnhfddlmkhgkaaGreatDoor
namespace Sp
def okN (x : Int) : Bool := decide (0 ≤ x ∧ x ≤ 1073741824)
/-- has the step no field that its letters do not tell? -/
def okO (n : Nat) (f : Bs) (o : Op) : Bool :=
  (decide (n = 1) || (f.contains 65 || (f.contains 84 || decide (o.a = 0)))) && ((f.contains 75 || decide (o.k = 0)) && ((f.contains 77 || decide (o.m = 0)) && ((f.contains 88 || decide (o.x = 0)) &&
  ((decide (n = 1) || decide (o.call = {})) && ((f.contains 68 || decide (o.data = [])) && (f.contains 66 || decide (o.keep = [])))))))
def numO (f : Bs) (o : Op) : Bool := ((f.contains 84 && decide (o.a = -1)) || okN o.a) && (okN o.k && (okN o.m && okN o.x))
/-- the word that a letter of the document stands for -/
def wordR (o : Op) (l : UInt8) : Bs :=
  if l = 65 then Lib.itoa o.a else if l = 84 then (if o.a = -1 then server else Lib.itoa o.a) else if l = 75 then Lib.itoa o.k else if l = 77 then Lib.itoa o.m else if l = 88 then Lib.itoa o.x
  else if l = 68 then hexed o.data else flagged o.keep
def errO (o : Op) : Nat :=
  if o.kind < 1 ∨ 15 ≤ o.kind then 212
  else if okO o.kind.toNat (formsR.getD o.kind.toNat []) o = false then 218
  else if o.kind = 1 ∧ errC o.call ≠ 0 then errC o.call
  else if numO (formsR.getD o.kind.toNat []) o = false then 213 else 0
def lineR (o : Op) : Bs :=
  if o.kind = 1 then [99, 97, 108, 108] ++ 32 :: (Lib.itoa o.a ++ 32 :: textC o.call)
  else join ((stepRows.getD o.kind.toNat ([], [])).1 :: (formsR.getD o.kind.toNat []).map (wordR o))
theorem spare_okO (o : Op) (n : Nat) (h0 : 0 < n) (h : n < 15) (ho : o.kind = n) : spare o = !okO n (formsR.getD n []) o := by
  obtain ⟨kind, a, k, m, x, call, data, keep⟩ := o
  simp only at ho
  subst ho
  have : n = 1 ∨ n = 2 ∨ n = 3 ∨ n = 4 ∨ n = 5 ∨ n = 6 ∨ n = 7 ∨ n = 8 ∨ n = 9 ∨ n = 10 ∨ n = 11 ∨ n = 12 ∨ n = 13 ∨ n = 14 := by omega
  rw [Bool.eq_iff_iff]
  rcases this with rfl | rfl | rfl | rfl | rfl | rfl | rfl | rfl | rfl | rfl | rfl | rfl | rfl | rfl
  all_goals
    simp [spare, okO, formsR, stepRows, trS]
  all_goals grind
theorem words_numO (o : Op) (n : Nat) (h0 : 1 < n) (h : n < 15) (ho : o.kind = n) (hk : okO n (formsR.getD n []) o = true) :
    wordsO o [] (stepRows.getD n ([], [])).2 = if numO (formsR.getD n []) o then some ((formsR.getD n []).map (wordR o)) else none := by
  obtain ⟨kind, a, k, m, x, call, data, keep⟩ := o
  simp only at ho
  subst ho
  have : n = 2 ∨ n = 3 ∨ n = 4 ∨ n = 5 ∨ n = 6 ∨ n = 7 ∨ n = 8 ∨ n = 9 ∨ n = 10 ∨ n = 11 ∨ n = 12 ∨ n = 13 ∨ n = 14 := by omega
  rcases this with rfl | rfl | rfl | rfl | rfl | rfl | rfl | rfl | rfl | rfl | rfl | rfl | rfl
  all_goals
    simp [okO, formsR, stepRows, trS] at hk
    simp [wordsO, wordO, wordR, numO, okN, formsR, stepRows, trS, place, Op.getN, most]
  all_goals grind
theorem line_errO (o : Op) : line o = if errO o = 0 then (lineR o, 0) else ([], errO o) := by
  unfold line errO
  by_cases h : o.kind < 1 ∨ 15 ≤ o.kind
  · rw [if_pos h, if_pos h]; rfl
  · rw [if_neg h, if_neg h]
    have e : (o.kind.toNat : Int) = o.kind := by omega
    rw [spare_okO o o.kind.toNat (by omega) (by omega) e.symm]
    by_cases hk : okO o.kind.toNat (formsR.getD o.kind.toNat []) o = false
    · rw [hk, if_pos (by rfl), if_pos rfl]; rfl
    · rw [if_neg (by simpa using hk), if_neg hk]
      simp only
      have hk2 : okO o.kind.toNat (formsR.getD o.kind.toNat []) o = true := by simpa using hk
      have hw := written_errC o.call
      have hw2 : (written o.call).2 = errC o.call := by
        rw [hw]
        by_cases q : errC o.call = 0
        · rw [if_pos q, q]
        · rw [if_neg q]
      rw [hw2]
      by_cases h1 : o.kind = 1
      · by_cases h2 : errC o.call = 0
        · have hno : ¬ (o.kind = 1 ∧ errC o.call ≠ 0) := fun q => q.2 h2
          rw [if_neg hno, if_neg hno, if_pos h1]
          have hc : (written o.call).1 = textC o.call := by rw [hw, if_pos h2]
          rw [hc, h1]
          rw [h1] at hk2
          simp [okO, formsR, stepRows, trS] at hk2
          unfold lineR
          rw [if_pos h1]
          by_cases ha : o.a < 0 ∨ 1073741824 < o.a
          · have hb : ¬ (0 ≤ o.a ∧ o.a ≤ 1073741824) := by omega
            simp [wordsO, wordO, numO, okN, formsR, stepRows, trS, place, Op.getN, most, hk2, ha, hb]
          · have hb : 0 ≤ o.a ∧ o.a ≤ 1073741824 := by omega
            simp [wordsO, wordO, numO, okN, formsR, stepRows, trS, place, Op.getN, most, hk2, join, ha, hb]
        · have hyes : o.kind = 1 ∧ errC o.call ≠ 0 := ⟨h1, h2⟩
          rw [if_pos hyes, if_pos hyes, if_neg h2]
      · have hno : ¬ (o.kind = 1 ∧ errC o.call ≠ 0) := fun q => h1 q.1
        rw [if_neg hno, if_neg hno, if_neg h1, words_numO o o.kind.toNat (by omega) (by omega) e.symm hk2]
        cases hn : numO (formsR.getD o.kind.toNat []) o with
        | true =>
          have e1 : (if true = false then 213 else 0 : Nat) = 0 := rfl
          rw [if_pos rfl, e1, if_pos rfl]
          unfold lineR
          rw [if_neg h1]
        | false => rfl
end Sp
end Go.Proofs.YthnhfddlmkhgkaaGreatDoor

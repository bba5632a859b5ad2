/- Plain Lean: a call that is to be written, as the document tells it. -/
import Derived.Test.YthnhfddlmkhgkaaGreatDoorZRefAll
set_option linter.unusedVariables false
namespace Go.Proofs.YthnhfddlmkhgkaaGreatDoor
namespace Sp
/-- has the call no field that its letters do not tell? -/
def okC (f : Bs) (c : Call) : Bool :=
  (f.contains 112 || decide (c.path = [])) && ((f.contains 110 || decide (c.name = [])) && ((f.contains 109 || decide (c.name2 = [])) && ((f.contains 100 || decide (c.data = [])) &&
  ((f.contains 104 || decide (c.h = 0)) && ((f.contains 103 || decide (c.h2 = 0)) && ((f.contains 111 || decide (c.off = 0)) && (f.contains 108 || decide (c.len = 0))))))))
theorem okC_iff (c : Call) (n : Nat) (h0 : 0 < n) (h : n < 11) (ho : c.op = n) : okC (cformsR.getD n []) c = decide (c = bareC c (callRows.getD n ([], [])).2 { op := (n : Int) }) := by
  obtain ⟨op, h1, h2, off, len, path, name, name2, data⟩ := c
  simp only at ho
  subst ho
  have : n = 1 ∨ n = 2 ∨ n = 3 ∨ n = 4 ∨ n = 5 ∨ n = 6 ∨ n = 7 ∨ n = 8 ∨ n = 9 ∨ n = 10 := by omega
  rw [Bool.eq_iff_iff, decide_eq_true_iff]
  rcases this with rfl | rfl | rfl | rfl | rfl | rfl | rfl | rfl | rfl | rfl
  all_goals
    simp [okC, cformsR, callRows, trC, bareC, cell, Call.setN, Call.setT, Call.getN, Call.getT]
  all_goals grind
/-- what is amiss with a call that is to be written -/
def errC (c : Call) : Nat :=
  if c.op < 1 ∨ 11 ≤ c.op then 212 else if okC (cformsR.getD c.op.toNat []) c = false then 218 else if small c = false then 213 else 0
/-- a right call's text -/
def textC (c : Call) : Bs := join ((callRows.getD c.op.toNat ([], [])).1 :: (callRows.getD c.op.toNat ([], [])).2.map (wordC c))
theorem written_errC (c : Call) : written c = if errC c = 0 then (textC c, 0) else ([], errC c) := by
  unfold written errC textC
  by_cases h : c.op < 1 ∨ 11 ≤ c.op
  · rw [if_pos h, if_pos h]; rfl
  · rw [if_neg h, if_neg h]
    have e : (c.op.toNat : Int) = c.op := by omega
    have hk := okC_iff c c.op.toNat (by omega) (by omega) e.symm
    rw [e] at hk
    simp only
    rw [hk]
    by_cases h2 : c = bareC c (callRows.getD c.op.toNat ([], [])).2 { op := c.op }
    · rw [if_neg (fun q => q h2), decide_eq_true h2]
      cases h3 : small c <;> simp
    · rw [if_pos h2, decide_eq_false h2, if_pos rfl]; rfl
theorem join_snoc (a : Bs) (l : List Bs) (x : Bs) : join (a :: (l ++ [x])) = join (a :: l) ++ 32 :: x := by
  induction l generalizing a with
  | nil => rfl
  | cons b l ih =>
    have h := ih b
    show a ++ 32 :: join (b :: (l ++ [x])) = (a ++ 32 :: join (b :: l)) ++ 32 :: x
    rw [h, List.append_assoc, List.cons_append]
theorem text_bare (w : Bs) : text w = if w ≠ [] ∧ w.all isBare = true then w else 34 :: w.flatMap quo ++ [34] := by
  unfold text
  have e : run w = w.length ↔ w.all isBare = true := by
    constructor
    · intro h
      unfold run at h
      rw [List.all_eq_true]
      have h2 : w.takeWhile isBare = w := (List.takeWhile_sublist _).eq_of_length h
      intro x hx
      have key : ∀ (l : Bs) (y : UInt8), y ∈ l.takeWhile isBare → isBare y = true := by
        intro l
        induction l with
        | nil => intro y hy; simp at hy
        | cons a l ih =>
          intro y hy
          rw [List.takeWhile_cons] at hy
          split at hy
          · rename_i ha
            rcases List.mem_cons.1 hy with rfl | hy
            · exact ha
            · exact ih y hy
          · simp at hy
      rw [← h2] at hx
      exact key w x hx
    · intro h
      exact run_all (fun b hb => List.all_eq_true.1 h b hb)
  by_cases h : w ≠ [] ∧ run w = w.length
  · rw [if_pos h, if_pos ⟨h.1, e.1 h.2⟩]
  · rw [if_neg h, if_neg (fun q => h ⟨q.1, e.2 q.2⟩)]
end Sp
end Go.Proofs.YthnhfddlmkhgkaaGreatDoor

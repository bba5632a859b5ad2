/- Plain Lean: a play's lines, as the document writes them. -/
import Derived.Test.YthnhfddlmkhgkaaGreatDoorZLawK
import Derived.Test.YthnhfddlmkhgkaaGreatDoorZPrintP
set_option linter.unusedVariables false
namespace Go.Proofs.YthnhfddlmkhgkaaGreatDoor
namespace Sp
theorem errO_kind {o : Op} (h : errO o = 0) : 0 < o.kind ∧ o.kind < 15 ∧ (o.kind = 1 → 0 < o.call.op ∧ o.call.op < 11) := by
  unfold errO at h
  by_cases q : o.kind < 1 ∨ 15 ≤ o.kind
  · rw [if_pos q] at h; cases h
  · rw [if_neg q] at h
    refine ⟨by omega, by omega, fun h1 => ?_⟩
    split at h
    · cases h
    · by_cases he : errC o.call = 0
      · unfold errC at he
        by_cases q2 : o.call.op < 1 ∨ 11 ≤ o.call.op
        · rw [if_pos q2] at he; cases he
        · omega
      · rw [if_pos ⟨h1, he⟩] at h
        exact absurd h he
theorem linesP_firstE : ∀ (os : List Op) (j : Nat) (h : j < os.length), (∀ k (hk : k < os.length), k < j → errO (os[k]'hk) = 0) → errO (os[j]'h) ≠ 0 → (linesP os).1 = some (errO (os[j]'h))
  | o :: r, 0, _, _, he => by
    have hl := line_errO o
    have he0 : errO o ≠ 0 := he
    rw [if_neg he0] at hl
    unfold linesP
    rw [hl, if_pos he0]
    rfl
  | o :: r, j + 1, h, hk, he => by
    have h0 : errO o = 0 := hk 0 (by simp) (by omega)
    have hl := line_errO o
    rw [if_pos h0] at hl
    unfold linesP
    rw [hl, if_neg (fun q => q rfl)]
    exact linesP_firstE r j (by simpa using h) (fun k hk2 hlt => hk (k + 1) (by simpa using hk2) (by omega)) he
theorem linesP_allR : ∀ (os : List Op), (∀ o ∈ os, errO o = 0) → linesP os = (none, os.flatMap fun o => lineR o ++ [10])
  | [], _ => rfl
  | o :: r, h => by
    have h0 := h o List.mem_cons_self
    have hl := line_errO o
    rw [if_pos h0] at hl
    unfold linesP
    rw [hl, if_neg (fun q => q rfl), linesP_allR r (fun x hx => h x (List.mem_cons_of_mem _ hx))]
    simp
theorem print_firstE {p : Play} (hn : numsOk p.nums = true) (hl : p.ops.length ≤ 2000) (j : Nat) (h : j < p.ops.length) (hk : ∀ k (hk : k < p.ops.length), k < j → errO (p.ops[k]'hk) = 0) (he : errO (p.ops[j]'h) ≠ 0) : print p = ([], errO (p.ops[j]'h)) := by
  have hb := linesP_firstE p.ops j h hk he
  unfold print
  rw [if_neg (by rw [hn]; simp), if_neg (by omega)]
  cases hq : linesP p.ops with
  | mk a b =>
    rw [hq] at hb
    simp only at hb
    subst hb
    rfl
theorem print_allR {p : Play} (hn : numsOk p.nums = true) (hl : p.ops.length ≤ 2000) (hk : ∀ o ∈ p.ops, errO o = 0) :
    print p = if 1048576 < (headLine p.nums ++ p.ops.flatMap fun o => lineR o ++ [10]).length then ([], 216) else (headLine p.nums ++ p.ops.flatMap (fun o => lineR o ++ [10]), 0) := by
  unfold print
  rw [if_neg (by rw [hn]; simp), if_neg (by omega), linesP_allR p.ops hk]
end Sp
end Go.Proofs.YthnhfddlmkhgkaaGreatDoor

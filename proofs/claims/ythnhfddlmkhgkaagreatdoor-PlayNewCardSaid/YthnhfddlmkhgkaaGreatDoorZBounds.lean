/- Walks: what some functions of the play package and its laws compute, as contracts. -/
import Derived.Test.YthnhfddlmkhgkaaGreatDoorZPrintQ
set_option linter.unusedVariables false
namespace Go.Proofs.YthnhfddlmkhgkaaGreatDoor
open Go.RowKit Go.Proofs.YthnhfddlmkhgkaaGreatDoorW.PrintWords

theorem num_i64 {w : Sp.Bs} {x : Int} (h : Sp.number w = some x) : i64 x := by
  obtain ⟨h1, h2, _⟩ := Sp.number_some h
  unfold Sp.most at h2
  exact ⟨by omega, by omega⟩
theorem zero_i64 : i64 0 := ⟨by omega, by omega⟩
theorem callB_zero (op : Int) : CallB { op := op } := ⟨zero_i64, zero_i64, zero_i64, zero_i64, by simp, by simp, by simp, by simp⟩
theorem callB_nil : CallB {} := callB_zero 0
theorem CallB.setN {c : Sp.Call} (h : CallB c) (k : Nat) {x : Int} (hx : i64 x) : CallB (c.setN k x) := by
  obtain ⟨h1, h2, h3, h4, h5, h6, h7, h8⟩ := h
  unfold Sp.Call.setN
  repeat' split
  all_goals constructor <;> assumption
theorem CallB.setT {c : Sp.Call} (h : CallB c) (l : UInt8) {s : Sp.Bs} (hs : s.length ≤ 1048576) : CallB (c.setT l s) := by
  obtain ⟨h1, h2, h3, h4, h5, h6, h7, h8⟩ := h
  unfold Sp.Call.setT
  repeat' split
  all_goals constructor <;> assumption
theorem fillCall_B : ∀ (ls : Sp.Bs) (ws : List Sp.Bs) (c0 c : Sp.Call), CallB c0 → (∀ x ∈ ws, x.length ≤ 1048576) → Sp.fillCall ls ws c0 = some c → CallB c := by
  intro ls
  induction ls with
  | nil => intro ws c0 c h0 hw h; simp only [Sp.fillCall] at h; injection h with h; subst h; exact h0
  | cons l ls ih =>
    intro ws c0 c h0 hw h
    cases ws with
    | nil => simp only [Sp.fillCall] at h; injection h with h; subst h; exact h0
    | cons w ws =>
      have hw2 : ∀ x ∈ ws, x.length ≤ 1048576 := fun x hx => hw x (List.mem_cons_of_mem _ hx)
      simp only [Sp.fillCall] at h
      cases hk : Sp.cell l with
      | some k =>
        rw [hk] at h
        simp only at h
        cases hn : Sp.number w with
        | none => rw [hn] at h; cases h
        | some x => rw [hn] at h; exact ih ws _ c (h0.setN k (num_i64 hn)) hw2 h
      | none =>
        rw [hk] at h
        exact ih ws _ c (h0.setT l (hw w List.mem_cons_self)) hw2 h
theorem call_B (op : Nat) {ws : List Sp.Bs} (hw : ∀ x ∈ ws, x.length ≤ 1048576) : CallB (Sp.call op ws).1 := by
  unfold Sp.call
  cases hf : Sp.fillCall (Sp.callRows.getD op ([], [])).2 (ws.drop 1) { op := op } with
  | none => exact callB_nil
  | some c => exact fillCall_B _ _ _ _ (callB_zero _) (fun x hx => hw x (List.mem_of_mem_drop hx)) hf
theorem hex_len : ∀ (n : Nat) (w d : Sp.Bs), w.length ≤ n → Sp.hex w = some d → d.length ≤ w.length := by
  intro n
  induction n with
  | zero => intro w d hn h; obtain rfl : w = [] := List.eq_nil_of_length_eq_zero (by omega); simp only [Sp.hex] at h; injection h with h; subst h; simp
  | succ n ih =>
    intro w d hn h
    match w, h with
    | [], h => simp only [Sp.hex] at h; injection h with h; subst h; simp
    | [_], h => cases h
    | a :: b :: r, h =>
      simp only [Sp.hex] at h
      split at h
      · cases hr : Sp.hex r with
        | none => rw [hr] at h; cases h
        | some d2 =>
          rw [hr] at h
          simp only [Option.map_some] at h
          injection h with h
          subst h
          have := ih r d2 (by simp only [List.length_cons] at hn; omega) hr
          simp only [List.length_cons]
          omega
      · cases h
theorem flags_len : ∀ (w : Sp.Bs) (l : List Bool), Sp.flags w = some l → l.length ≤ w.length := by
  intro w
  induction w with
  | nil => intro l h; simp only [Sp.flags] at h; injection h with h; subst h; simp
  | cons c w ih =>
    intro l h
    simp only [Sp.flags] at h
    split at h
    · cases hr : Sp.flags w with
      | none => rw [hr] at h; cases h
      | some l2 =>
        rw [hr] at h
        simp only [Option.map_some] at h
        injection h with h
        subst h
        have := ih l2 hr
        simp only [List.length_cons]
        omega
    · cases h
theorem opB_zero {kind : Int} (hk : i64 kind) : OpB { kind := kind } := ⟨hk, zero_i64, zero_i64, zero_i64, zero_i64, callB_nil, by simp, by simp⟩
theorem opB_nil : OpB {} := opB_zero zero_i64
theorem OpB.setN {o : Sp.Op} (h : OpB o) (k : Nat) {x : Int} (hx : i64 x) : OpB (o.setN k x) := by
  obtain ⟨h1, h2, h3, h4, h5, h6, h7, h8⟩ := h
  unfold Sp.Op.setN
  repeat' split
  all_goals constructor <;> assumption
theorem fillStep_B (op : Nat) : ∀ (ls : Sp.Bs) (ws : List Sp.Bs) (o : Sp.Op) (late : Nat), OpB o → (∀ x ∈ ws, x.length ≤ 1048576) → OpB (Sp.fillStep op ls ws o late).1 := by
  intro ls
  induction ls with
  | nil =>
    intro ws o late h0 hw
    simp only [Sp.fillStep]
    split
    · exact opB_nil
    · exact h0
  | cons l ls ih =>
    intro ws o late h0 hw
    cases ws with
    | nil =>
      simp only [Sp.fillStep]
      split
      · exact opB_nil
      · exact h0
    | cons w ws =>
      have hw2 : ∀ x ∈ ws, x.length ≤ 1048576 := fun x hx => hw x (List.mem_cons_of_mem _ hx)
      have hw0 := hw w List.mem_cons_self
      have h00 := h0
      obtain ⟨h1, h2, h3, h4, h5, h6, h7, h8⟩ := h0
      unfold Sp.fillStep
      split
      · split
        · exact ih ws _ late (by constructor <;> first | assumption | exact call_B op hw) hw2
        · exact opB_nil
      · split
        · split
          · rename_i d hd
            exact ih ws _ late (by constructor <;> first | assumption | (have := hex_len _ _ _ (Nat.le_refl _) hd; simp only; omega)) hw2
          · exact ih ws _ 217 (by constructor <;> first | assumption | simp) hw2
        · split
          · split
            · rename_i d hd
              exact ih ws _ late (by constructor <;> first | assumption | (have := flags_len _ _ hd; simp only; omega)) hw2
            · exact opB_nil
          · split
            · rename_i x hx
              refine ih ws _ late (h00.setN _ ?_) hw2
              split at hx
              · injection hx with hx; subst hx; exact ⟨by omega, by omega⟩
              · exact num_i64 hx
            · exact opB_nil
theorem step_B {ws : List Sp.Bs} (hw : ∀ x ∈ ws, x.length ≤ 1048576) : OpB (Sp.step ws).1 := by
  have hd : ∀ x ∈ ws.drop 1, x.length ≤ 1048576 := fun x hx => hw x (List.mem_of_mem_drop hx)
  unfold Sp.step
  simp only
  split
  · exact opB_nil
  · rename_i h1
    have hk : i64 ((Sp.findRow Sp.stepRows (ws.getD 0 []) : Nat) : Int) := by
      have := (Sp.find_lt h1).1
      have h15 : Sp.stepRows.length = 15 := rfl
      exact ⟨by omega, by omega⟩
    split
    · split
      · exact opB_nil
      · split
        · exact opB_nil
        · exact fillStep_B _ _ _ _ _ (opB_zero hk) hd
    · split
      · exact opB_nil
      · exact fillStep_B _ _ _ _ _ (opB_zero hk) hd
theorem fillWorld_B : ∀ (ws : List Sp.Bs) (l : List Int), Sp.fillWorld ws = some l → ∀ x ∈ l, i64 x := by
  intro ws
  induction ws with
  | nil => intro l h x hx; simp only [Sp.fillWorld] at h; injection h with h; subst h; simp at hx
  | cons w ws ih =>
    intro l h x hx
    simp only [Sp.fillWorld] at h
    cases hn : Sp.number w with
    | none => rw [hn] at h; cases h
    | some y =>
      rw [hn] at h
      simp only at h
      cases hf : Sp.fillWorld ws with
      | none => rw [hf] at h; cases h
      | some l2 =>
        rw [hf] at h
        simp only [Option.map_some] at h
        injection h with h
        subst h
        rcases List.mem_cons.1 hx with rfl | hx
        · exact num_i64 hn
        · exact ih l2 hf x hx
theorem playB_nil : PlayB {} := ⟨fun x hx => by simp at hx; subst hx; exact zero_i64, by simp⟩
theorem lineOf_B {t : Sp.Bs} {b : Bool} {p : Sp.Play} (ht : t.length ≤ 1048576) (hp : PlayB p ∧ p.ops.length ≤ 2000) : PlayB (Sp.lineOf t b p).1 ∧ (Sp.lineOf t b p).1.ops.length ≤ 2000 := by
  unfold Sp.lineOf
  split
  · exact hp
  · exact hp
  · rename_i ws hne hs
    have hw : ∀ x ∈ ws, x.length ≤ 1048576 := fun x hx => by
      have := (Sp.split_len _ t (Nat.le_refl _) ws hs).1 x hx
      omega
    split
    · unfold Sp.world
      split
      · exact ⟨playB_nil, by simp⟩
      · split
        · exact ⟨playB_nil, by simp⟩
        · split
          · rename_i l hl
            exact ⟨⟨fillWorld_B _ _ hl, by simp⟩, by simp⟩
          · exact ⟨playB_nil, by simp⟩
    · split
      · exact hp
      · refine ⟨⟨hp.1.nums, fun o ho => ?_⟩, ?_⟩
        · rcases List.mem_append.1 ho with ho | ho
          · exact hp.1.ops o ho
          · rw [List.mem_singleton.1 ho]; exact step_B hw
        · have := hp.2
          simp only [List.length_append, List.length_cons, List.length_nil]
          omega
theorem line1_le (t : Sp.Bs) : (Sp.line1 t).length ≤ t.length := (List.takeWhile_sublist _).length_le
theorem lines_B (k : Nat) : ∀ (t : Sp.Bs) (n : Nat) (b : Bool) (p : Sp.Play), t.length ≤ k → t.length ≤ 1048576 → PlayB p ∧ p.ops.length ≤ 2000 → PlayB (Sp.lines t n b p).1 ∧ (Sp.lines t n b p).1.ops.length ≤ 2000 := by
  induction k with
  | zero =>
    intro t n b p ht hm hp
    obtain rfl : t = [] := List.eq_nil_of_length_eq_zero (by omega)
    rw [Sp.lines_nil]
    cases b
    · exact ⟨playB_nil, by simp⟩
    · exact hp
  | succ k ih =>
    intro t n b p ht hm hp
    by_cases he : t = []
    · subst he
      rw [Sp.lines_nil]
      cases b
      · exact ⟨playB_nil, by simp⟩
      · exact hp
    · rw [Sp.lines_cons he]
      split
      · exact ⟨playB_nil, by simp⟩
      · have hl : (Sp.rest1 t).length < t.length := by
          cases t with
          | nil => exact absurd rfl he
          | cons c r => exact Sp.rest1_len c r
        exact ih _ _ _ _ (by omega) (by omega) (lineOf_B (by have := line1_le t; omega) hp)
/-- what is read is small -/
theorem parse_B (t : Sp.Bs) : PlayB (Sp.parse t).1 ∧ (Sp.parse t).1.ops.length ≤ 2000 := by
  unfold Sp.parse
  split
  · exact ⟨playB_nil, by simp⟩
  · exact lines_B _ t 1 false {} (Nat.le_refl _) (by omega) ⟨playB_nil, by simp⟩
/-- a play that is read, as a value -/
theorem playV_of {w : World} {base : Nat} {v : Value} {p : Sp.Play} (h : OpsRow w base v p.ops) (h11 : p.nums.length = 11) (hb : PlayB p) (hl : p.ops.length ≤ 2000) : PlayV w p v := by
  obtain ⟨A, c, e, _, r⟩ := h.reads
  exact ⟨h11, A, c, e, r, by omega, fun o ho => ⟨by have := (hb.ops o ho).data; omega, by have := (hb.ops o ho).keep; omega, by have := (hb.ops o ho).call.data; omega⟩⟩
theorem PlayV.below {w w1 : World} {p : Sp.Play} {v : Value} (h : PlayV w p v) (hb : Below w.heap.size w w1) : PlayV w1 p v := by
  obtain ⟨h1, A, k, e, r, h2⟩ := h
  exact ⟨h1, A, k, e, r.below hb, h2⟩
end Go.Proofs.YthnhfddlmkhgkaaGreatDoor

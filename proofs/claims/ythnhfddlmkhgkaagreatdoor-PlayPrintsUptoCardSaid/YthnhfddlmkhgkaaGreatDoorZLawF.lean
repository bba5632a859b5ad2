/- Walks: what some functions of the play package and its laws compute, as contracts. -/
import Derived.Test.YthnhfddlmkhgkaaGreatDoorZLawAll
import Derived.Test.YthnhfddlmkhgkaaGreatDoorZJoinC
set_option linter.unusedVariables false
namespace Go.Proofs.YthnhfddlmkhgkaaGreatDoor
namespace Sp

/-- the ten calls -/
def calls (h g off len : Int) (path name name2 data : Bs) : List Call :=
  [{ op := 1, path := path }, { op := 2, h := h }, { op := 3, h := h, off := off, len := len }, { op := 4, h := h, off := off, data := data }, { op := 5, h := h, name := name },
    { op := 6, h := h, name := name2 }, { op := 7, h := g, name := name }, { op := 8, h := g, name := name2 }, { op := 9, h := h, name := name, h2 := g, name2 := name2 }, { op := 10, h := h, name := name, len := len }]
def lead (t : Bs) : Bs := [32, 9] ++ t ++ [9, 32, 35, 32, 115, 111]
theorem written_ok {c : Call} (h1 : 1 ≤ c.op) (h2 : c.op < 11) (hb : c = bareC c (callRows.getD c.op.toNat ([], [])).2 { op := c.op }) (hs : small c = true) :
    written c = (join ((callRows.getD c.op.toNat ([], [])).1 :: (callRows.getD c.op.toNat ([], [])).2.map (wordC c)), 0) := by
  unfold written
  rw [if_neg (by omega)]
  show (if c ≠ bareC c (callRows.getD c.op.toNat ([], [])).2 { op := c.op } then _ else if small c = false then _ else _) = _
  rw [if_neg (fun h => h hb), if_neg (by rw [hs]; decide)]
theorem split_tail : split [9, 32, 35, 32, 115, 111] = some [] := by
  rw [split_cons (c := 35) (r := [32, 115, 111]) (by decide)]
  rfl
theorem call_back {c : Call} (hw : (written c).2 = 0) (hl : (written c).1.length + 8 ≤ 1048576) :
    printCall c = ((written c).1, 0) ∧ (written c).1 ≠ [] ∧ (∀ b ∈ (written c).1, 32 ≤ b.toNat ∧ b.toNat ≤ 126) ∧ parseCall (lead (written c).1) = (c, 0) := by
  obtain ⟨Ws, ws, e1, h2, h3, h4, h5⟩ := written_back hw
  refine ⟨?_, ?_, ?_, ?_⟩
  · unfold printCall
    rw [if_neg (by omega), ← hw]
  · rw [e1]
    intro e
    have hlen := h2.len
    match Ws, hlen with
    | [], hlen => simp at hlen; omega
    | W :: Ws, _ =>
      cases h2 with
      | cons h _ =>
        rw [join_cons] at e
        exact h.ne (List.append_eq_nil_iff.1 e).1
  · rw [e1]; exact h2.plain
  · have hs : split (lead (written c).1) = some ws := by
      unfold lead
      rw [e1, List.append_assoc]
      rw [show [32, 9] ++ (join Ws ++ [9, 32, 35, 32, 115, 111]) = 32 :: 9 :: (join Ws ++ [9, 32, 35, 32, 115, 111]) from rfl]
      rw [split_blank (by decide), split_blank (by decide), split_join h2 _ (by decide), split_tail]
      simp
    unfold parseCall
    rw [if_neg (by unfold lead; simp only [List.length_append, List.length_cons, List.length_nil]; omega), hs]
    have hn : 10 ∉ lead (written c).1 := by
      intro h
      unfold lead at h
      rw [e1] at h
      simp only [List.mem_append] at h
      rcases h with (h | h) | h
      · exact absurd h (by decide)
      · exact absurd (h2.plain 10 h) (by decide)
      · exact absurd h (by decide)
    show (if 10 ∈ lead (written c).1 then _ else _) = _
    rw [if_neg hn, h4, if_neg (by simp)]
    exact h5
theorem num_len {c : Call} (hs : small c = true) {l : UInt8} {k : Nat} (h : cell l = some k) : (wordC c l).length ≤ 21 := by
  have hk := small_getN hs k
  have hm : most = 1073741824 := rfl
  unfold wordC
  rw [h]
  exact Lib.itoa_length_le (c.getN k) (by omega) (by omega)
theorem txt_len {c : Call} {l : UInt8} (h : cell l = none) (hl : (c.getT l).length ≤ 65536) : (wordC c l).length ≤ 262146 := by
  unfold wordC
  rw [h]
  have := text_len (c.getT l)
  show (text (c.getT l)).length ≤ _
  omega
theorem words_len {c : Call} (hs : small c = true) (ht : ∀ l, (c.getT l).length ≤ 65536) : ∀ ls : Bs, ((ls.map (wordC c)).flatMap (32 :: ·)).length ≤ ls.length * 22 + (ls.filter fun l => (cell l).isNone).length * 262147
  | [] => by simp
  | l :: ls => by
    have ih := words_len hs ht ls
    simp only [List.map_cons, List.flatMap_cons, List.length_append, List.length_cons]
    cases h : cell l with
    | some k =>
      have := num_len hs h
      have e : ((l :: ls).filter fun l => (cell l).isNone) = ls.filter fun l => (cell l).isNone := by simp [h]
      rw [e]
      omega
    | none =>
      have := txt_len h (ht l)
      have e : ((l :: ls).filter fun l => (cell l).isNone) = l :: ls.filter fun l => (cell l).isNone := by simp [h]
      rw [e, List.length_cons]
      omega
theorem getT_len {c : Call} (l1 : c.path.length ≤ 65536) (l2 : c.name.length ≤ 65536) (l3 : c.name2.length ≤ 65536) (l4 : c.data.length ≤ 65536) (l : UInt8) : (c.getT l).length ≤ 65536 := by
  unfold Call.getT
  repeat' split
  all_goals assumption
theorem row_small : ∀ j, j < 11 → (callRows.getD j ([], [])).1.length ≤ 10 ∧ (callRows.getD j ([], [])).2.length ≤ 4 ∧ ((callRows.getD j ([], [])).2.filter fun l => (cell l).isNone).length ≤ 2 := by decide
theorem call_fine {c : Call} (h1 : 1 ≤ c.op ∧ c.op < 11) (h3 : c = bareC c (callRows.getD c.op.toNat ([], [])).2 { op := c.op }) (hs : small c = true)
    (l1 : c.path.length ≤ 65536) (l2 : c.name.length ≤ 65536) (l3 : c.name2.length ≤ 65536) (l4 : c.data.length ≤ 65536) : (written c).2 = 0 ∧ (written c).1.length + 8 ≤ 1048576 := by
  rw [written_ok h1.1 h1.2 h3 hs]
  refine ⟨rfl, ?_⟩
  obtain ⟨r1, r2, r3⟩ := row_small c.op.toNat (by omega)
  have := words_len hs (getT_len l1 l2 l3 l4) (callRows.getD c.op.toNat ([], [])).2
  show (join _).length + 8 ≤ _
  rw [join_cons, List.length_append]
  omega
theorem calls_fine {h g off len : Int} {path name name2 data : Bs} (b1 : 0 ≤ h ∧ h ≤ 1073741824) (b2 : 0 ≤ g ∧ g ≤ 1073741824) (b3 : 0 ≤ off ∧ off ≤ 1073741824) (b4 : 0 ≤ len ∧ len ≤ 1073741824)
    (l1 : path.length ≤ 65536) (l2 : name.length ≤ 65536) (l3 : name2.length ≤ 65536) (l4 : data.length ≤ 65536) : ∀ c ∈ calls h g off len path name name2 data,
    (written c).2 = 0 ∧ (written c).1.length + 8 ≤ 1048576 := by
  have hm : most = 1073741824 := rfl
  intro c hc
  simp only [calls, List.mem_cons, List.not_mem_nil, or_false] at hc
  rcases hc with rfl | rfl | rfl | rfl | rfl | rfl | rfl | rfl | rfl | rfl
  all_goals exact call_fine ⟨by simp, by simp⟩ (by rfl) (by simp [small, hm]; try omega) (by simp; try omega) (by simp; try omega) (by simp; try omega) (by simp; try omega)
theorem calls_back {h g off len : Int} {path name name2 data : Bs} (b1 : 0 ≤ h ∧ h ≤ 1073741824) (b2 : 0 ≤ g ∧ g ≤ 1073741824) (b3 : 0 ≤ off ∧ off ≤ 1073741824) (b4 : 0 ≤ len ∧ len ≤ 1073741824)
    (l1 : path.length ≤ 65536) (l2 : name.length ≤ 65536) (l3 : name2.length ≤ 65536) (l4 : data.length ≤ 65536) : ∀ c ∈ calls h g off len path name name2 data,
    ∃ t, printCall c = (t, 0) ∧ t ≠ [] ∧ t.length + 8 ≤ 1048576 ∧ (∀ b ∈ t, 32 ≤ b.toNat ∧ b.toNat ≤ 126) ∧ parseCall (lead t) = (c, 0) := by
  intro c hc
  obtain ⟨hw, hl⟩ := calls_fine b1 b2 b3 b4 l1 l2 l3 l4 c hc
  obtain ⟨q1, q2, q3, q4⟩ := call_back hw hl
  exact ⟨_, q1, q2, hl, q3, q4⟩
end Sp
end Go.Proofs.YthnhfddlmkhgkaaGreatDoor

/- Plain Lean: a play of three steps, one of each kind of list. -/
import Derived.Test.YthnhfddlmkhgkaaGreatDoorZLawF
import Derived.Test.YthnhfddlmkhgkaaGreatDoorZLawAll
set_option linter.unusedVariables false
namespace Go.Proofs.YthnhfddlmkhgkaaGreatDoor
namespace Sp
def spotC (l : Bs) : Call := { op := 4, h := 1, data := l }
def spot1 (l : Bs) : Op := { kind := 1, call := spotC l }
def spot2 (l : Bs) : Op := { kind := 9, a := -1, data := l }
def spot3 (K : List Bool) : Op := { kind := 11, keep := K }
def spot (l : Bs) (K : List Bool) : Play := { ops := [spot1 l, spot2 l, spot3 K] }
theorem spot_written {l : Bs} (h : l.length ≤ 65536) : (written (spotC l)).2 = 0 ∧ (written (spotC l)).1.length ≤ 262400 := by
  have hm : most = 1073741824 := rfl
  have h1 : 1 ≤ (spotC l).op ∧ (spotC l).op < 11 := ⟨by simp [spotC], by simp [spotC]⟩
  have hs : small (spotC l) = true := by simp [small, spotC, hm]
  have h3 : spotC l = bareC (spotC l) (callRows.getD (spotC l).op.toNat ([], [])).2 { op := (spotC l).op } := rfl
  rw [written_ok h1.1 h1.2 h3 hs]
  refine ⟨rfl, ?_⟩
  have := words_len hs (getT_len (by simp [spotC]) (by simp [spotC]) (by simp [spotC]) (by simpa [spotC] using h)) (callRows.getD (spotC l).op.toNat ([], [])).2
  show (join _).length ≤ _
  rw [join_cons, List.length_append]
  have e1 : (callRows.getD (spotC l).op.toNat ([], [])).2 = [104, 111, 100] := rfl
  have e2 : (callRows.getD (spotC l).op.toNat ([], [])).1.length = 5 := rfl
  have e3 : (([104, 111, 100] : Bs).filter fun l => (cell l).isNone).length = 1 := by decide
  rw [e1, e3] at this
  rw [e2, e1]
  simp only [List.length_cons, List.length_nil] at this
  omega
theorem call_back0 {c : Call} (hw : (written c).2 = 0) (hl : (written c).1.length ≤ 1048576) :
    printCall c = ((written c).1, 0) ∧ (written c).1 ≠ [] ∧ parseCall (written c).1 = (c, 0) := by
  obtain ⟨Ws, ws, e1, h2, h3, h4, h5⟩ := written_back hw
  refine ⟨?_, ?_, ?_⟩
  · unfold printCall
    rw [if_neg (by omega), ← hw]
  · rw [e1]
    intro e
    have hlen := h2.len
    match Ws, hlen with
    | [], hlen => simp at hlen; omega
    | W :: Ws, _ =>
      cases h2 with
      | cons h _ =>
        rw [join_cons] at e
        exact h.ne (List.append_eq_nil_iff.1 e).1
  · have hs : split (written c).1 = some ws := by rw [e1]; exact split_ws h2
    have hn : 10 ∉ (written c).1 := by rw [e1]; exact plain_nl h2.plain
    unfold parseCall
    rw [if_neg (by omega), hs]
    show (if 10 ∈ (written c).1 then _ else _) = _
    rw [if_neg hn, h4, if_neg (by simp)]
    exact h5
theorem spotC_back {l : Bs} (h : l.length ≤ 65536) : ∃ t, printCall (spotC l) = (t, 0) ∧ t ≠ [] ∧ t.length ≤ 262400 ∧ parseCall t = (spotC l, 0) := by
  obtain ⟨h1, h2⟩ := spot_written h
  obtain ⟨q1, q2, q3⟩ := call_back0 h1 (by omega)
  exact ⟨_, q1, q2, h2, q3⟩
theorem hexed_len (d : Bs) : (hexed d).length ≤ 2 * d.length + 2 := by
  unfold hexed
  split
  · simp
  · have : ∀ d : Bs, (d.flatMap two).length = 2 * d.length := by
      intro d
      induction d with
      | nil => rfl
      | cons c d ih => rw [List.flatMap_cons, List.length_append, ih]; simp [two]; omega
    rw [this]; omega
theorem flagged_len (K : List Bool) : (flagged K).length ≤ K.length + 2 := by
  unfold flagged
  split
  · simp
  · simp
theorem line_spot1 {l : Bs} (h : (written (spotC l)).2 = 0) : line (spot1 l) = (join [[99, 97, 108, 108], Lib.itoa 0, (written (spotC l)).1], 0) := by
  unfold line
  rw [if_neg (by simp [spot1])]
  rw [if_neg (by simp [spot1, spare, stepRows])]
  show (if (spot1 l).kind = 1 ∧ (written (spotC l)).2 ≠ 0 then _ else _) = _
  rw [if_neg (fun e => e.2 h)]
  rfl
theorem line_spot2 (l : Bs) : line (spot2 l) = (join [[106, 117, 110, 107], server, hexed l], 0) := by
  unfold line
  rw [if_neg (by simp [spot2])]
  rw [if_neg (by simp [spot2, spare, stepRows])]
  rfl
theorem line_spot3 (K : List Bool) : line (spot3 K) = (join [[99, 114, 97, 115, 104], flagged K], 0) := by
  unfold line
  rw [if_neg (by simp [spot3])]
  rw [if_neg (by simp [spot3, spare, stepRows])]
  rfl
theorem spot_back {l : Bs} {K : List Bool} (hl : l.length ≤ 65536) (hK : K.length ≤ 65536) : ∃ t, print (spot l K) = (t, 0) ∧ t ≠ [] ∧ t.length ≤ 1048576 ∧ parse t = (spot l K, 0, 0) := by
  obtain ⟨h1, h2⟩ := spot_written hl
  have e1 := line_spot1 h1
  have e2 := line_spot2 l
  have e3 := line_spot3 K
  have hlp : linesP (spot l K).ops = (none, (line (spot1 l)).1 ++ 10 :: ((line (spot2 l)).1 ++ 10 :: ((line (spot3 K)).1 ++ 10 :: []))) := by
    show linesP [spot1 l, spot2 l, spot3 K] = _
    simp only [linesP, e1, e2, e3]
    simp
  have hn : numsOk (spot l K).nums = true := by
    show numsOk [0, 0, 0, 0, 0, 0, 0, 0, 0, 0, 0] = true
    decide
  have hh : (headLine (spot l K).nums).length = 28 := by
    show (headLine [0, 0, 0, 0, 0, 0, 0, 0, 0, 0, 0]).length = 28
    decide +kernel
  have hx := hexed_len l
  have hf := flagged_len K
  have hi : (Lib.itoa 0).length = 1 := by decide +kernel
  have hlen : (headLine (spot l K).nums ++ ((line (spot1 l)).1 ++ 10 :: ((line (spot2 l)).1 ++ 10 :: ((line (spot3 K)).1 ++ 10 :: [])))).length ≤ 1048576 := by
    rw [List.length_append, hh, e1, e2, e3]
    simp only [join, List.length_append, List.length_cons, List.length_nil, server]
    omega
  have hp : print (spot l K) = (headLine (spot l K).nums ++ ((line (spot1 l)).1 ++ 10 :: ((line (spot2 l)).1 ++ 10 :: ((line (spot3 K)).1 ++ 10 :: []))), 0) := by
    unfold print
    rw [if_neg (by rw [hn]; simp), if_neg (by simp [spot]), hlp]
    show (if 1048576 < _ then _ else _) = _
    rw [if_neg (by omega)]
  refine ⟨_, hp, ?_, hlen, ?_⟩
  · intro e
    have := congrArg List.length e
    rw [List.length_append, hh] at this
    simp at this
  · have := print_back (p := spot l K) rfl (by rw [hp])
    rwa [hp] at this
end Sp
end Go.Proofs.YthnhfddlmkhgkaaGreatDoor

/- Plain Lean: what the play package computes, on lists of bytes. No program in sight. Plain Lean: numbers as words. Plain Lean: the words of a line. Plain Lean: calls, steps, worlds, plays: read. Plain Lean: calls, steps, plays: written. -/
import Derived.Lib.AtoiAll
import Derived.Lib.ItoaNum
import Derived.Lib.IndexMore
import Derived.Lib.SlTrimSet
set_option linter.unusedVariables false
namespace Go.Proofs.YthnhfddlmkhgkaaGreatDoor
namespace Sp

abbrev Bs := List UInt8

def isBare (c : UInt8) : Bool :=
  (97 ≤ c && c ≤ 122) || (65 ≤ c && c ≤ 90) || (48 ≤ c && c ≤ 57) || c == 95 || c == 46 || c == 45 || c == 47
def isBlank (c : UInt8) : Bool := c == 32 || c == 9

/-- a hexadecimal digit's number; -1: it is none -/
def digit (c : UInt8) : Int :=
  if 48 ≤ c && c ≤ 57 then (c.toNat : Int) - 48
  else if 97 ≤ c && c ≤ 102 then (c.toNat : Int) - 87
  else if 65 ≤ c && c ≤ 70 then (c.toNat : Int) - 55
  else -1

theorem digit_rng (c : UInt8) : -1 ≤ digit c ∧ digit c ≤ 15 := by
  unfold digit
  simp only [Bool.and_eq_true, decide_eq_true_eq, UInt8.le_iff_toNat_le]
  have : (48 : UInt8).toNat = 48 := rfl
  have : (57 : UInt8).toNat = 57 := rfl
  have : (97 : UInt8).toNat = 97 := rfl
  have : (102 : UInt8).toNat = 102 := rfl
  have : (65 : UInt8).toNat = 65 := rfl
  have : (70 : UInt8).toNat = 70 := rfl
  repeat' split
  all_goals omega
/-- two digits' byte -/
def duo (h l : UInt8) : UInt8 := UInt8.ofNat ((digit h).toNat * 16 + (digit l).toNat)

/-- a letter of a quoted word (not its closing mark), and what is left behind it -/
def letter : Bs → Option (UInt8 × Bs)
  | [] => none
  | c :: r =>
    if c < 32 || 126 < c then none
    else if c ≠ 92 then some (c, r)
    else match r with
      | [] => none
      | d :: r1 =>
        if d = 34 || d = 92 then some (d, r1)
        else match r1 with
          | h :: l :: r3 => if d = 120 ∧ 0 ≤ digit h ∧ 0 ≤ digit l then some (duo h l, r3) else none
          | _ => none

theorem letter_len {s t : Bs} {x : UInt8} (h : letter s = some (x, t)) : t.length < s.length := by
  unfold letter at h
  split at h
  · cases h
  · split at h
    · cases h
    · split at h
      · injection h with h; injection h with _ h; subst h; simp
      · split at h
        · cases h
        · split at h
          · injection h with h; injection h with _ h; subst h; simp; omega
          · split at h
            · split at h
              · injection h with h; injection h with _ h; subst h; simp; omega
              · cases h
            · cases h

/-- what stands behind a quotation mark: the word, and what is left behind its closing mark -/
def quoted (s : Bs) : Option (Bs × Bs) :=
  match s with
  | [] => none
  | c :: r =>
    if c = 34 then some ([], r)
    else match h : letter (c :: r) with
      | none => none
      | some (x, t) => (quoted t).map fun p => (x :: p.1, p.2)
termination_by s.length
decreasing_by exact letter_len h

theorem quoted_nil : quoted [] = none := by unfold quoted; rfl
theorem quoted_q (r : Bs) : quoted (34 :: r) = some ([], r) := by unfold quoted; simp
theorem quoted_step {c : UInt8} {r t : Bs} {x : UInt8} (h : c ≠ 34) (hl : letter (c :: r) = some (x, t)) : quoted (c :: r) = (quoted t).map fun p => (x :: p.1, p.2) := by
  conv => lhs; unfold quoted
  rw [if_neg h]
  split
  · rename_i h2; rw [hl] at h2; cases h2
  · rename_i x2 t2 h2; rw [hl] at h2; injection h2 with h2; injection h2 with h3 h4; subst h3 h4; rfl
theorem quoted_bad {c : UInt8} {r : Bs} (h : c ≠ 34) (hl : letter (c :: r) = none) : quoted (c :: r) = none := by
  unfold quoted
  rw [if_neg h]
  split
  · rfl
  · rename_i x2 t2 h2; rw [hl] at h2; cases h2
theorem letter_bad {c : UInt8} {r : Bs} (h2 : c < 32 ∨ 126 < c) : letter (c :: r) = none := by simp only [letter]; rw [if_pos (by simpa using h2)]
theorem letter_plain {c : UInt8} {r : Bs} (h2 : ¬ c < 32) (h3 : ¬ 126 < c) (h4 : c ≠ 92) : letter (c :: r) = some (c, r) := by
  simp only [letter]; rw [if_neg (by simp; exact ⟨UInt8.not_lt.1 h2, UInt8.not_lt.1 h3⟩), if_pos h4]
theorem letter_end : letter [92] = none := by decide
theorem letter_esc {d : UInt8} {r : Bs} (h : d = 34 ∨ d = 92) : letter (92 :: d :: r) = some (d, r) := by
  simp only [letter]; rw [if_neg (by decide), if_neg (by decide), if_pos (by simpa using h)]
theorem letter_hex {h l : UInt8} {r : Bs} (h1 : 0 ≤ digit h) (h2 : 0 ≤ digit l) : letter (92 :: 120 :: h :: l :: r) = some (duo h l, r) := by
  simp only [letter]; rw [if_neg (by decide), if_neg (by decide), if_neg (by decide), if_pos ⟨trivial, h1, h2⟩]
theorem letter_short {d : UInt8} {r : Bs} (h : ¬ (d = 34 ∨ d = 92)) (hr : r.length < 2) : letter (92 :: d :: r) = none := by
  match r, hr with
  | [], _ => simp only [letter]; rw [if_neg (by decide), if_neg (by decide), if_neg (by simpa using h)]
  | [x], _ => simp only [letter]; rw [if_neg (by decide), if_neg (by decide), if_neg (by simpa using h)]
theorem letter_nohex {d h l : UInt8} {r : Bs} (h0 : ¬ (d = 34 ∨ d = 92)) (h1 : ¬ (d = 120 ∧ 0 ≤ digit h ∧ 0 ≤ digit l)) : letter (92 :: d :: h :: l :: r) = none := by
  simp only [letter]; rw [if_neg (by decide), if_neg (by decide), if_neg (by simpa using h0), if_neg h1]

/-- how many bytes at the begin of a text make a bare word -/
def run (s : Bs) : Nat := (s.takeWhile isBare).length

theorem run_stop {p r : Bs} {c : UInt8} (h : ∀ b ∈ p, isBare b = true) (hc : isBare c = false) : run (p ++ c :: r) = p.length := by
  unfold run
  rw [List.takeWhile_append_of_pos h, List.takeWhile_cons, hc]
  simp
theorem run_all {p : Bs} (h : ∀ b ∈ p, isBare b = true) : run p = p.length := by
  unfold run
  have := List.takeWhile_append_of_pos (l₂ := []) h
  simp only [List.append_nil, List.takeWhile_nil] at this
  rw [this]
theorem run_le (s : Bs) : run s ≤ s.length := (List.takeWhile_sublist _).length_le
/-- the bytes that pairs of digits say -/
def hex : Bs → Option Bs
  | [] => some []
  | [_] => none
  | h :: l :: r => if 0 ≤ digit h ∧ 0 ≤ digit l then (hex r).map (duo h l :: ·) else none
/-- a small hexadecimal digit -/
def nib (n : Nat) : UInt8 := if n < 10 then UInt8.ofNat (48 + n) else UInt8.ofNat (87 + n)
def two (c : UInt8) : Bs := [nib (c.toNat / 16), nib (c.toNat % 16)]
def hexed (d : Bs) : Bs := if d = [] then [34, 34] else d.flatMap two
/-- a letter of a quoted word as it is written -/
def quo (c : UInt8) : Bs := if c = 34 ∨ c = 92 then [92, c] else if c < 32 ∨ 126 < c then 92 :: 120 :: two c else [c]
def text (s : Bs) : Bs := if s ≠ [] ∧ run s = s.length then s else 34 :: s.flatMap quo ++ [34]
/-- what a word of 0 and 1 says -/
def flags : Bs → Option (List Bool)
  | [] => some []
  | c :: r => if c = 48 ∨ c = 49 then (flags r).map ((c == 49) :: ·) else none
def flagged (l : List Bool) : Bs := if l = [] then [34, 34] else l.map fun b => if b then 49 else 48
end Sp
end Go.Proofs.YthnhfddlmkhgkaaGreatDoor

set_option linter.unusedVariables false
namespace Go.Proofs.YthnhfddlmkhgkaaGreatDoor
namespace Sp
/-- the number that a word says -/
def number (w : Bs) : Option Int :=
  match Lib.atoiAll w with
  | .ok v => if 0 ≤ v ∧ v ≤ 1073741824 ∧ Lib.itoa v = w then some v else none
  | _ => none
/-- blanks ahead struck -/
def trim (s : Bs) : Bs := s.dropWhile isBlank
theorem trimLeftS_eq (s : Bs) : Lib.trimLeftS s [32, 9] = trim s := by
  unfold Lib.trimLeftS trim
  congr 1
  funext c
  rw [Bool.eq_iff_iff]; simp [isBlank]
end Sp
end Go.Proofs.YthnhfddlmkhgkaaGreatDoor

set_option linter.unusedVariables false
namespace Go.Proofs.YthnhfddlmkhgkaaGreatDoor
namespace Sp
theorem letter_len1 {s t : Bs} {x : UInt8} (h : letter s = some (x, t)) : t.length + 1 ≤ s.length := letter_len h
theorem quoted_len : ∀ (n : Nat) (s : Bs), s.length ≤ n → ∀ w t, quoted s = some (w, t) → w.length + t.length + 1 ≤ s.length := by
  intro n
  induction n with
  | zero =>
    intro s hs w t h
    obtain rfl : s = [] := List.eq_nil_of_length_eq_zero (by omega)
    rw [quoted_nil] at h; cases h
  | succ n ih =>
    intro s hs w t h
    cases s with
    | nil => rw [quoted_nil] at h; cases h
    | cons c r =>
      by_cases hc : c = 34
      · subst hc
        rw [quoted_q] at h
        injection h with h; injection h with h1 h2
        subst h1 h2
        simp
      · cases hl : letter (c :: r) with
        | none => rw [quoted_bad hc hl] at h; cases h
        | some p =>
          obtain ⟨x, u⟩ := p
          rw [quoted_step hc hl] at h
          have hu := letter_len1 hl
          cases hq : quoted u with
          | none => rw [hq] at h; cases h
          | some q =>
            obtain ⟨w2, t2⟩ := q
            rw [hq] at h
            simp only [Option.map_some] at h
            injection h with h; injection h with h1 h2
            subst h1 h2
            have := ih u (by omega) w2 t2 hq
            simp only [List.length_cons] at *
            omega
theorem letter_drop {s t : Bs} {x : UInt8} (h : letter s = some (x, t)) : s.drop (s.length - t.length) = t := by
  have key : ∀ (a b : Bs), a = b → ∀ pre : Bs, (pre ++ b).drop ((pre ++ b).length - b.length) = b := by
    intro a b _ pre
    rw [List.length_append, Nat.add_sub_cancel, List.drop_left]
  unfold letter at h
  split at h
  · cases h
  · rename_i c r
    split at h
    · cases h
    · split at h
      · injection h with h; injection h with _ h; subst h; exact key r r rfl [c]
      · split at h
        · cases h
        · rename_i d r1
          split at h
          · injection h with h; injection h with _ h; subst h; exact key r1 r1 rfl [c, d]
          · split at h
            · rename_i h' l r3
              split at h
              · injection h with h; injection h with _ h; subst h; exact key r3 r3 rfl [c, d, h', l]
              · cases h
            · cases h
theorem drop_drop_len {s t u : Bs} (h1 : s.drop (s.length - t.length) = t) (h2 : t.drop (t.length - u.length) = u) (ht : t.length ≤ s.length) (hu : u.length ≤ t.length) : s.drop (s.length - u.length) = u := by
  conv => rhs; rw [← h2, ← h1, List.drop_drop]
  congr 1
  rw [List.length_drop]
  omega
theorem quoted_drop : ∀ (n : Nat) (s : Bs), s.length ≤ n → ∀ w t, quoted s = some (w, t) → s.drop (s.length - t.length) = t := by
  intro n
  induction n with
  | zero =>
    intro s hs w t h
    obtain rfl : s = [] := List.eq_nil_of_length_eq_zero (by omega)
    rw [quoted_nil] at h; cases h
  | succ n ih =>
    intro s hs w t h
    cases s with
    | nil => rw [quoted_nil] at h; cases h
    | cons c r =>
      by_cases hc : c = 34
      · subst hc
        rw [quoted_q] at h
        injection h with h; injection h with h1 h2
        subst h1 h2
        simp
      · cases hl : letter (c :: r) with
        | none => rw [quoted_bad hc hl] at h; cases h
        | some p =>
          obtain ⟨x, u⟩ := p
          rw [quoted_step hc hl] at h
          have hu := letter_len1 hl
          cases hq : quoted u with
          | none => rw [hq] at h; cases h
          | some q =>
            obtain ⟨w2, t2⟩ := q
            rw [hq] at h
            simp only [Option.map_some] at h
            injection h with h; injection h with h1 h2
            subst h1 h2
            have hlen := quoted_len _ u (Nat.le_refl _) w2 t2 hq
            exact drop_drop_len (letter_drop hl) (ih u (by simp only [List.length_cons] at *; omega) w2 t2 hq) (by omega) (by omega)
/-- a word at a text's begin (which is not blank), and what is left -/
def word (c : UInt8) (r : Bs) : Option (Bs × Bs) :=
  if c = 34 then quoted r else if run (c :: r) = 0 then none else some ((c :: r).take (run (c :: r)), (c :: r).drop (run (c :: r)))
theorem word_len {c : UInt8} {r w t : Bs} (h : word c r = some (w, t)) : w.length + t.length ≤ r.length + 1 ∧ t.length ≤ r.length := by
  unfold word at h
  split at h
  · have := quoted_len _ r (Nat.le_refl _) w t h
    omega
  · have hr := run_le (c :: r)
    split at h
    · cases h
    · injection h with h; injection h with h1 h2
      subst h1 h2
      simp only [List.length_take, List.length_drop, List.length_cons] at *
      omega
/-- does a blank or nothing stand there? -/
def clean : Bs → Bool
  | [] => true
  | c :: _ => isBlank c
theorem trim_len (s : Bs) : (trim s).length ≤ s.length := (List.dropWhile_sublist _).length_le
/-- the words of a line -/
def split (s : Bs) : Option (List Bs) :=
  match h : trim s with
  | [] => some []
  | c :: r =>
    if c = 35 then some []
    else match h2 : word c r with
      | none => none
      | some (w, t) => if clean t then (split t).map (w :: ·) else none
termination_by s.length
decreasing_by
  have := trim_len s
  have := word_len h2
  rw [h] at *
  simp only [List.length_cons] at *
  omega
theorem split_nil {s : Bs} (h : trim s = []) : split s = some [] := by
  unfold split
  split
  · rfl
  · rename_i h2; rw [h] at h2; cases h2
theorem split_cons {s r : Bs} {c : UInt8} (h : trim s = c :: r) : split s = if c = 35 then some [] else (word c r).bind fun p => if clean p.2 then (split p.2).map (p.1 :: ·) else none := by
  conv => lhs; unfold split
  split
  · rename_i h2; rw [h] at h2; cases h2
  · rename_i c2 r2 h2
    rw [h] at h2
    injection h2 with h3 h4
    subst h3 h4
    split
    · rfl
    · split
      · rename_i h5; rw [h5]; rfl
      · rename_i w t h5; rw [h5]; rfl
theorem split_len : ∀ (n : Nat) (s : Bs), s.length ≤ n → ∀ l, split s = some l → (∀ x ∈ l, x.length ≤ s.length) ∧ l.length ≤ s.length := by
  intro n
  induction n with
  | zero =>
    intro s hs l h
    obtain rfl : s = [] := List.eq_nil_of_length_eq_zero (by omega)
    rw [split_nil rfl] at h
    injection h with h; subst h; simp
  | succ n ih =>
    intro s hs l h
    have ht := trim_len s
    cases hq : trim s with
    | nil => rw [split_nil hq] at h; injection h with h; subst h; simp
    | cons c r =>
      rw [split_cons hq] at h
      rw [hq] at ht
      simp only [List.length_cons] at ht
      split at h
      · injection h with h; subst h; simp
      · cases hw : word c r with
        | none => rw [hw] at h; cases h
        | some p =>
          obtain ⟨w, t⟩ := p
          rw [hw] at h
          have hl := word_len hw
          simp only [Option.bind_some] at h
          split at h
          · cases hs2 : split t with
            | none => rw [hs2] at h; cases h
            | some l2 =>
              rw [hs2] at h
              simp only [Option.map_some] at h
              injection h with h
              subst h
              have := ih t (by omega) l2 hs2
              refine ⟨fun x hx => ?_, by simp only [List.length_cons]; omega⟩
              rcases List.mem_cons.1 hx with rfl | hx
              · omega
              · have := this.1 x hx; omega
          · cases h
end Sp
end Go.Proofs.YthnhfddlmkhgkaaGreatDoor

set_option linter.unusedVariables false
namespace Go.Proofs.YthnhfddlmkhgkaaGreatDoor
namespace Sp
structure Call where
  op : Int := 0
  h : Int := 0
  h2 : Int := 0
  off : Int := 0
  len : Int := 0
  path : Bs := []
  name : Bs := []
  name2 : Bs := []
  data : Bs := []
deriving DecidableEq
structure Op where
  kind : Int := 0
  a : Int := 0
  k : Int := 0
  m : Int := 0
  x : Int := 0
  call : Call := {}
  data : Bs := []
  keep : List Bool := []
deriving DecidableEq
structure Play where
  nums : List Int := [0, 0, 0, 0, 0, 0, 0, 0, 0, 0, 0]
  ops : List Op := []
deriving DecidableEq

/-- the table of the steps: a name and a form each -/
def stepRows : List (Bs × Bs) := [([], []), ([99, 97, 108, 108], [97, 99]), ([99, 108, 111, 115, 101], [97, 107]), ([116, 105, 99, 107], [107]), ([115, 101, 114, 118, 101], [107]), ([103, 105, 118, 101], [107]),
  ([100, 114, 111, 112], [107]), ([99, 111, 112, 121], [107]), ([102, 108, 105, 112], [107, 109, 120]), ([106, 117, 110, 107], [106, 100]), ([97, 114, 109], [107]), ([99, 114, 97, 115, 104], [98]), ([98, 111, 111, 116], []), ([114, 117, 110], [107]), ([108, 111, 111, 107], [])]
def callRows : List (Bs × Bs) := [([], []), ([108, 111, 111, 107, 117, 112], [112]), ([103, 101, 116, 97, 116, 116, 114], [104]), ([114, 101, 97, 100], [104, 111, 108]), ([119, 114, 105, 116, 101], [104, 111, 100]), ([99, 114, 101, 97, 116, 101], [104, 110]),
  ([114, 101, 109, 111, 118, 101], [104, 110]), ([109, 107, 100, 105, 114], [104, 110]), ([114, 109, 100, 105, 114], [104, 110]), ([114, 101, 110, 97, 109, 101], [104, 110, 105, 50]), ([114, 101, 97, 100, 100, 105, 114], [104, 110, 108])]
/-- which row of a table has that name (0: none; row 0 has no name) -/
def findRow (rows : List (Bs × Bs)) (l : Bs) : Nat := ((List.range rows.length).find? fun j => decide (0 < j) && decide ((rows.getD j ([], [])).1 = l)).getD 0
theorem find_none {rows : List (Bs × Bs)} {l : Bs} (h : ∀ j, j < rows.length → 0 < j → (rows.getD j ([], [])).1 ≠ l) : findRow rows l = 0 := by
  unfold findRow
  rw [List.find?_eq_none.2]; rfl
  intro j hj
  have := List.mem_range.1 hj
  simp only [Bool.and_eq_true, decide_eq_true_eq, not_and]
  exact fun h0 => h j this h0
theorem find_some {rows : List (Bs × Bs)} {l : Bs} {i : Nat} (h : ∀ j, j < i → 0 < j → (rows.getD j ([], [])).1 ≠ l) (hi : i < rows.length) (h0 : 0 < i) (he : (rows.getD i ([], [])).1 = l) : findRow rows l = i := by
  unfold findRow
  have : ∀ n, i < n → (List.range n).find? (fun j => decide (0 < j) && decide ((rows.getD j ([], [])).1 = l)) = some i := by
    intro n hn
    rw [List.find?_eq_some_iff_getElem]
    refine ⟨by rw [decide_eq_true h0, decide_eq_true he]; rfl, i, by simpa using hn, by simp, fun j hj => ?_⟩
    simp only [List.getElem_range]
    by_cases h1 : 0 < j
    · rw [decide_eq_false (h j hj h1)]; simp
    · rw [decide_eq_false h1]; simp
  rw [this _ hi]; rfl
theorem find_lt {rows : List (Bs × Bs)} {l : Bs} (h : findRow rows l ≠ 0) : findRow rows l < rows.length ∧ (rows.getD (findRow rows l) ([], [])).1 = l := by
  unfold findRow at *
  cases hf : (List.range rows.length).find? (fun j => decide (0 < j) && decide ((rows.getD j ([], [])).1 = l)) with
  | none => rw [hf] at h; exact absurd rfl h
  | some j =>
    have h1 := List.find?_some hf
    have h2 := List.mem_of_find?_eq_some hf
    simp only [Bool.and_eq_true, decide_eq_true_eq] at h1
    exact ⟨List.mem_range.1 h2, h1.2⟩

/-! a call -/
/-- which number of a call a letter stands for -/
def cell (c : UInt8) : Option Nat := if c = 104 then some 1 else if c = 105 then some 2 else if c = 111 then some 3 else if c = 108 then some 4 else none
def Call.setN (c : Call) (k : Nat) (x : Int) : Call := if k = 1 then { c with h := x } else if k = 2 then { c with h2 := x } else if k = 3 then { c with off := x } else { c with len := x }
def Call.getN (c : Call) (k : Nat) : Int := if k = 1 then c.h else if k = 2 then c.h2 else if k = 3 then c.off else c.len
def Call.setT (c : Call) (l : UInt8) (w : Bs) : Call := if l = 112 then { c with path := w } else if l = 110 then { c with name := w } else if l = 50 then { c with name2 := w } else if l = 100 then { c with data := w } else c
def Call.getT (c : Call) (l : UInt8) : Bs := if l = 112 then c.path else if l = 110 then c.name else if l = 50 then c.name2 else c.data
def shaped (ws : List Bs) : Nat × Nat :=
  match ws with
  | [] => (0, 215)
  | n :: r => if findRow callRows n = 0 then (0, 212) else if r.length ≠ (callRows.getD (findRow callRows n) ([], [])).2.length then (0, 215) else (findRow callRows n, 0)
/-- the letters' words, taken into a call; none: a number that is none -/
def fillCall : Bs → List Bs → Call → Option Call
  | l :: ls, w :: ws, c =>
    match cell l with
    | some k => match number w with
      | some x => fillCall ls ws (c.setN k x)
      | none => none
    | none => fillCall ls ws (c.setT l w)
  | _, _, c => some c
/-- a call of that many words -/
def call (op : Nat) (ws : List Bs) : Call × Nat :=
  match fillCall (callRows.getD op ([], [])).2 (ws.drop 1) { op := op } with
  | some c => (c, 0)
  | none => ({}, 213)

/-! a step -/
def place (c : UInt8) : Option Nat := if c = 97 ∨ c = 106 then some 1 else if c = 107 then some 2 else if c = 109 then some 3 else if c = 120 then some 4 else none
def Op.setN (o : Op) (k : Nat) (x : Int) : Op := if k = 1 then { o with a := x } else if k = 2 then { o with k := x } else if k = 3 then { o with m := x } else { o with x := x }
def Op.getN (o : Op) (k : Nat) : Int := if k = 1 then o.a else if k = 2 then o.k else if k = 3 then o.m else o.x
def server : Bs := [115, 101, 114, 118, 101, 114]
def fillStep (op : Nat) : Bs → List Bs → Op → Nat → Op × Nat
  | l :: ls, w :: ws, o, late =>
    if l = 99 then
      if (call op (w :: ws)).2 = 0 then fillStep op ls ws { o with call := (call op (w :: ws)).1 } late else ({}, (call op (w :: ws)).2)
    else if l = 100 then
      match hex w with
      | some d => fillStep op ls ws { o with data := d } late
      | none => fillStep op ls ws { o with data := [] } 217
    else if l = 98 then
      match flags w with
      | some b => fillStep op ls ws { o with keep := b } late
      | none => ({}, 213)
    else
      match if l = 106 ∧ w = server then some (-1) else number w with
      | some x => fillStep op ls ws (o.setN ((place l).getD 0) x) late
      | none => ({}, 213)
  | _, _, o, late => if late ≠ 0 then ({}, late) else (o, 0)
def step (ws : List Bs) : Op × Nat :=
  let kind := findRow stepRows (ws.getD 0 [])
  let f := (stepRows.getD kind ([], [])).2
  let rest := ws.drop 1
  if kind = 0 then ({}, 212)
  else if kind = 1 then
    if rest.length < 2 then ({}, 215)
    else if (shaped (rest.drop 1)).2 ≠ 0 then ({}, (shaped (rest.drop 1)).2)
    else fillStep (shaped (rest.drop 1)).1 f rest { kind := kind } 0
  else if rest.length ≠ f.length then ({}, 215)
  else fillStep 0 f rest { kind := kind } 0

/-! a play -/
def fillWorld : List Bs → Option (List Int)
  | [] => some []
  | w :: ws => match number w with
    | some x => (fillWorld ws).map (x :: ·)
    | none => none
def wrld : Bs := [119, 111, 114, 108, 100]
def world (ws : List Bs) : Play × Nat :=
  if ws.getD 0 [] ≠ wrld then ({}, 211)
  else if ws.length ≠ 12 then ({}, 215)
  else match fillWorld (ws.drop 1) with
    | some l => ({ nums := l }, 0)
    | none => ({}, 213)
/-- a text's first line, and what is behind its end -/
def line1 (t : Bs) : Bs := t.takeWhile (· ≠ 10)
def rest1 (t : Bs) : Bs := (t.dropWhile (· ≠ 10)).drop 1
theorem rest1_len (c : UInt8) (t : Bs) : (rest1 (c :: t)).length < (c :: t).length := by
  unfold rest1
  rw [List.length_drop]
  have := (List.dropWhile_sublist (l := c :: t) (· ≠ 10)).length_le
  simp only [List.length_cons] at *
  omega
/-- a line of a play that is begun, or not: its play, begun?, the error -/
def lineOf (t : Bs) (begun : Bool) (p : Play) : Play × Bool × Nat :=
  match split t with
  | none => (p, begun, 214)
  | some [] => (p, begun, 0)
  | some ws =>
    if begun = false then ((world ws).1, true, (world ws).2)
    else if p.ops.length = 2000 then (p, begun, 216)
    else ({ p with ops := p.ops ++ [(step ws).1] }, begun, (step ws).2)
def lines (t : Bs) (n : Nat) (begun : Bool) (p : Play) : Play × Nat × Nat :=
  match h : t with
  | [] => if begun then (p, 0, 0) else ({}, 0, 211)
  | c :: r =>
    let q := lineOf (line1 t) begun p
    if q.2.2 ≠ 0 then ({}, n, q.2.2) else lines (rest1 t) (n + 1) q.2.1 q.1
termination_by t.length
decreasing_by subst h; exact rest1_len c r
def parse (t : Bs) : Play × Nat × Nat := if 1048576 < t.length then ({}, 0, 216) else lines t 1 false {}
def parseCall (t : Bs) : Call × Nat :=
  if 1048576 < t.length then ({}, 216)
  else match split t with
    | none => ({}, 214)
    | some ws =>
      if 10 ∈ t then ({}, 214)
      else if (shaped ws).2 ≠ 0 then ({}, (shaped ws).2)
      else call (shaped ws).1 ws
end Sp
end Go.Proofs.YthnhfddlmkhgkaaGreatDoor

set_option linter.unusedVariables false
namespace Go.Proofs.YthnhfddlmkhgkaaGreatDoor
namespace Sp
def most : Int := 1073741824
/-- words with a blank between -/
def join : List Bs → Bs
  | [] => []
  | [w] => w
  | w :: r => w ++ 32 :: join r
/-- the word that a letter of a call stands for -/
def wordC (c : Call) (l : UInt8) : Bs := match cell l with | some k => Lib.itoa (c.getN k) | none => text (c.getT l)
/-- what of a call its letters say -/
def bareC (c : Call) : Bs → Call → Call
  | [], b => b
  | l :: ls, b => bareC c ls (match cell l with | some k => b.setN k (c.getN k) | none => b.setT l (c.getT l))
def small (c : Call) : Bool := [c.h, c.h2, c.off, c.len].all fun x => decide (0 ≤ x ∧ x ≤ most)
def written (c : Call) : Bs × Nat :=
  if c.op < 1 ∨ 11 ≤ c.op then ([], 212)
  else
    let f := callRows.getD c.op.toNat ([], [])
    if c ≠ bareC c f.2 { op := c.op } then ([], 218)
    else if small c = false then ([], 213)
    else (join (f.1 :: f.2.map (wordC c)), 0)
def printCall (c : Call) : Bs × Nat := if (written c).2 = 0 ∧ 1048576 < (written c).1.length then ([], 216) else written c
/-- has a step a field that its kind does not have? -/
def spare (o : Op) : Bool :=
  let f := (stepRows.getD o.kind.toNat ([], [])).2
  let has (l : UInt8) : Bool := f.contains l
  (!(has 97 || has 106) && decide (o.a ≠ 0)) || (!has 107 && decide (o.k ≠ 0)) || (!has 109 && decide (o.m ≠ 0)) || (!has 120 && decide (o.x ≠ 0)) ||
    (!has 100 && decide (o.data ≠ [])) || (!has 98 && decide (o.keep ≠ [])) || (!has 99 && decide (o.call ≠ {}))
/-- the word that a letter of a step stands for; none: a number that may not be -/
def wordO (o : Op) (called : Bs) (l : UInt8) : Option Bs :=
  if l = 99 then some called
  else if l = 100 then some (hexed o.data)
  else if l = 98 then some (flagged o.keep)
  else
    let x := o.getN ((place l).getD 0)
    if l = 106 ∧ x = -1 then some server
    else if x < 0 ∨ most < x then none
    else some (Lib.itoa x)
def wordsO (o : Op) (called : Bs) : Bs → Option (List Bs)
  | [] => some []
  | l :: ls => match wordO o called l with
    | some w => (wordsO o called ls).map (w :: ·)
    | none => none
def line (o : Op) : Bs × Nat :=
  if o.kind < 1 ∨ 15 ≤ o.kind then ([], 212)
  else if spare o then ([], 218)
  else
    let f := stepRows.getD o.kind.toNat ([], [])
    if o.kind = 1 ∧ (written o.call).2 ≠ 0 then ([], (written o.call).2)
    else match wordsO o (if o.kind = 1 then (written o.call).1 else []) f.2 with
      | some ws => (join (f.1 :: ws), 0)
      | none => ([], 213)
def numsOk (l : List Int) : Bool := l.all fun x => decide (0 ≤ x ∧ x ≤ most)
def headLine (l : List Int) : Bs := wrld ++ (l.flatMap fun x => 32 :: Lib.itoa x) ++ [10]
def linesP : List Op → Option Nat × Bs
  | [] => (none, [])
  | o :: r => if (line o).2 ≠ 0 then (some (line o).2, []) else ((linesP r).1, (line o).1 ++ 10 :: (linesP r).2)
def print (p : Play) : Bs × Nat :=
  if numsOk p.nums = false then ([], 213)
  else if 2000 < p.ops.length then ([], 216)
  else match linesP p.ops with
    | (some e, _) => ([], e)
    | (none, t) => if 1048576 < (headLine p.nums ++ t).length then ([], 216) else (headLine p.nums ++ t, 0)
/-- the little play -/
def little : Play := { nums := [2, 4, 4, 16, 32, 8192, 200, 40, 2, 8, 64], ops := [{ kind := 1, a := 1, call := { op := 9, name := [97], name2 := [98, 32, 99] } }, { kind := 9, a := -1 }, { kind := 11, keep := [false, true] }] }
def littleT : Bs := "world 2 4 4 16 32 8192 200 40 2 8 64\ncall 1 rename 0 a 0 \"b c\"\njunk server \"\"\ncrash 01\n".toUTF8.data.toList
end Sp
end Go.Proofs.YthnhfddlmkhgkaaGreatDoor

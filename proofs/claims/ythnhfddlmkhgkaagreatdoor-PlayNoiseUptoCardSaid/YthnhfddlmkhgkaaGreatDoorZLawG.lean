/- Plain Lean: lines without words, comments and blanks change nothing of what is read. -/
import Derived.Test.YthnhfddlmkhgkaaGreatDoorZLawAll
set_option linter.unusedVariables false
namespace Go.Proofs.YthnhfddlmkhgkaaGreatDoor
namespace Sp
abbrev Quad := Bool × Bool × Bool × Bool
/-- what is laid behind a line -/
def noise (deaf : Bs) (q : Quad) : Bs :=
  (if q.1 then [10] else []) ++ (if q.2.1 then 35 :: deaf ++ [10] else []) ++ (if q.2.2.1 then [32, 9, 35, 32, 34, 10] else []) ++ (if q.2.2.2 then [9, 32, 32] else [])
def noised (deaf : Bs) : Bs → List Quad → Bs
  | [], _ => []
  | c :: r, fs => if c = 10 then 10 :: (noise deaf (fs.headD (false, false, false, false)) ++ noised deaf r fs.tail) else c :: noised deaf r fs
theorem noised_free (deaf : Bs) : ∀ {t : Bs} (fs : List Quad) (r : Bs), 10 ∉ t → noised deaf (t ++ r) fs = t ++ noised deaf r fs
  | [], fs, r, _ => rfl
  | c :: t, fs, r, h => by
    have hc : c ≠ 10 := fun e => h (by simp [e])
    have ht : 10 ∉ t := fun e => h (by simp [e])
    show noised deaf (c :: (t ++ r)) fs = _
    rw [noised, if_neg hc, noised_free deaf fs r ht]
    rfl
theorem noised_snoc (deaf : Bs) : ∀ (t : Bs) (fs : List Quad) (c : UInt8), c ≠ 10 → noised deaf (t ++ [c]) fs = noised deaf t fs ++ [c]
  | [], fs, c, h => by
    show (if c = 10 then _ else c :: noised deaf [] fs) = [c]
    rw [if_neg h]
    rfl
  | d :: t, fs, c, h => by
    show noised deaf (d :: (t ++ [c])) fs = _
    rw [noised, noised]
    split
    · rw [noised_snoc deaf t _ c h]; simp
    · rw [noised_snoc deaf t _ c h]; simp
theorem noised_nl (deaf : Bs) : ∀ (t : Bs) (fs : List Quad) (q : Quad), fs.length = t.count 10 → noised deaf (t ++ [10]) (fs ++ [q]) = noised deaf t fs ++ 10 :: noise deaf q
  | [], fs, q, h => by
    obtain rfl : fs = [] := List.eq_nil_of_length_eq_zero (by simpa using h)
    show 10 :: (noise deaf q ++ []) = 10 :: noise deaf q
    rw [List.append_nil]
  | d :: t, fs, q, h => by
    show noised deaf (d :: (t ++ [10])) (fs ++ [q]) = _
    rw [noised, noised]
    split
    · rename_i hd
      subst hd
      rw [List.count_cons_self] at h
      match fs, h with
      | f :: fs, h =>
        simp only [List.cons_append, List.headD_cons, List.tail_cons]
        rw [noised_nl deaf t fs q (by simpa using h)]
        simp
    · rename_i hd
      rw [List.count_cons_of_ne hd] at h
      rw [noised_nl deaf t fs q h]
      simp
theorem noise_len (deaf : Bs) (q : Quad) : (noise deaf q).length ≤ deaf.length + 12 := by
  obtain ⟨a, b, c, d⟩ := q
  unfold noise
  cases a <;> cases b <;> cases c <;> cases d <;> simp <;> omega
theorem noised_len (deaf : Bs) : ∀ (t : Bs) (fs : List Quad), (noised deaf t fs).length ≤ t.length + t.count 10 * (deaf.length + 12)
  | [], fs => by simp [noised]
  | c :: t, fs => by
    rw [noised]
    split
    · rename_i h
      subst h
      have := noised_len deaf t fs.tail
      have := noise_len deaf (fs.headD (false, false, false, false))
      rw [List.count_cons_self]
      simp only [List.length_cons, List.length_append, Nat.add_mul]
      omega
    · rename_i h
      have := noised_len deaf t fs
      rw [List.count_cons_of_ne h]
      simp only [List.length_cons]
      omega
theorem split_com (c : Bs) : split (35 :: c) = some [] := by
  rw [split_cons (c := 35) (r := c) (by simp [trim, isBlank])]
  rfl
theorem lineOf_split {L M : Bs} (h : split L = split M) (b : Bool) (p : Play) : lineOf L b p = lineOf M b p := by unfold lineOf; rw [h]
theorem split_pre {pre : Bs} (hp : ∀ c ∈ pre, isBlank c = true) (L : Bs) : split (pre ++ L) = split L := by
  induction pre with
  | nil => rfl
  | cons c pre ih =>
    show split (c :: (pre ++ L)) = _
    rw [split_blank (hp c (by simp)), ih (fun d hd => hp d (by simp [hd]))]
theorem noise_skip {deaf : Bs} (hd : 10 ∉ deaf) (q : Quad) : ∃ pre, (∀ c ∈ pre, isBlank c = true) ∧ ∀ (k : Nat) (r : Bs), ∃ k', k ≤ k' ∧ ∀ (b : Bool) (p : Play), lines (noise deaf q ++ r) k b p = lines (pre ++ r) k' b p := by
  obtain ⟨x, y, z, u⟩ := q
  have s1 : ∀ (r : Bs) (k : Nat) (b : Bool) (p : Play), lines (10 :: r) k b p = lines r (k + 1) b p := fun r k b p => lines_skip (L := []) (split_nil rfl) (by simp) r k b p
  have s2 : ∀ (r : Bs) (k : Nat) (b : Bool) (p : Play), lines (35 :: (deaf ++ 10 :: r)) k b p = lines r (k + 1) b p := fun r k b p => lines_skip (L := 35 :: deaf) (split_com deaf) (by simp [hd]) r k b p
  have s3 : ∀ (r : Bs) (k : Nat) (b : Bool) (p : Play), lines (32 :: 9 :: 35 :: 32 :: 34 :: 10 :: r) k b p = lines r (k + 1) b p := fun r k b p => lines_skip (L := [32, 9, 35, 32, 34]) (by
    rw [split_blank (by decide), split_blank (by decide)]; exact split_com _) (by decide) r k b p
  have g : ∀ (a : Bool) (w : Bs) (hw : ∀ (r : Bs) (k : Nat) (b : Bool) (p : Play), lines (w ++ r) k b p = lines r (k + 1) b p) (k : Nat), ∃ k', k ≤ k' ∧ ∀ (r : Bs) (b : Bool) (p : Play), lines ((if a then w else []) ++ r) k b p = lines r k' b p := by
    intro a w hw k
    cases a
    · exact ⟨k, Nat.le_refl _, fun r b p => rfl⟩
    · exact ⟨k + 1, by omega, fun r b p => hw r k b p⟩
  refine ⟨if u then [9, 32, 32] else [], by cases u <;> decide, fun k r => ?_⟩
  obtain ⟨k1, h1, e1⟩ := g x [10] (fun r k b p => s1 r k b p) k
  obtain ⟨k2, h2, e2⟩ := g y (35 :: deaf ++ [10]) (fun r k b p => by have := s2 r k b p; simpa using this) k1
  obtain ⟨k3, h3, e3⟩ := g z [32, 9, 35, 32, 34, 10] (fun r k b p => s3 r k b p) k2
  refine ⟨k3, by omega, fun b p => ?_⟩
  unfold noise
  rw [List.append_assoc, List.append_assoc, List.append_assoc, e1, e2, e3]
/-- noise is not heard -/
theorem noise_back {deaf : Bs} (hd : 10 ∉ deaf) (n : Nat) : ∀ (t : Bs) (fs : List Quad) (pre : Bs) (k k' : Nat) (b : Bool) (p q : Play), t.length ≤ n → (∀ c ∈ pre, isBlank c = true) →
    lines t k' b p = (q, 0, 0) → lines (pre ++ noised deaf t fs) k b p = (q, 0, 0) := by
  induction n with
  | zero =>
    intro t fs pre k k' b p q ht hp h
    obtain rfl : t = [] := List.eq_nil_of_length_eq_zero (by omega)
    rw [lines_nil] at h
    show lines (pre ++ []) k b p = _
    rw [List.append_nil]
    by_cases he : pre = []
    · rw [he, lines_nil]; exact h
    · have hn : 10 ∉ pre := fun e => absurd (hp 10 e) (by decide)
      have hs : split pre = some [] := by have := split_pre hp []; rw [List.append_nil] at this; rw [this]; exact split_nil rfl
      rw [lines_cons he, (line1_no hn).1, (line1_no hn).2, lineOf_blank pre hs, if_neg (by simp)]
      rw [lines_nil]
      exact h
  | succ n ih =>
    intro t fs pre k k' b p q ht hp h
    by_cases he : t = []
    · exact ih t fs pre k k' b p q (by rw [he]; simp) hp h
    · have hpn : 10 ∉ pre := fun e => absurd (hp 10 e) (by decide)
      rw [lines_cons he] at h
      have h2 : ¬ (lineOf (line1 t) b p).2.2 ≠ 0 := by
        intro hne
        rw [if_pos hne] at h
        simp only [Prod.mk.injEq] at h
        exact hne h.2.2
      rw [if_neg h2] at h
      have hlo : lineOf (pre ++ line1 t) b p = lineOf (line1 t) b p := lineOf_split (split_pre hp _) b p
      have hfr : 10 ∉ pre ++ line1 t := by
        simp only [List.mem_append, not_or]
        exact ⟨hpn, line1_free t⟩
      by_cases hm : 10 ∈ t
      · have hsp := line1_split hm
        have hrl : (rest1 t).length ≤ n := by
          cases t with
          | nil => exact absurd rfl he
          | cons c r => have := rest1_len c r; omega
        have e1 : noised deaf t fs = line1 t ++ 10 :: (noise deaf (fs.headD (false, false, false, false)) ++ noised deaf (rest1 t) fs.tail) := by
          conv => lhs; rw [hsp]
          rw [noised_free deaf fs _ (line1_free t), noised, if_pos rfl]
        rw [e1, ← List.append_assoc, lines_line hfr, hlo, if_neg h2]
        obtain ⟨pre2, hp2, hk⟩ := noise_skip hd (fs.headD (false, false, false, false))
        obtain ⟨k2, _, hk2⟩ := hk (k + 1) (noised deaf (rest1 t) fs.tail)
        rw [hk2]
        exact ih (rest1 t) fs.tail pre2 k2 (k' + 1) _ _ q hrl hp2 h
      · have e0 := line1_no hm
        rw [e0.1] at hlo h2 h
        rw [e0.2] at h
        have e1 : noised deaf t fs = t := by
          have := noised_free deaf fs [] hm
          rw [List.append_nil] at this
          rw [this]
          simp [noised]
        have hne : pre ++ t ≠ [] := by simp [he]
        have hfr2 : 10 ∉ pre ++ t := by
          simp only [List.mem_append, not_or]
          exact ⟨hpn, hm⟩
        rw [e1, lines_cons hne, (line1_no hfr2).1, (line1_no hfr2).2, hlo, if_neg h2]
        rw [lines_nil] at h ⊢
        exact h
theorem count_plain {t : Bs} (h : ∀ b ∈ t, 32 ≤ b.toNat ∧ b.toNat ≤ 126) : t.count 10 = 0 := List.count_eq_zero.2 (plain_nl h)
theorem linesP_count : ∀ (os : List Op) (t : Bs), linesP os = (none, t) → t.count 10 = os.length
  | [], t, h => by
    simp only [linesP, Prod.mk.injEq, true_and] at h
    rw [← h]; rfl
  | o :: r, t, h => by
    unfold linesP at h
    split at h
    · cases h
    · rename_i h0
      obtain ⟨Ws, ws, e1, h2, _, _⟩ := line_back (o := o) (by omega)
      simp only [Prod.mk.injEq] at h
      have ih := linesP_count r (linesP r).2 (Prod.ext h.1 rfl)
      rw [← h.2, List.count_append, List.count_cons_self, e1, count_plain h2.plain, ih, List.length_cons]
      omega
theorem print_count {p : Play} (h : (print p).2 = 0) : (print p).1.count 10 ≤ 2001 := by
  obtain ⟨h1, h2, t, h3, h4, h5⟩ := print_open h
  have hc := linesP_count _ _ h3
  have hw : Wds (wrld :: p.nums.map Lib.itoa) (wrld :: p.nums.map Lib.itoa) := .cons (wd_bare (by decide) (by decide)) (fillWorld_back p.nums h1).1
  rw [h4, List.count_append, hc, headLine_eq, List.count_append, count_plain hw.plain]
  have : ([10] : Bs).count 10 = 1 := by decide
  omega
def lead2 (t : Bs) : Bs := [10, 32, 10, 35, 32, 120, 10] ++ t
theorem noise_law {p : Play} (hn : p.nums.length = 11) (h : (print p).2 = 0) (hl : (print p).1.length ≤ 65536) {deaf : Bs} (hd : 10 ∉ deaf) (hdl : deaf.length ≤ 64) (fs : List Quad) :
    (noised deaf (print p).1 fs).length ≤ 217612 ∧ parse (lead2 (noised deaf (print p).1 fs)) = (p, 0, 0) := by
  have hc := print_count h
  have hb := print_back hn h
  have hk := noised_len deaf (print p).1 fs
  have hm : (print p).1.count 10 * (deaf.length + 12) ≤ 2001 * 76 := Nat.mul_le_mul hc (by omega)
  have hL : (noised deaf (print p).1 fs).length ≤ 217612 := by omega
  refine ⟨hL, ?_⟩
  rw [parse_small (by unfold lead2; simp only [List.length_append, List.length_cons, List.length_nil]; omega)]
  rw [parse_small (by omega)] at hb
  generalize hX : noised deaf (print p).1 fs = X
  have e1 : lines (lead2 X) 1 false {} = lines X 4 false {} := by
    have a1 : lines (10 :: (32 :: 10 :: (35 :: 32 :: 120 :: 10 :: X))) 1 false {} = lines (32 :: 10 :: (35 :: 32 :: 120 :: 10 :: X)) 2 false {} := lines_skip (L := []) (split_nil rfl) (by simp) _ 1 false {}
    have a2 : lines (32 :: 10 :: (35 :: 32 :: 120 :: 10 :: X)) 2 false {} = lines (35 :: 32 :: 120 :: 10 :: X) 3 false {} := lines_skip (L := [32]) (split_nil rfl) (by decide) _ 2 false {}
    have a3 : lines (35 :: 32 :: 120 :: 10 :: X) 3 false {} = lines X 4 false {} := lines_skip (L := [35, 32, 120]) (split_com _) (by decide) _ 3 false {}
    exact a1.trans (a2.trans a3)
  rw [e1, ← hX]
  exact noise_back hd _ _ fs [] 4 1 false {} p (Nat.le_refl _) (by simp) hb
end Sp
end Go.Proofs.YthnhfddlmkhgkaaGreatDoor

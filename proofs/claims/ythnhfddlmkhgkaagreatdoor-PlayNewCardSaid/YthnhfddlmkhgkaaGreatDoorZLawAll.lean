/- Plain Lean: what is written is read: words. Plain Lean: what is written is read: calls and steps. Plain Lean: what is written is read: plays. Plain Lean: what is read may be written. Plain Lean: the little play is written and read. Plain Lean: the line that is told. -/
import Derived.Test.YthnhfddlmkhgkaaGreatDoorZSpecAll
set_option linter.unusedVariables false
namespace Go.Proofs.YthnhfddlmkhgkaaGreatDoor
namespace Sp
/-- W is a written form of the word w -/
def Wd (W w : Bs) : Prop := ∃ c r, W = c :: r ∧ isBlank c = false ∧ c ≠ 35 ∧ (∀ t, clean t = true → word c (r ++ t) = some (w, t)) ∧ ∀ b ∈ W, 32 ≤ b.toNat ∧ b.toNat ≤ 126
theorem Wd.plain {W w : Bs} (h : Wd W w) : ∀ b ∈ W, 32 ≤ b.toNat ∧ b.toNat ≤ 126 := by obtain ⟨_, _, _, _, _, _, h⟩ := h; exact h
theorem Wd.ne {W w : Bs} (h : Wd W w) : W ≠ [] := by obtain ⟨_, _, rfl, _⟩ := h; simp
theorem split_trim {s t : Bs} (h : trim s = trim t) : split s = split t := by
  cases hs : trim s with
  | nil => rw [split_nil hs, split_nil (h ▸ hs)]
  | cons c r => rw [split_cons hs, split_cons (h ▸ hs)]
theorem split_blank {c : UInt8} (h : isBlank c = true) (t : Bs) : split (c :: t) = split t := split_trim (by simp [trim, h])
theorem split_word {W w : Bs} (h : Wd W w) (t : Bs) (ht : clean t = true) : split (W ++ t) = (split t).map (w :: ·) := by
  obtain ⟨c, r, rfl, hb, hc, hw, _⟩ := h
  have h1 : trim (c :: r ++ t) = c :: (r ++ t) := by simp [trim, hb]
  rw [split_cons h1, if_neg hc, hw t ht]
  simp [ht]
inductive Wds : List Bs → List Bs → Prop
  | nil : Wds [] []
  | cons {W w Ws ws} : Wd W w → Wds Ws ws → Wds (W :: Ws) (w :: ws)
theorem Wds.len {Ws ws : List Bs} (h : Wds Ws ws) : Ws.length = ws.length := by induction h <;> simp_all
theorem Wds.plain {Ws ws : List Bs} (h : Wds Ws ws) : ∀ b ∈ join Ws, 32 ≤ b.toNat ∧ b.toNat ≤ 126 := by
  induction h with
  | nil => intro b hb; simp [join] at hb
  | @cons W w Ws ws hW h ih =>
    cases Ws with
    | nil => exact hW.plain
    | cons W2 r =>
      intro b hb
      simp only [join, List.mem_append, List.mem_cons] at hb
      rcases hb with hb | rfl | hb
      · exact hW.plain b hb
      · decide
      · exact ih b hb
theorem split_join {Ws ws : List Bs} (h : Wds Ws ws) (t : Bs) (ht : clean t = true) : split (join Ws ++ t) = (split t).map (ws ++ ·) := by
  induction h with
  | nil => simp [join]
  | @cons W w Ws ws hW h ih =>
    cases h with
    | nil => simp only [join]; rw [split_word hW t ht]; simp
    | @cons W2 w2 Ws2 ws2 hW2 h2 =>
      rw [show join (W :: W2 :: Ws2) ++ t = W ++ (32 :: (join (W2 :: Ws2) ++ t)) by simp [join], split_word hW _ (by rfl), split_blank (by rfl), ih]
      simp [Option.map_map, Function.comp_def]

theorem bare_facts {c : UInt8} (h : isBare c = true) : isBlank c = false ∧ c ≠ 35 ∧ c ≠ 34 ∧ 32 ≤ c.toNat ∧ c.toNat ≤ 126 := by
  have hb : isBlank c = false := by
    cases hq : isBlank c with
    | false => rfl
    | true =>
      simp only [isBlank, Bool.or_eq_true, beq_iff_eq] at hq
      rcases hq with rfl | rfl <;> exact absurd h (by decide)
  refine ⟨hb, ?_, ?_, ?_⟩
  · rintro rfl; exact absurd h (by decide)
  · rintro rfl; exact absurd h (by decide)
  · simp only [isBare, Bool.or_eq_true, Bool.and_eq_true, decide_eq_true_eq, beq_iff_eq] at h
    simp only [UInt8.le_iff_toNat_le, ← UInt8.toNat_inj] at h
    have e3 : (97 : UInt8).toNat = 97 := rfl
    have e4 : (122 : UInt8).toNat = 122 := rfl
    have e5 : (65 : UInt8).toNat = 65 := rfl
    have e6 : (90 : UInt8).toNat = 90 := rfl
    have e7 : (48 : UInt8).toNat = 48 := rfl
    have e8 : (57 : UInt8).toNat = 57 := rfl
    have e9 : (95 : UInt8).toNat = 95 := rfl
    have e10 : (46 : UInt8).toNat = 46 := rfl
    have e11 : (45 : UInt8).toNat = 45 := rfl
    have e12 : (47 : UInt8).toNat = 47 := rfl
    omega
theorem blank_bare {c : UInt8} (h : isBlank c = true) : isBare c = false := by
  cases hq : isBare c with
  | false => rfl
  | true => rw [(bare_facts hq).1] at h; cases h
theorem run_clean {p t : Bs} (h : ∀ b ∈ p, isBare b = true) (ht : clean t = true) : run (p ++ t) = p.length := by
  cases t with
  | nil => rw [List.append_nil]; exact run_all h
  | cons d t => exact run_stop h (blank_bare ht)
theorem wd_bare {w : Bs} (h : w ≠ []) (hb : ∀ b ∈ w, isBare b = true) : Wd w w := by
  cases w with
  | nil => exact absurd rfl h
  | cons c r =>
    have hf := bare_facts (hb c List.mem_cons_self)
    refine ⟨c, r, rfl, hf.1, hf.2.1, fun t ht => ?_, fun b hb2 => (bare_facts (hb b hb2)).2.2.2⟩
    have hr := run_clean hb ht
    rw [List.cons_append] at hr
    unfold word
    rw [if_neg hf.2.2.1, hr, if_neg (by simp), ← List.cons_append, List.take_left, List.drop_left]
theorem digit_nib : ∀ n, n < 16 → digit (nib n) = n := by decide
theorem duo_two (c : UInt8) : duo (nib (c.toNat / 16)) (nib (c.toNat % 16)) = c := by
  have := c.toNat_lt
  unfold duo
  rw [digit_nib _ (by omega), digit_nib _ (by omega)]
  apply UInt8.toNat_inj.1
  rw [show ((c.toNat / 16 : Nat) : Int).toNat * 16 + ((c.toNat % 16 : Nat) : Int).toNat = c.toNat by omega]
  simp
theorem nib_plain : ∀ n, n < 16 → 32 ≤ (nib n).toNat ∧ (nib n).toNat ≤ 126 := by decide
theorem quo_plain (c : UInt8) : ∀ b ∈ quo c, 32 ≤ b.toNat ∧ b.toNat ≤ 126 := by
  have := c.toNat_lt
  intro b hb
  unfold quo at hb
  split at hb
  · rename_i h
    simp only [List.mem_cons, List.not_mem_nil, or_false] at hb
    rcases hb with rfl | rfl
    · decide
    · rcases h with rfl | rfl <;> decide
  · split at hb
    · simp only [two, List.mem_cons, List.not_mem_nil, or_false] at hb
      rcases hb with rfl | rfl | rfl | rfl
      · decide
      · decide
      · exact nib_plain _ (by omega)
      · exact nib_plain _ (by omega)
    · rename_i h
      rw [List.mem_singleton.1 hb]
      simp only [UInt8.lt_iff_toNat_lt] at h
      have e1 : (32 : UInt8).toNat = 32 := rfl
      have e2 : (126 : UInt8).toNat = 126 := rfl
      omega
theorem quoted_quo (c : UInt8) (s : Bs) : quoted (quo c ++ s) = (quoted s).map fun p => (c :: p.1, p.2) := by
  have := c.toNat_lt
  unfold quo
  split
  · rename_i h
    exact quoted_step (by decide) (letter_esc h)
  · rename_i h
    split
    · unfold two
      refine (quoted_step (by decide) (letter_hex ?_ ?_)).trans ?_
      · rw [digit_nib _ (by omega)]; omega
      · rw [digit_nib _ (by omega)]; omega
      · rw [duo_two]; rfl
    · rename_i h2
      exact quoted_step (fun e => h (Or.inl e)) (letter_plain (fun e => h2 (Or.inl e)) (fun e => h2 (Or.inr e)) (fun e => h (Or.inr e)))
theorem quoted_flat (s t : Bs) : quoted (s.flatMap quo ++ 34 :: t) = some (s, t) := by
  induction s with
  | nil => exact quoted_q t
  | cons c s ih => rw [List.flatMap_cons, List.append_assoc, quoted_quo, ih]; rfl
theorem wd_quoted (s : Bs) : Wd (34 :: s.flatMap quo ++ [34]) s := by
  refine ⟨34, s.flatMap quo ++ [34], rfl, by decide, by decide, fun t ht => ?_, fun b hb => ?_⟩
  · unfold word
    rw [if_pos rfl, List.append_assoc]
    exact quoted_flat s t
  · simp only [List.cons_append, List.mem_cons, List.mem_append, List.mem_flatMap, List.not_mem_nil, or_false] at hb
    rcases hb with rfl | ⟨c, _, hc⟩ | rfl
    · decide
    · exact quo_plain c b hc
    · decide
theorem run_full {s : Bs} (h : run s = s.length) : ∀ b ∈ s, isBare b = true := by
  have h2 : s.takeWhile isBare = s := (List.takeWhile_sublist _).eq_of_length h
  intro b hb
  rw [← h2] at hb
  exact List.all_eq_true.1 List.all_takeWhile b hb
theorem wd_text (s : Bs) : Wd (text s) s := by
  unfold text
  split
  · rename_i h; exact wd_bare h.1 (run_full h.2)
  · exact wd_quoted s
theorem wd_empty : Wd [34, 34] [] := wd_quoted []
theorem nib_bare : ∀ n, n < 16 → isBare (nib n) = true := by decide
theorem two_bare (c : UInt8) : ∀ b ∈ two c, isBare b = true := by
  have := c.toNat_lt
  intro b hb
  simp only [two, List.mem_cons, List.not_mem_nil, or_false] at hb
  rcases hb with rfl | rfl <;> exact nib_bare _ (by omega)
theorem hex_two (c : UInt8) (s : Bs) : hex (two c ++ s) = (hex s).map (c :: ·) := by
  have := c.toNat_lt
  unfold two
  simp only [List.cons_append, List.nil_append, hex]
  rw [if_pos ⟨by rw [digit_nib _ (by omega)]; omega, by rw [digit_nib _ (by omega)]; omega⟩, duo_two]
theorem hex_flat (d : Bs) : hex (d.flatMap two) = some d := by
  induction d with
  | nil => rfl
  | cons c s ih => rw [List.flatMap_cons, hex_two, ih]; rfl
theorem wd_hexed (d : Bs) : ∃ w, Wd (hexed d) w ∧ hex w = some d := by
  unfold hexed
  split
  · rename_i h; exact ⟨[], wd_empty, by rw [h]; rfl⟩
  · rename_i h
    refine ⟨_, wd_bare ?_ ?_, hex_flat d⟩
    · cases d with
      | nil => exact absurd rfl h
      | cons c r => simp [two]
    · intro b hb
      obtain ⟨c, _, hc⟩ := List.mem_flatMap.1 hb
      exact two_bare c b hc
theorem flags_map (l : List Bool) : flags (l.map fun b => if b then 49 else 48) = some l := by
  induction l with
  | nil => rfl
  | cons b l ih => cases b <;> (simp only [List.map_cons, flags, ih]; rfl)
theorem wd_flagged (l : List Bool) : ∃ w, Wd (flagged l) w ∧ flags w = some l := by
  unfold flagged
  split
  · rename_i h; exact ⟨[], wd_empty, by rw [h]; rfl⟩
  · rename_i h
    refine ⟨_, wd_bare (by simpa using h) ?_, flags_map l⟩
    intro b hb
    obtain ⟨c, _, rfl⟩ := List.mem_map.1 hb
    cases c <;> decide
/-! numbers -/
theorem dec_digit (u : Nat) : ∀ b ∈ Lib.decDigits u, 48 ≤ b.toNat ∧ b.toNat ≤ 57 := by
  induction u using Nat.strongRecOn with
  | _ u ih =>
    rw [Lib.decDigits]
    have key : ∀ n, n < 10 → ∀ b ∈ [UInt8.ofNat (48 + n)], 48 ≤ b.toNat ∧ b.toNat ≤ 57 := by
      intro n hn b hb
      rw [List.mem_singleton.1 hb, UInt8.toNat_ofNat']
      omega
    split
    · exact key u (by assumption)
    · intro b hb
      rcases List.mem_append.1 hb with hb | hb
      · exact ih (u / 10) (by omega) b hb
      · exact key (u % 10) (by omega) b hb
theorem dec_ne (u : Nat) : Lib.decDigits u ≠ [] := by
  rw [Lib.decDigits]
  split <;> simp
theorem bare_digit {b : UInt8} (h : 48 ≤ b.toNat ∧ b.toNat ≤ 57) : isBare b = true := by
  simp only [isBare, Bool.or_eq_true, Bool.and_eq_true, decide_eq_true_eq, UInt8.le_iff_toNat_le]
  exact Or.inl (Or.inl (Or.inl (Or.inl (Or.inr h))))
theorem parse_append (l : Bs) : ∀ (acc : Nat) (v : Nat) (c : UInt8), Lib.parseUint10 acc l = .ok v → v < 1844674407370955161 → 48 ≤ c.toNat ∧ c.toNat ≤ 57 → Lib.parseUint10 acc (l ++ [c]) = .ok (v * 10 + (c.toNat - 48)) := by
  induction l with
  | nil =>
    intro acc v c h hv hc
    simp only [Lib.parseUint10] at h
    injection h with h
    subst h
    simp only [List.nil_append, Lib.parseUint10]
    rw [if_pos hc, if_neg (by omega), if_neg (by omega)]
  | cons d l ih =>
    intro acc v c h hv hc
    simp only [List.cons_append, Lib.parseUint10] at h ⊢
    split at h
    · split at h
      · cases h
      · split at h
        · cases h
        · rename_i h1 h2 h3
          rw [if_pos h1, if_neg h2, if_neg h3]
          exact ih _ v c h hv hc
    · cases h
theorem parse_dec (u : Nat) (hu : u < 1844674407370955161) : Lib.parseUint10 0 (Lib.decDigits u) = .ok u := by
  induction u using Nat.strongRecOn with
  | _ u ih =>
    rw [Lib.decDigits]
    split
    · rename_i h
      have e : (UInt8.ofNat (48 + u)).toNat = 48 + u := by rw [UInt8.toNat_ofNat']; omega
      simp only [Lib.parseUint10]
      rw [e, if_pos (by omega), if_neg (by omega), if_neg (by omega)]
      congr 1
      omega
    · rename_i h
      have e : (UInt8.ofNat (48 + u % 10)).toNat = 48 + u % 10 := by rw [UInt8.toNat_ofNat']; omega
      have h1 := ih (u / 10) (by omega) (by omega)
      rw [parse_append _ _ _ _ h1 (by omega) (by rw [e]; omega), e]
      congr 1
      omega
theorem itoa_dec {x : Int} (h : 0 ≤ x) : Lib.itoa x = Lib.decDigits x.toNat := by unfold Lib.itoa; rw [if_neg (by omega)]
theorem number_itoa {x : Int} (h0 : 0 ≤ x) (h1 : x ≤ most) : number (Lib.itoa x) = some x := by
  unfold most at h1
  obtain ⟨u, rfl⟩ : ∃ u : Nat, x = u := ⟨x.toNat, by omega⟩
  have hd := itoa_dec h0
  have ha : Lib.atoiAll (Lib.itoa u) = .ok (u : Int) := by
    rw [hd, Int.toNat_natCast]
    have hp := parse_dec u (by omega)
    have hg := dec_digit u
    have hne := dec_ne u
    generalize Lib.decDigits u = l at hp hg hne
    cases l with
    | nil => exact absurd rfl hne
    | cons c r =>
      have hc := hg c List.mem_cons_self
      have h43 : ¬ (c.toNat = 43 ∨ c.toNat = 45) := by omega
      unfold Lib.atoiAll Lib.parseMag
      simp only [if_neg h43]
      rw [if_neg (by simp), hp]
      simp only
      rw [if_neg (by omega), if_neg (by omega), if_neg (by omega)]
  unfold number
  rw [ha]
  simp only
  rw [if_pos (by refine ⟨by omega, by omega, trivial⟩)]
theorem wd_itoa {x : Int} (h0 : 0 ≤ x) : Wd (Lib.itoa x) (Lib.itoa x) := by
  rw [itoa_dec h0]
  exact wd_bare (dec_ne _) fun b hb => bare_digit (dec_digit _ b hb)
theorem number_some {w : Bs} {x : Int} (h : number w = some x) : 0 ≤ x ∧ x ≤ most ∧ Lib.itoa x = w := by
  unfold number at h
  split at h
  · split at h
    · rename_i h2
      injection h with h
      subst h
      exact h2
    · cases h
  · cases h
end Sp
end Go.Proofs.YthnhfddlmkhgkaaGreatDoor

set_option linter.unusedVariables false
namespace Go.Proofs.YthnhfddlmkhgkaaGreatDoor
namespace Sp
theorem small_getN {c : Call} (h : small c = true) (k : Nat) : 0 ≤ c.getN k ∧ c.getN k ≤ most := by
  simp only [small, List.all_cons, List.all_nil, Bool.and_true, Bool.and_eq_true, decide_eq_true_eq] at h
  unfold Call.getN
  repeat' split
  all_goals omega
theorem fill_back (c : Call) (hs : small c = true) : ∀ (ls : Bs) (c0 : Call), ∃ ws, Wds (ls.map (wordC c)) ws ∧ fillCall ls ws c0 = some (bareC c ls c0) := by
  intro ls
  induction ls with
  | nil => intro c0; exact ⟨[], .nil, by simp [fillCall, bareC]⟩
  | cons l ls ih =>
    intro c0
    cases hk : cell l with
    | some k =>
      have hr := small_getN hs k
      obtain ⟨ws, h1, h2⟩ := ih (c0.setN k (c.getN k))
      refine ⟨Lib.itoa (c.getN k) :: ws, ?_, ?_⟩
      · rw [List.map_cons]
        refine .cons ?_ h1
        simp only [wordC, hk]
        exact wd_itoa hr.1
      · simp only [fillCall, bareC, hk, number_itoa hr.1 hr.2, h2]
    | none =>
      obtain ⟨ws, h1, h2⟩ := ih (c0.setT l (c.getT l))
      refine ⟨c.getT l :: ws, ?_, ?_⟩
      · rw [List.map_cons]
        refine .cons ?_ h1
        simp only [wordC, hk]
        exact wd_text _
      · simp only [fillCall, bareC, hk, h2]
theorem call_names : ∀ j, j < 11 → 0 < j → (callRows.getD j ([], [])).1 ≠ [] ∧ (∀ b ∈ (callRows.getD j ([], [])).1, isBare b = true) ∧ findRow callRows (callRows.getD j ([], [])).1 = j := by decide
theorem step_names : ∀ j, j < 15 → 0 < j → (stepRows.getD j ([], [])).1 ≠ [] ∧ (∀ b ∈ (stepRows.getD j ([], [])).1, isBare b = true) ∧ findRow stepRows (stepRows.getD j ([], [])).1 = j := by decide
theorem written_open {c : Call} (h : (written c).2 = 0) : 1 ≤ c.op ∧ c.op < 11 ∧ c = bareC c (callRows.getD c.op.toNat ([], [])).2 { op := c.op } ∧ small c = true ∧ (written c).1 = join ((callRows.getD c.op.toNat ([], [])).1 :: (callRows.getD c.op.toNat ([], [])).2.map (wordC c)) := by
  unfold written at h ⊢
  split at h
  · cases h
  · rename_i h1
    rw [if_neg h1]
    simp only at h ⊢
    split at h
    · cases h
    · rename_i h2
      rw [if_neg h2]
      split at h
      · cases h
      · rename_i h3
        rw [if_neg h3]
        exact ⟨by omega, by omega, Classical.not_not.1 h2, by simpa using h3, rfl⟩
theorem written_bad {c : Call} (h : (written c).2 ≠ 0) : (written c).1 = [] := by
  unfold written at h ⊢
  split
  · rfl
  · rename_i h1
    rw [if_neg h1] at h
    simp only at h ⊢
    split
    · rfl
    · rename_i h2
      rw [if_neg h2] at h
      split
      · rfl
      · rename_i h3
        rw [if_neg h3] at h
        exact absurd rfl h
theorem written_back {c : Call} (h : (written c).2 = 0) : ∃ Ws ws, (written c).1 = join Ws ∧ Wds Ws ws ∧ ws.length = 1 + (callRows.getD c.op.toNat ([], [])).2.length ∧ shaped ws = (c.op.toNat, 0) ∧ call c.op.toNat ws = (c, 0) := by
  obtain ⟨h1, h2, h3, h4, h5⟩ := written_open h
  obtain ⟨n1, n2, n3⟩ := call_names c.op.toNat (by omega) (by omega)
  obtain ⟨ws, g1, g2⟩ := fill_back c h4 (callRows.getD c.op.toNat ([], [])).2 { op := c.op }
  have hl := g1.len
  rw [List.length_map] at hl
  refine ⟨_, (callRows.getD c.op.toNat ([], [])).1 :: ws, h5, .cons (wd_bare n1 n2) g1, ?_, ?_, ?_⟩
  · rw [List.length_cons]; omega
  · unfold shaped
    simp only [n3]
    rw [if_neg (by omega), if_neg (by omega)]
  · unfold call
    have e : ((c.op.toNat : Nat) : Int) = c.op := by omega
    rw [e, List.drop_one, List.tail_cons, g2, ← h3]
/-! steps -/
def putO (o o0 : Op) (l : UInt8) : Op := if l = 100 then { o0 with data := o.data } else if l = 98 then { o0 with keep := o.keep } else o0.setN ((place l).getD 0) (o.getN ((place l).getD 0))
theorem itoa_ne_server {x : Int} (h : 0 ≤ x) : Lib.itoa x ≠ server := by
  intro e
  rw [itoa_dec h] at e
  have := dec_digit x.toNat 115 (by rw [e]; simp [server])
  exact absurd this (by decide)
theorem wordO_back (o : Op) (called : Bs) (l : UInt8) (hl : l ≠ 99) {W : Bs} (h : wordO o called l = some W) (op : Nat) : ∃ w, Wd W w ∧ ∀ ls ws o0, fillStep op (l :: ls) (w :: ws) o0 0 = fillStep op ls ws (putO o o0 l) 0 := by
  unfold wordO at h
  rw [if_neg hl] at h
  by_cases h1 : l = 100
  · rw [if_pos h1] at h
    injection h with h
    subst h
    obtain ⟨w, g1, g2⟩ := wd_hexed o.data
    refine ⟨w, g1, fun ls ws o0 => ?_⟩
    conv => lhs; unfold fillStep
    rw [if_neg hl, if_pos h1, g2]
    simp only [putO, if_pos h1]
  · rw [if_neg h1] at h
    by_cases h2 : l = 98
    · rw [if_pos h2] at h
      injection h with h
      subst h
      obtain ⟨w, g1, g2⟩ := wd_flagged o.keep
      refine ⟨w, g1, fun ls ws o0 => ?_⟩
      conv => lhs; unfold fillStep
      rw [if_neg hl, if_neg h1, if_pos h2, g2]
      simp only [putO, if_neg h1, if_pos h2]
    · rw [if_neg h2] at h
      simp only at h
      split at h
      · rename_i h3
        injection h with h
        subst h
        refine ⟨server, wd_bare (by decide) (by decide), fun ls ws o0 => ?_⟩
        conv => lhs; unfold fillStep
        rw [if_neg hl, if_neg h1, if_neg h2, if_pos ⟨h3.1, rfl⟩]
        simp only [putO, if_neg h1, if_neg h2, h3.2]
      · split at h
        · cases h
        · rename_i h3 h4
          injection h with h
          subst h
          have h5 : 0 ≤ o.getN ((place l).getD 0) := by omega
          have h6 : o.getN ((place l).getD 0) ≤ most := by omega
          refine ⟨_, wd_itoa h5, fun ls ws o0 => ?_⟩
          conv => lhs; unfold fillStep
          rw [if_neg hl, if_neg h1, if_neg h2, if_neg (fun e => itoa_ne_server h5 e.2), number_itoa h5 h6]
          simp only [putO, if_neg h1, if_neg h2]
theorem wordsO_back (o : Op) (called : Bs) (op : Nat) : ∀ (ls : Bs), 99 ∉ ls → ∀ Ws, wordsO o called ls = some Ws → ∃ ws, Wds Ws ws ∧ ∀ o0, fillStep op ls ws o0 0 = (ls.foldl (putO o) o0, 0) := by
  intro ls
  induction ls with
  | nil =>
    intro _ Ws h
    simp only [wordsO] at h
    injection h with h
    subst h
    exact ⟨[], .nil, fun o0 => by simp [fillStep]⟩
  | cons l ls ih =>
    intro hm Ws h
    simp only [wordsO] at h
    cases hw : wordO o called l with
    | none => rw [hw] at h; cases h
    | some W =>
      rw [hw] at h
      simp only at h
      cases hws : wordsO o called ls with
      | none => rw [hws] at h; cases h
      | some Ws2 =>
        rw [hws] at h
        simp only [Option.map_some] at h
        injection h with h
        subst h
        obtain ⟨w, g1, g2⟩ := wordO_back o called l (fun e => hm (by rw [e]; exact List.mem_cons_self)) hw op
        obtain ⟨ws, g3, g4⟩ := ih (fun e => hm (List.mem_cons_of_mem _ e)) Ws2 hws
        exact ⟨w :: ws, .cons g1 g3, fun o0 => by rw [g2, g4, List.foldl_cons]⟩
theorem wordsO_len {o : Op} {called : Bs} : ∀ {ls : Bs} {Ws : List Bs}, wordsO o called ls = some Ws → Ws.length = ls.length := by
  intro ls
  induction ls with
  | nil => intro Ws h; simp only [wordsO] at h; injection h with h; subst h; rfl
  | cons l ls ih =>
    intro Ws h
    simp only [wordsO] at h
    cases hw : wordO o called l with
    | none => rw [hw] at h; cases h
    | some W =>
      rw [hw] at h
      simp only at h
      cases hws : wordsO o called ls with
      | none => rw [hws] at h; cases h
      | some Ws2 =>
        rw [hws] at h
        simp only [Option.map_some] at h
        injection h with h
        subst h
        simp [ih hws]
theorem line_open {o : Op} (h : (line o).2 = 0) : 1 ≤ o.kind ∧ o.kind < 15 ∧ spare o = false ∧ (o.kind = 1 → (written o.call).2 = 0) ∧ ∃ Ws, wordsO o (if o.kind = 1 then (written o.call).1 else []) (stepRows.getD o.kind.toNat ([], [])).2 = some Ws ∧ (line o).1 = join ((stepRows.getD o.kind.toNat ([], [])).1 :: Ws) := by
  unfold line at h ⊢
  split at h
  · cases h
  · rename_i h1
    rw [if_neg h1]
    split at h
    · cases h
    · rename_i h2
      rw [if_neg h2]
      simp only at h ⊢
      split at h
      · rename_i h3; exact absurd h h3.2
      · rename_i h3
        rw [if_neg h3]
        split at h
        · rename_i Ws hW
          rw [hW]
          refine ⟨by omega, by omega, by simpa using h2, fun e => ?_, Ws, rfl, rfl⟩
          rcases Nat.eq_zero_or_pos (written o.call).2 with h | h
          · exact h
          · exact absurd ⟨e, by omega⟩ h3
        · cases h
theorem line_bad {o : Op} (h : (line o).2 ≠ 0) : (line o).1 = [] := by
  unfold line at h ⊢
  split
  · rfl
  · split
    · rfl
    · simp only
      split
      · rfl
      · rename_i h1 h2 h3
        rw [if_neg h1, if_neg h2] at h
        simp only at h
        rw [if_neg h3] at h
        split
        · rename_i Ws hW
          rw [hW] at h
          exact absurd rfl h
        · rfl
theorem spare_fold (o : Op) (h : spare o = false) (h1 : 2 ≤ o.kind) (h2 : o.kind < 15) : (stepRows.getD o.kind.toNat ([], [])).2.foldl (putO o) { kind := o.kind } = o := by
  obtain ⟨kind, a, k, m, x, call, data, keep⟩ := o
  simp only at h1 h2
  obtain ⟨n, rfl⟩ : ∃ n : Nat, kind = n := ⟨kind.toNat, by omega⟩
  have : n = 2 ∨ n = 3 ∨ n = 4 ∨ n = 5 ∨ n = 6 ∨ n = 7 ∨ n = 8 ∨ n = 9 ∨ n = 10 ∨ n = 11 ∨ n = 12 ∨ n = 13 ∨ n = 14 := by omega
  rcases this with rfl | rfl | rfl | rfl | rfl | rfl | rfl | rfl | rfl | rfl | rfl | rfl | rfl <;>
    (simp [spare, stepRows] at h; simp [stepRows, putO, place, Op.setN, Op.getN, h])
theorem line_back {o : Op} (h : (line o).2 = 0) : ∃ Ws ws, (line o).1 = join Ws ∧ Wds Ws ws ∧ ws ≠ [] ∧ step ws = (o, 0) := by
  obtain ⟨h1, h2, h3, h4, Ws, h5, h6⟩ := line_open h
  obtain ⟨n1, n2, n3⟩ := step_names o.kind.toNat (by omega) (by omega)
  have hk : ((o.kind.toNat : Nat) : Int) = o.kind := by omega
  by_cases hc : o.kind = 1
  · obtain ⟨Vs, vs, c1, c2, c3, c4, c5⟩ := written_back (h4 hc)
    rw [if_pos hc, c1] at h5
    have hf : (stepRows.getD o.kind.toNat ([], [])).2 = [97, 99] := by rw [hc]; rfl
    rw [hf] at h5
    simp only [wordsO] at h5
    cases hw : wordO o (join Vs) 97 with
    | none => rw [hw] at h5; cases h5
    | some W =>
      rw [hw] at h5
      have hc2 : wordO o (join Vs) 99 = some (join Vs) := by unfold wordO; rw [if_pos rfl]
      rw [hc2] at h5
      simp only [Option.map_some] at h5
      injection h5 with h5
      subst h5
      obtain ⟨w, g1, g2⟩ := wordO_back o (join Vs) 97 (by decide) hw o.call.op.toNat
      cases c2 with
      | nil => simp at c3; omega
      | @cons V v Vs vs d1 d2 =>
        refine ⟨_ :: W :: V :: Vs, (stepRows.getD o.kind.toNat ([], [])).1 :: w :: v :: vs, ?_, .cons (wd_bare n1 n2) (.cons g1 (.cons d1 d2)), by simp, ?_⟩
        · rw [h6]; simp [join]
        · unfold step
          simp only [List.getD_cons_zero, n3, List.drop_succ_cons, List.drop_zero]
          rw [if_neg (by omega), if_pos (by omega), if_neg (by simp), c4, if_neg (by simp), hf, hk]
          simp only
          rw [g2]
          conv => lhs; unfold fillStep
          rw [if_pos rfl, c5, if_pos rfl]
          simp only [fillStep]
          obtain ⟨kind, a, k, m, x, call, data, keep⟩ := o
          simp only at hc
          subst hc
          simp [spare, stepRows] at h3
          simp [putO, place, Op.setN, Op.getN, h3]
  · obtain ⟨ws, g1, g2⟩ := wordsO_back o _ 0 _ (by
      have : ∀ j, j < 15 → j ≠ 1 → 99 ∉ (stepRows.getD j ([], [])).2 := by decide
      exact this _ (by omega) (by omega)) Ws h5
    have hl := g1.len
    have hl2 := wordsO_len h5
    refine ⟨_, (stepRows.getD o.kind.toNat ([], [])).1 :: ws, h6, .cons (wd_bare n1 n2) g1, by simp, ?_⟩
    unfold step
    simp only [List.getD_cons_zero, n3, List.drop_succ_cons, List.drop_zero]
    rw [if_neg (by omega), if_neg (by omega), if_neg (by omega), hk, g2, spare_fold o h3 (by omega) h2]
end Sp
end Go.Proofs.YthnhfddlmkhgkaaGreatDoor

set_option linter.unusedVariables false
namespace Go.Proofs.YthnhfddlmkhgkaaGreatDoor
namespace Sp
theorem line1_eq {L r : Bs} (h : 10 ∉ L) : line1 (L ++ 10 :: r) = L ∧ rest1 (L ++ 10 :: r) = r := by
  have h1 : ∀ b ∈ L, decide (b ≠ 10) = true := fun b hb => by
    rw [decide_eq_true_iff]; rintro rfl; exact h hb
  unfold line1 rest1
  rw [List.takeWhile_append_of_pos h1, List.dropWhile_append_of_pos h1]
  simp
theorem lines_nil (n : Nat) (b : Bool) (p : Play) : lines [] n b p = if b then (p, 0, 0) else ({}, 0, 211) := by unfold lines; rfl
theorem lines_cons {t : Bs} (ht : t ≠ []) (n : Nat) (b : Bool) (p : Play) : lines t n b p = if (lineOf (line1 t) b p).2.2 ≠ 0 then ({}, n, (lineOf (line1 t) b p).2.2) else lines (rest1 t) (n + 1) (lineOf (line1 t) b p).2.1 (lineOf (line1 t) b p).1 := by
  cases t with
  | nil => exact absurd rfl ht
  | cons c r => conv => lhs; unfold lines
theorem lines_line {L r : Bs} (h : 10 ∉ L) (n : Nat) (b : Bool) (p : Play) : lines (L ++ 10 :: r) n b p = if (lineOf L b p).2.2 ≠ 0 then ({}, n, (lineOf L b p).2.2) else lines r (n + 1) (lineOf L b p).2.1 (lineOf L b p).1 := by
  rw [lines_cons (by simp), (line1_eq h).1, (line1_eq h).2]
theorem plain_nl {t : Bs} (h : ∀ b ∈ t, 32 ≤ b.toNat ∧ b.toNat ≤ 126) : 10 ∉ t := fun e => absurd (h 10 e) (by decide)
theorem split_ws {Ws ws : List Bs} (h : Wds Ws ws) : split (join Ws) = some ws := by
  have := split_join h [] rfl
  rw [List.append_nil, split_nil (s := []) rfl] at this
  simpa using this
theorem lineOf_step {ws : List Bs} {L : Bs} (h : split L = some ws) (hne : ws ≠ []) (p : Play) (hp : p.ops.length ≠ 2000) : lineOf L true p = ({ p with ops := p.ops ++ [(step ws).1] }, true, (step ws).2) := by
  unfold lineOf
  rw [h]
  cases ws with
  | nil => exact absurd rfl hne
  | cons w ws => simp only; rw [if_neg (by decide), if_neg hp]
theorem linesP_back : ∀ (os : List Op) (t : Bs) (n : Nat) (p : Play), linesP os = (none, t) → p.ops.length + os.length ≤ 2000 → lines t n true p = ({ p with ops := p.ops ++ os }, 0, 0) := by
  intro os
  induction os with
  | nil =>
    intro t n p h hl
    simp only [linesP] at h
    injection h with _ h
    subst h
    rw [lines_nil]
    simp
  | cons o os ih =>
    intro t n p h hl
    simp only [linesP] at h
    split at h
    · cases h
    · rename_i h1
      have h2 : (line o).2 = 0 := by omega
      injection h with h3 h4
      subst h4
      obtain ⟨Ws, ws, g1, g2, g3, g4⟩ := line_back h2
      simp only [List.length_cons] at hl
      rw [g1, lines_line (plain_nl g2.plain), lineOf_step (split_ws g2) g3 p (by omega), g4]
      simp only
      rw [if_neg (by simp), ih _ _ _ (by rw [← h3]) (by simp; omega)]
      simp
theorem linesP_bad : ∀ {os : List Op} {e : Nat} {t : Bs}, linesP os = (some e, t) → e ≠ 0 := by
  intro os
  induction os with
  | nil => intro e t h; simp [linesP] at h
  | cons o os ih =>
    intro e t h
    simp only [linesP] at h
    split at h
    · rename_i h1
      injection h with h2 h3
      injection h2 with h2
      omega
    · injection h with h2 h3
      exact ih (t := (linesP os).2) (by rw [← h2])
theorem fillWorld_back : ∀ (l : List Int), numsOk l = true → Wds (l.map Lib.itoa) (l.map Lib.itoa) ∧ fillWorld (l.map Lib.itoa) = some l := by
  intro l
  induction l with
  | nil => intro _; exact ⟨.nil, rfl⟩
  | cons x l ih =>
    intro h
    simp only [numsOk, List.all_cons, Bool.and_eq_true, decide_eq_true_eq] at h
    obtain ⟨g1, g2⟩ := ih h.2
    refine ⟨.cons (wd_itoa h.1.1) g1, ?_⟩
    simp only [List.map_cons, fillWorld, number_itoa h.1.1 h.1.2, g2]
    rfl
theorem join_cons (W : Bs) (Ws : List Bs) : join (W :: Ws) = W ++ Ws.flatMap (32 :: ·) := by
  induction Ws generalizing W with
  | nil => simp [join]
  | cons V Ws ih => simp only [join, List.flatMap_cons]; rw [ih]; rfl
theorem headLine_eq (l : List Int) : headLine l = join (wrld :: l.map Lib.itoa) ++ [10] := by
  rw [join_cons]
  unfold headLine
  rw [List.flatMap_map]
theorem head_back {l : List Int} (h : numsOk l = true) (hl : l.length = 11) (r : Bs) (n : Nat) (p : Play) : lines (headLine l ++ r) n false p = lines r (n + 1) true { nums := l } := by
  obtain ⟨g1, g2⟩ := fillWorld_back l h
  have hw : Wds (wrld :: l.map Lib.itoa) (wrld :: l.map Lib.itoa) := .cons (wd_bare (by decide) (by decide)) g1
  rw [headLine_eq, List.append_assoc, List.singleton_append, lines_line (plain_nl hw.plain)]
  have e : lineOf (join (wrld :: l.map Lib.itoa)) false p = ({ nums := l }, true, 0) := by
    unfold lineOf
    rw [split_ws hw]
    simp only
    rw [if_pos trivial]
    have : world (wrld :: l.map Lib.itoa) = ({ nums := l }, 0) := by
      unfold world
      simp only [List.getD_cons_zero]
      rw [if_neg (by simp), if_neg (by simp [hl]), List.drop_one, List.tail_cons, g2]
    rw [this]
  rw [e]
  simp
theorem print_open {p : Play} (h : (print p).2 = 0) : numsOk p.nums = true ∧ p.ops.length ≤ 2000 ∧ ∃ t, linesP p.ops = (none, t) ∧ (print p).1 = headLine p.nums ++ t ∧ (headLine p.nums ++ t).length ≤ 1048576 := by
  unfold print at h ⊢
  split at h
  · cases h
  · rename_i h1
    rw [if_neg h1]
    split at h
    · cases h
    · rename_i h2
      rw [if_neg h2]
      refine ⟨by simpa using h1, by omega, ?_⟩
      cases hq : linesP p.ops with
      | mk e t =>
        rw [hq] at h
        cases e with
        | some e =>
          exact absurd h (linesP_bad hq)
        | none =>
          simp only at h ⊢
          split at h
          · cases h
          · rename_i h3
            rw [if_neg h3]
            exact ⟨t, rfl, rfl, by omega⟩
/-- what is written is read as the same play -/
theorem print_back {p : Play} (hn : p.nums.length = 11) (h : (print p).2 = 0) : parse (print p).1 = (p, 0, 0) := by
  obtain ⟨h1, h2, t, h3, h4, h5⟩ := print_open h
  rw [h4]
  unfold parse
  rw [if_neg (by omega), head_back h1 hn, linesP_back _ _ _ _ h3 (by simpa using h2)]
  simp
theorem print_bad {p : Play} (h : (print p).2 ≠ 0) : (print p).1 = [] := by
  unfold print at h ⊢
  split
  · rfl
  · rename_i h1
    rw [if_neg h1] at h
    split
    · rfl
    · rename_i h2
      rw [if_neg h2] at h
      cases hq : linesP p.ops with
      | mk e t =>
        rw [hq] at h
        cases e with
        | some e => rfl
        | none =>
          simp only at h ⊢
          split
          · rfl
          · rename_i h3
            rw [if_neg h3] at h
            exact absurd rfl h
end Sp
end Go.Proofs.YthnhfddlmkhgkaaGreatDoor

set_option linter.unusedVariables false
namespace Go.Proofs.YthnhfddlmkhgkaaGreatDoor
namespace Sp
theorem small_setN {c : Call} (h : small c = true) (k : Nat) {x : Int} (h0 : 0 ≤ x) (h1 : x ≤ most) : small (c.setN k x) = true := by
  simp only [small, List.all_cons, List.all_nil, Bool.and_true, Bool.and_eq_true, decide_eq_true_eq] at *
  unfold Call.setN
  repeat' split
  all_goals (simp only; omega)
theorem small_setT {c : Call} (h : small c = true) (l : UInt8) (w : Bs) : small (c.setT l w) = true := by
  unfold Call.setT
  repeat' split
  all_goals exact h
theorem fill_small : ∀ (ls : Bs) (ws : List Bs) (c0 c : Call), small c0 = true → fillCall ls ws c0 = some c → small c = true ∧ (∀ op, c0.op = op → c.op = op) := by
  intro ls
  induction ls with
  | nil => intro ws c0 c h0 h; simp only [fillCall] at h; injection h with h; subst h; exact ⟨h0, fun _ h => h⟩
  | cons l ls ih =>
    intro ws c0 c h0 h
    cases ws with
    | nil => simp only [fillCall] at h; injection h with h; subst h; exact ⟨h0, fun _ h => h⟩
    | cons w ws =>
      simp only [fillCall] at h
      cases hk : cell l with
      | some k =>
        rw [hk] at h
        simp only at h
        cases hn : number w with
        | none => rw [hn] at h; cases h
        | some x =>
          rw [hn] at h
          obtain ⟨g1, g2, g3⟩ := number_some hn
          obtain ⟨q1, q2⟩ := ih ws _ c (small_setN h0 k g1 g2) h
          refine ⟨q1, fun op e => q2 op ?_⟩
          rw [← e]; unfold Call.setN; repeat' split
          all_goals rfl
      | none =>
        rw [hk] at h
        obtain ⟨q1, q2⟩ := ih ws _ c (small_setT h0 l w) h
        refine ⟨q1, fun op e => q2 op ?_⟩
        rw [← e]; unfold Call.setT; repeat' split
        all_goals rfl
theorem fill_bare {op : Nat} (h1 : op ≠ 0) (h2 : op < 11) {ws : List Bs} (hl : ws.length = (callRows.getD op ([], [])).2.length) {o : Int} {c : Call} (h : fillCall (callRows.getD op ([], [])).2 ws { op := o } = some c) : bareC c (callRows.getD op ([], [])).2 { op := o } = c := by
  have : op = 1 ∨ op = 2 ∨ op = 3 ∨ op = 4 ∨ op = 5 ∨ op = 6 ∨ op = 7 ∨ op = 8 ∨ op = 9 ∨ op = 10 := by omega
  rcases this with rfl | rfl | rfl | rfl | rfl | rfl | rfl | rfl | rfl | rfl <;>
    rcases ws with _ | ⟨w1, _ | ⟨w2, _ | ⟨w3, _ | ⟨w4, _ | ⟨w5, r⟩⟩⟩⟩⟩ <;> (simp [callRows] at hl) <;> (try (exfalso; omega)) <;>
    (simp [callRows, fillCall, cell] at h ⊢) <;> (repeat' split at h) <;> (first | (cases h; done) | skip) <;>
    (try simp only [Option.some.injEq] at h) <;> (subst h; simp [bareC, cell, Call.setT, Call.setN, Call.getT, Call.getN])
theorem shaped_open {ws : List Bs} (h : (shaped ws).2 = 0) : (shaped ws).1 ≠ 0 ∧ (shaped ws).1 < 11 ∧ ws.length = 1 + (callRows.getD (shaped ws).1 ([], [])).2.length := by
  unfold shaped at h ⊢
  cases ws with
  | nil => cases h
  | cons n r =>
    simp only at h ⊢
    split at h
    · cases h
    · rename_i h1
      rw [if_neg h1]
      split at h
      · cases h
      · rename_i h2
        rw [if_neg h2]
        refine ⟨h1, (find_lt h1).1, ?_⟩
        simp only [List.length_cons]
        omega
theorem call_ok {op : Nat} {ws : List Bs} (h1 : op ≠ 0) (h2 : op < 11) (hl : ws.length = 1 + (callRows.getD op ([], [])).2.length) (h : (call op ws).2 = 0) : (written (call op ws).1).2 = 0 := by
  unfold call at h ⊢
  cases hf : fillCall (callRows.getD op ([], [])).2 (ws.drop 1) { op := op } with
  | none => rw [hf] at h; cases h
  | some c =>
    simp only
    have hb := fill_bare h1 h2 (by rw [List.length_drop]; omega) hf
    obtain ⟨hs, ho⟩ := fill_small _ _ _ _ (by rfl) hf
    have ho := ho _ rfl
    unfold written
    have ho : c.op = (op : Int) := ho
    rw [if_neg (by rw [ho]; omega)]
    simp only
    rw [ho, Int.toNat_natCast, if_neg (fun e => e hb.symm), hs, if_neg (by simp)]
theorem step_ok {ws : List Bs} (h : (step ws).2 = 0) : (line (step ws).1).2 = 0 := by
  unfold step at h ⊢
  simp only at h ⊢
  generalize hk : findRow stepRows (ws.getD 0 []) = kind at h ⊢
  split at h
  · cases h
  · rename_i h1
    have hlt : kind < 15 := by rw [← hk]; exact (find_lt (by rw [hk]; exact h1)).1
    rw [if_neg h1]
    split at h
    · rename_i h2
      subst h2
      rw [if_pos rfl]
      split at h
      · cases h
      · rename_i h3
        rw [if_neg h3]
        split at h
        · rename_i h4; exact absurd h h4
        · rename_i h4
          rw [if_neg h4]
          have h5 : (shaped ((ws.drop 1).drop 1)).2 = 0 := by omega
          obtain ⟨s1, s2, s3⟩ := shaped_open h5
          generalize (shaped ((ws.drop 1).drop 1)).1 = op at *
          generalize ws.drop 1 = rest at *
          match rest, h3 with
          | w :: v :: vs, _ =>
            simp only [List.drop_succ_cons, List.drop_zero] at s3
            have hc := call_ok s1 s2 s3
            simp [stepRows, fillStep] at h ⊢
            cases hn : number w with
            | none => simp [hn] at h
            | some x =>
              obtain ⟨g1, g2, g3⟩ := number_some hn
              simp [hn] at h ⊢
              by_cases hc2 : (call op (v :: vs)).2 = 0
              · have hc := hc hc2
                simp [hc2, place, Op.setN, line, spare, stepRows, wordsO, wordO, Op.getN, hc]
                rw [if_neg (by omega)]
              · simp [hc2] at h
    · rename_i h2
      rw [if_neg h2]
      split at h
      · cases h
      · rename_i h3
        rw [if_neg h3]
        generalize ws.drop 1 = rest at *
        have hr : rest.length = (stepRows.getD kind ([], [])).2.length := by omega
        clear h3 hk
        have hm : ∀ {w x}, number w = some x → ¬ (x < 0 ∨ most < x) := fun hn => by
          obtain ⟨g1, g2, g3⟩ := number_some hn; omega
        have : kind = 2 ∨ kind = 3 ∨ kind = 4 ∨ kind = 5 ∨ kind = 6 ∨ kind = 7 ∨ kind = 8 ∨ kind = 9 ∨ kind = 10 ∨ kind = 11 ∨ kind = 12 ∨ kind = 13 ∨ kind = 14 := by omega
        rcases this with rfl | rfl | rfl | rfl | rfl | rfl | rfl | rfl | rfl | rfl | rfl | rfl | rfl <;>
          rcases rest with _ | ⟨w1, _ | ⟨w2, _ | ⟨w3, _ | ⟨w4, r⟩⟩⟩⟩ <;> (simp [stepRows] at hr) <;>
          (try (exfalso; omega)) <;> (simp [stepRows, fillStep] at h ⊢)
        · cases n1 : number w1 with
          | none => simp [n1] at h
          | some x1 =>
            cases n2 : number w2 with
            | none => simp [n1, n2] at h
            | some x2 => simp [place, Op.setN, line, spare, stepRows, wordsO, wordO, Op.getN]; rw [if_neg (hm n1), if_neg (hm n2)]; rfl
        · cases n1 : number w1 with
          | none => simp [n1] at h
          | some x1 => simp [place, Op.setN, line, spare, stepRows, wordsO, wordO, Op.getN]; rw [if_neg (hm n1)]
        · cases n1 : number w1 with
          | none => simp [n1] at h
          | some x1 => simp [place, Op.setN, line, spare, stepRows, wordsO, wordO, Op.getN]; rw [if_neg (hm n1)]
        · cases n1 : number w1 with
          | none => simp [n1] at h
          | some x1 => simp [place, Op.setN, line, spare, stepRows, wordsO, wordO, Op.getN]; rw [if_neg (hm n1)]
        · cases n1 : number w1 with
          | none => simp [n1] at h
          | some x1 => simp [place, Op.setN, line, spare, stepRows, wordsO, wordO, Op.getN]; rw [if_neg (hm n1)]
        · cases n1 : number w1 with
          | none => simp [n1] at h
          | some x1 => simp [place, Op.setN, line, spare, stepRows, wordsO, wordO, Op.getN]; rw [if_neg (hm n1)]
        · cases n1 : number w1 with
          | none => simp [n1] at h
          | some x1 =>
            cases n2 : number w2 with
            | none => simp [n1, n2] at h
            | some x2 =>
              cases n3 : number w3 with
              | none => simp [n1, n2, n3] at h
              | some x3 => simp [place, Op.setN, line, spare, stepRows, wordsO, wordO, Op.getN]; rw [if_neg (hm n1), if_neg (hm n2), if_neg (hm n3)]; rfl
        · cases hh : hex w2 with
          | none => by_cases hw : w1 = server <;> (simp [hw, hh] at h); cases n1 : number w1 <;> simp [n1] at h
          | some d =>
            by_cases hw : w1 = server
            · simp [hw, place, Op.setN, line, spare, stepRows, wordsO, wordO, Op.getN]
            · cases n1 : number w1 with
              | none => simp [hw, n1] at h
              | some x1 =>
                simp [hw, place, Op.setN, line, spare, stepRows, wordsO, wordO, Op.getN]
                have := hm n1
                by_cases hx : x1 = -1
                · simp [hx]
                · rw [if_neg hx, if_neg this]
        · cases n1 : number w1 with
          | none => simp [n1] at h
          | some x1 => simp [place, Op.setN, line, spare, stepRows, wordsO, wordO, Op.getN]; rw [if_neg (hm n1)]
        · cases hf : flags w1 with
          | none => simp [hf] at h
          | some b => simp [line, spare, stepRows, wordsO, wordO]
        · simp [line, spare, stepRows, wordsO]
        · cases n1 : number w1 with
          | none => simp [n1] at h
          | some x1 => simp [place, Op.setN, line, spare, stepRows, wordsO, wordO, Op.getN]; rw [if_neg (hm n1)]
        · simp [line, spare, stepRows, wordsO]
/-! plays -/
def okPlay (p : Play) : Prop := numsOk p.nums = true ∧ p.nums.length = 11 ∧ p.ops.length ≤ 2000 ∧ ∀ o ∈ p.ops, (line o).2 = 0
theorem fillWorld_ok : ∀ (ws : List Bs) (l : List Int), fillWorld ws = some l → numsOk l = true ∧ l.length = ws.length := by
  intro ws
  induction ws with
  | nil => intro l h; simp only [fillWorld] at h; injection h with h; subst h; exact ⟨rfl, rfl⟩
  | cons w ws ih =>
    intro l h
    simp only [fillWorld] at h
    cases hn : number w with
    | none => rw [hn] at h; cases h
    | some x =>
      rw [hn] at h
      simp only at h
      cases hf : fillWorld ws with
      | none => rw [hf] at h; cases h
      | some l2 =>
        rw [hf] at h
        simp only [Option.map_some] at h
        injection h with h
        subst h
        obtain ⟨g1, g2⟩ := ih l2 hf
        obtain ⟨q1, q2, q3⟩ := number_some hn
        refine ⟨?_, by simp [g2]⟩
        simp only [numsOk, List.all_cons, Bool.and_eq_true, decide_eq_true_eq]
        exact ⟨⟨q1, q2⟩, g1⟩
theorem world_ok {ws : List Bs} (h : (world ws).2 = 0) : okPlay (world ws).1 := by
  unfold world at h ⊢
  split at h
  · cases h
  · rename_i h1
    rw [if_neg h1]
    split at h
    · cases h
    · rename_i h2
      rw [if_neg h2]
      cases hf : fillWorld (ws.drop 1) with
      | none => rw [hf] at h; cases h
      | some l =>
        obtain ⟨g1, g2⟩ := fillWorld_ok _ _ hf
        refine ⟨g1, ?_, by simp, by simp⟩
        simp only
        rw [g2, List.length_drop]
        omega
theorem lineOf_ok {t : Bs} {b : Bool} {p : Play} (hp : okPlay p) (h : (lineOf t b p).2.2 = 0) : okPlay (lineOf t b p).1 := by
  unfold lineOf at h ⊢
  split at h
  · cases h
  · exact hp
  · rename_i ws hne hs
    cases ws with
    | nil => exact absurd rfl (fun e => hne e)
    | cons w ws =>
      split at h
      · rename_i h1
        rw [if_pos h1]
        exact world_ok h
      · rename_i h1
        rw [if_neg h1]
        split at h
        · cases h
        · rename_i h2
          rw [if_neg h2]
          obtain ⟨q1, q2, q3, q4⟩ := hp
          refine ⟨q1, q2, ?_, fun o ho => ?_⟩
          · simp only [List.length_append, List.length_cons, List.length_nil]; omega
          · rcases List.mem_append.1 ho with ho | ho
            · exact q4 o ho
            · rw [List.mem_singleton.1 ho]
              exact step_ok h
theorem lines_ok (k : Nat) : ∀ (t : Bs) (n : Nat) (b : Bool) (p : Play), t.length ≤ k → okPlay p → (lines t n b p).2.2 = 0 → okPlay (lines t n b p).1 := by
  induction k with
  | zero =>
    intro t n b p ht hp h
    obtain rfl : t = [] := List.eq_nil_of_length_eq_zero (by omega)
    rw [lines_nil] at *
    cases b
    · cases h
    · exact hp
  | succ k ih =>
    intro t n b p ht hp h
    by_cases he : t = []
    · subst he
      rw [lines_nil] at *
      cases b
      · cases h
      · exact hp
    · rw [lines_cons he] at *
      split at h
      · rename_i h1; exact absurd h h1
      · rename_i h1
        rw [if_neg h1]
        have hl : (rest1 t).length ≤ k := by
          cases t with
          | nil => exact absurd rfl he
          | cons c r => have := rest1_len c r; simp only [List.length_cons] at *; omega
        exact ih _ _ _ _ hl (lineOf_ok hp (by omega)) h
theorem okPlay_nil : okPlay {} := ⟨by decide, rfl, by simp, by simp⟩
/-- what is read may be written -/
theorem parse_ok {t : Bs} (h : (parse t).2.2 = 0) : okPlay (parse t).1 := by
  unfold parse at h ⊢
  split at h
  · cases h
  · rename_i h1
    rw [if_neg h1]
    exact lines_ok _ t 1 false {} (Nat.le_refl _) okPlay_nil h
theorem linesP_ok : ∀ (os : List Op), (∀ o ∈ os, (line o).2 = 0) → ∃ t, linesP os = (none, t) := by
  intro os
  induction os with
  | nil => intro _; exact ⟨_, rfl⟩
  | cons o os ih =>
    intro h
    obtain ⟨t, ht⟩ := ih fun o ho => h o (List.mem_cons_of_mem _ ho)
    simp only [linesP]
    rw [if_neg (by have := h o List.mem_cons_self; omega), ht]
    exact ⟨_, rfl⟩
theorem print_ok {p : Play} (h : okPlay p) : (print p).2 = 0 ∨ print p = ([], 216) := by
  obtain ⟨h1, h2, h3, h4⟩ := h
  obtain ⟨t, ht⟩ := linesP_ok p.ops h4
  unfold print
  rw [if_neg (by simp [h1]), if_neg (by omega), ht]
  simp only
  split
  · right; rfl
  · left; rfl
end Sp
end Go.Proofs.YthnhfddlmkhgkaaGreatDoor

set_option linter.unusedVariables false
namespace Go.Proofs.YthnhfddlmkhgkaaGreatDoor
namespace Sp
theorem little_print : print little = (littleT, 0) := by decide +kernel
theorem little_parse : parse littleT = (little, 0, 0) := by
  have h := print_back (p := little) rfl (by rw [little_print])
  rw [little_print] at h
  exact h
end Sp
end Go.Proofs.YthnhfddlmkhgkaaGreatDoor

set_option linter.unusedVariables false
namespace Go.Proofs.YthnhfddlmkhgkaaGreatDoor
namespace Sp
/-- the text's first lines, that many -/
def upto : Nat → Bs → Bs
  | 0, _ => []
  | k + 1, t => if 10 ∈ t then line1 t ++ 10 :: upto k (rest1 t) else t
theorem line1_no {t : Bs} (h : 10 ∉ t) : line1 t = t ∧ rest1 t = [] := by
  have h1 : ∀ b ∈ t, decide (b ≠ 10) = true := fun b hb => by
    rw [decide_eq_true_iff]; rintro rfl; exact h hb
  unfold line1 rest1
  have e1 := List.takeWhile_append_of_pos (l₂ := []) h1
  have e2 := List.dropWhile_append_of_pos (l₂ := []) h1
  simp only [List.append_nil, List.takeWhile_nil, List.dropWhile_nil] at e1 e2
  rw [e1, e2]
  exact ⟨rfl, rfl⟩
theorem line1_free (t : Bs) : 10 ∉ line1 t := by
  intro h
  have := List.all_eq_true.1 (List.all_takeWhile (p := fun b : UInt8 => decide (b ≠ 10)) (l := t)) 10 h
  simp at this
theorem line1_split {t : Bs} (h : 10 ∈ t) : t = line1 t ++ 10 :: rest1 t := by
  have h1 := List.takeWhile_append_dropWhile (p := fun b : UInt8 => decide (b ≠ 10)) (l := t)
  cases hd : t.dropWhile (fun b : UInt8 => decide (b ≠ 10)) with
  | nil =>
    rw [hd, List.append_nil] at h1
    exact absurd (by rw [← h1] at h; exact h) (line1_free t)
  | cons c r =>
    have hc := List.head?_dropWhile_not (p := fun b : UInt8 => decide (b ≠ 10)) (l := t)
    rw [hd] at hc
    simp at hc
    subst hc
    unfold line1 rest1
    rw [hd]
    simp only [List.drop_succ_cons, List.drop_zero]
    rw [hd] at h1
    exact h1.symm
theorem lines_tell (k : Nat) : ∀ (t : Bs) (n : Nat) (b : Bool) (p : Play), t.length ≤ k → 1 ≤ n →
    ((lines t n b p).2.1 = 0 ∧ ((lines t n b p).2.2 = 0 ∨ (lines t n b p).2.2 = 211 ∧ (lines t n b p).1 = {})) ∨
    (n ≤ (lines t n b p).2.1 ∧ (lines t n b p).2.2 ≠ 0 ∧ (lines t n b p).1 = {} ∧ (∀ s, lines (upto ((lines t n b p).2.1 - n + 1) t ++ 10 :: s) n b p = lines t n b p) ∧
      (lines (upto ((lines t n b p).2.1 - n) t) n b p).2.1 = 0 ∧ ((lines (upto ((lines t n b p).2.1 - n) t) n b p).2.2 = 0 ∨ (lines (upto ((lines t n b p).2.1 - n) t) n b p).2.2 = 211)) := by
  induction k with
  | zero =>
    intro t n b p ht hn
    obtain rfl : t = [] := List.eq_nil_of_length_eq_zero (by omega)
    left
    rw [lines_nil]
    cases b <;> simp
  | succ k ih =>
    intro t n b p ht hn
    by_cases he : t = []
    · subst he
      left
      rw [lines_nil]
      cases b <;> simp
    · have hc := lines_cons he n b p
      have hnil : ∀ b p, (lines [] n b p).2.1 = 0 ∧ ((lines [] n b p).2.2 = 0 ∨ (lines [] n b p).2.2 = 211) := by
        intro b p; rw [lines_nil]; cases b <;> simp
      by_cases hq : (lineOf (line1 t) b p).2.2 ≠ 0
      · right
        rw [if_pos hq] at hc
        rw [hc]
        simp only [Nat.sub_self, Nat.zero_add]
        refine ⟨Nat.le_refl _, hq, trivial, fun s => ?_, hnil b p⟩
        have e : ∃ s2, upto 1 t ++ 10 :: s = line1 t ++ 10 :: s2 := by
          simp only [upto]
          split
          · exact ⟨10 :: s, by simp⟩
          · rename_i h; exact ⟨s, by rw [(line1_no h).1]⟩
        obtain ⟨s2, e⟩ := e
        rw [e, lines_line (line1_free t), if_pos hq]
      · rw [if_neg hq] at hc
        have hl : (rest1 t).length ≤ k := by
          cases t with
          | nil => exact absurd rfl he
          | cons c r => have := rest1_len c r; simp only [List.length_cons] at *; omega
        have hi := ih (rest1 t) (n + 1) (lineOf (line1 t) b p).2.1 (lineOf (line1 t) b p).1 hl (by omega)
        rw [← hc] at hi
        rcases hi with hi | ⟨h1, h2, h3, h4, h5⟩
        · exact Or.inl hi
        · right
          have hm : 10 ∈ t := by
            by_cases hm : 10 ∈ t
            · exact hm
            · rw [(line1_no hm).2, lines_nil] at hc
              rw [hc] at h1
              exfalso
              revert h1
              split <;> simp
          obtain ⟨j, hj⟩ : ∃ j, (lines t n b p).2.1 - n = j + 1 := ⟨(lines t n b p).2.1 - n - 1, by omega⟩
          rw [show (lines t n b p).2.1 - (n + 1) + 1 = j + 1 by omega] at h4
          rw [show (lines t n b p).2.1 - (n + 1) = j by omega] at h5
          rw [hj]
          have hu : ∀ i, upto (i + 1) t = line1 t ++ 10 :: upto i (rest1 t) := fun i => by simp only [upto]; rw [if_pos hm]
          refine ⟨by omega, h2, h3, fun s => ?_, ?_⟩
          · rw [hu, List.append_assoc, List.cons_append, lines_line (line1_free t), if_neg hq]
            exact h4 s
          · rw [hu, lines_line (line1_free t), if_neg hq]
            exact h5
theorem lines_shift (j : Nat) (k : Nat) : ∀ (t : Bs) (n : Nat) (b : Bool) (p : Play), t.length ≤ k → 1 ≤ n →
    lines t (n + j) b p = ((lines t n b p).1, if (lines t n b p).2.1 = 0 then 0 else (lines t n b p).2.1 + j, (lines t n b p).2.2) := by
  induction k with
  | zero =>
    intro t n b p ht hn
    obtain rfl : t = [] := List.eq_nil_of_length_eq_zero (by omega)
    rw [lines_nil, lines_nil]
    cases b <;> simp
  | succ k ih =>
    intro t n b p ht hn
    by_cases he : t = []
    · subst he
      rw [lines_nil, lines_nil]
      cases b <;> simp
    · rw [lines_cons he n b p, lines_cons he (n + j) b p]
      split
      · simp only
        rw [if_neg (by omega)]
      · have hl : (rest1 t).length ≤ k := by
          cases t with
          | nil => exact absurd rfl he
          | cons c r => have := rest1_len c r; simp only [List.length_cons] at *; omega
        rw [show n + j + 1 = n + 1 + j by omega]
        exact ih _ _ _ _ hl (by omega)
theorem lineOf_blank (L : Bs) (h : split L = some []) (b : Bool) (p : Play) : lineOf L b p = (p, b, 0) := by
  unfold lineOf; rw [h]
theorem lines_skip {L : Bs} (h : split L = some []) (hn : 10 ∉ L) (t : Bs) (n : Nat) (b : Bool) (p : Play) : lines (L ++ 10 :: t) n b p = lines t (n + 1) b p := by
  rw [lines_line hn, lineOf_blank L h]
  simp
theorem lines_lead (j : Nat) : ∀ (t : Bs) (n : Nat) (b : Bool) (p : Play), lines (List.replicate j 10 ++ t) n b p = lines t (n + j) b p := by
  induction j with
  | zero => intro t n b p; simp
  | succ j ih =>
    intro t n b p
    rw [List.replicate_succ, List.cons_append, show (10 : UInt8) :: (List.replicate j 10 ++ t) = [] ++ 10 :: (List.replicate j 10 ++ t) by rfl, lines_skip (split_nil rfl) (by simp), ih]
    congr 1; omega
theorem upto_len (k : Nat) : ∀ t : Bs, (upto k t).length ≤ t.length := by
  induction k with
  | zero => intro t; simp [upto]
  | succ k ih =>
    intro t
    simp only [upto]
    split
    · rename_i h
      have h1 := line1_split h
      have h2 := ih (rest1 t)
      have h3 : t.length = (line1 t ++ 10 :: rest1 t).length := by rw [← h1]
      simp only [List.length_append, List.length_cons] at *
      omega
    · exact Nat.le_refl _
theorem parse_small {t : Bs} (h : t.length ≤ 1048576) : parse t = lines t 1 false {} := by unfold parse; rw [if_neg (by omega)]
/-- what the statement of the first line says -/
theorem first_none {t : Bs} (ht : t.length ≤ 65536) (he : (parse t).2.2 ≠ 0) (hm : (parse t).2.1 = 0) :
    (parse t).2.2 = 211 ∧ (parse ([35, 32, 110, 111, 110, 101, 10] ++ t)).2.1 = 0 ∧ (parse ([35, 32, 110, 111, 110, 101, 10] ++ t)).2.2 = 211 := by
  rw [parse_small (by omega)] at *
  have h := lines_tell _ t 1 false {} (Nat.le_refl _) (Nat.le_refl _)
  have h2 : (lines t 1 false {}).2.2 = 211 := by
    rcases h with h | h
    · rcases h.2 with h | h
      · exact absurd h he
      · exact h.1
    · omega
  have e : parse ([35, 32, 110, 111, 110, 101, 10] ++ t) = lines t 2 false {} := by
    rw [parse_small (by simp; omega), show ([35, 32, 110, 111, 110, 101, 10] : Bs) ++ t = [35, 32, 110, 111, 110, 101] ++ 10 :: t by rfl]
    exact lines_skip (by rw [split_cons (c := 35) (r := [32, 110, 111, 110, 101]) (by decide)]; rfl) (by decide) t 1 false {}
  rw [e, lines_shift 1 _ t 1 false {} (Nat.le_refl _) (Nat.le_refl _)]
  simp only
  rw [if_pos hm]
  exact ⟨h2, rfl, h2⟩
theorem first_lead {t : Bs} (j : Nat) (hj : j ≤ 100) (ht : t.length ≤ 65536) :
    parse (List.replicate j 10 ++ t) = ((parse t).1, if (parse t).2.1 = 0 then 0 else (parse t).2.1 + j, (parse t).2.2) := by
  rw [parse_small (by simp; omega), parse_small (by omega), lines_lead, lines_shift j _ t 1 false {} (Nat.le_refl _) (Nat.le_refl _)]
theorem first_tell {t : Bs} (ht : t.length ≤ 65536) (he : (parse t).2.2 ≠ 0) (hm : (parse t).2.1 ≠ 0) (s : Bs) (hs : s.length ≤ 65536) :
    parse (upto (parse t).2.1 t ++ 10 :: s) = parse t ∧ (parse (upto ((parse t).2.1 - 1) t)).2.1 = 0 ∧ ((parse (upto ((parse t).2.1 - 1) t)).2.2 = 0 ∨ (parse (upto ((parse t).2.1 - 1) t)).2.2 = 211) := by
  have hu := upto_len (parse t).2.1 t
  have hu2 := upto_len ((parse t).2.1 - 1) t
  rw [parse_small (t := upto (parse t).2.1 t ++ 10 :: s) (by simp; omega), parse_small (t := upto ((parse t).2.1 - 1) t) (by omega)]
  rw [parse_small (t := t) (by omega)] at *
  rcases lines_tell _ t 1 false {} (Nat.le_refl _) (Nat.le_refl _) with h | ⟨h1, h2, h3, h4, h5⟩
  · exact absurd h.1 hm
  · refine ⟨?_, h5⟩
    have := h4 s
    rw [show (lines t 1 false {}).2.1 - 1 + 1 = (lines t 1 false {}).2.1 by omega] at this
    exact this
theorem parse_zero {t : Bs} (ht : t.length ≤ 65536) (he : (parse t).2.2 = 0) : (parse t).2.1 = 0 := by
  rw [parse_small (by omega)] at *
  rcases lines_tell _ t 1 false {} (Nat.le_refl _) (Nat.le_refl _) with h | ⟨h1, h2, h3, h4, h5⟩
  · exact h.1
  · exact absurd he h2
end Sp
end Go.Proofs.YthnhfddlmkhgkaaGreatDoor

/- PlayNew: all lists of the book are written over. append of one element to a row whose block may be another list's too: what is before the row's end stays. PlayNew: the book's lists of bytes are grown. PlayNew: the book's lists of bits are grown (turned from NewU by replacing words). PlayNew: the book's lists of steps are grown (turned from NewU). PlayNew: all lists of the book are grown; all show their marks. PlayNew: the book is finished: all lists untouched, written over twice, grown; all show their marks. PlayNew: words of the law's own walk. -/
import Derived.Test.YthnhfddlmkhgkaaGreatDoorZNewBll
import Derived.Test.YthnhfddlmkhgkaaGreatDoorZApO
import Derived.Test.YthnhfddlmkhgkaaGreatDoorZRoundC
import Derived.Test.YthnhfddlmkhgkaaGreatDoorZLawAll
set_option linter.unusedVariables false
namespace Go.Proofs.YthnhfddlmkhgkaaGreatDoor
open Go.RowKit Go.Proofs.YthnhfddlmkhgkaaGreatDoorW.PrintWords

/-- all blocks but those of one type are as they were -/
def OnlyT (T : TypeId) (w w' : World) : Prop := w.heap.size ≤ w'.heap.size ∧ ∀ (k : Nat) (c : Array Value) (e : TypeId) (fr : Nat × Nat), w.heap[k]? = some (Obj.cells c e fr) → e ≠ T → w'.heap[k]? = w.heap[k]?
theorem ORow.only {T e : TypeId} {w w1 : World} {base : Nat} {v : Value} {vs : List Value} (h : ORow e w base v vs) (ha : OnlyT T w w1) (he : e ≠ T) : ORow e w1 base v vs :=
  h.step ha.1 fun k hk => by
    obtain ⟨c, fr, hh⟩ := h.typed k hk
    exact ha.2 k c e fr hh he
theorem RK.only {T : TypeId} {w w1 : World} {base : Nat} {v : Value} {xs : List (List Value)} (h : RK w base v xs) (ha : OnlyT T w w1) (he : (80 : TypeId) ≠ T) : RK w1 base v xs :=
  RK.step h fun k hk => by
    obtain ⟨c, hh⟩ := Kd.R_typed h k hk
    exact ha.2 k c 80 _ hh he
theorem BkR.only {T : TypeId} {w w1 : World} {base g ps : Nat} {cs : List Value} {L : Nat → List Value} (h : BkR w base g ps cs L) (ha : OnlyT T w w1) (hT : bookT T = false) : BkR w1 base g ps cs L :=
  h.step fun k c e fr hk he => ha.2 k c e fr hk (by rintro rfl; rw [hT] at he; cases he)
/-- the lists that are kept, whatever stands in them -/
structure Held (w : World) (base : Nat) (K : Nat → Prop) (U B O : List Value) : Prop where
  u : ∀ (j : Nat) (v : Value), U[j]? = some v → ∃ l, OU w base v l ∧ l.length ≤ 1048576
  b : ∀ (j : Nat) (v : Value), B[j]? = some v → ∃ l, OB w base v l ∧ l.length ≤ 1048576
  o : ∀ (j : Nat) (v : Value), O[j]? = some v → ∃ xs, RK w base v xs ∧ xs.length ≤ 2000
  ua : Apart U
  ba : Apart B
  oa : Apart O
  uk : ∀ v ∈ U, ∀ k : Nat, v.ownBlock = some k → K k
  bk : ∀ v ∈ B, ∀ k : Nat, v.ownBlock = some k → K k
  ok : ∀ v ∈ O, ∀ k : Nat, v.ownBlock = some k → K k
theorem Held.of {w : World} {base : Nat} {K : Nat → Prop} {U U' B B' O O' : List Value} (hu : PairsU w base K U U') (hb : PairsB w base K B B') (ho : PairsO w base K O O') : Held w base K U B O where
  u := fun j v hv => by
    have hj := (List.getElem?_eq_some_iff.1 hv).1
    obtain ⟨l, h1, _, h3⟩ := hu.at_ j v _ hv (List.getElem?_eq_getElem (show j < U'.length by rw [hu.len]; exact hj))
    exact ⟨l, h1, h3⟩
  b := fun j v hv => by
    have hj := (List.getElem?_eq_some_iff.1 hv).1
    obtain ⟨l, h1, _, h3⟩ := hb.at_ j v _ hv (List.getElem?_eq_getElem (show j < B'.length by rw [hb.len]; exact hj))
    exact ⟨l, h1, h3⟩
  o := fun j v hv => by
    have hj := (List.getElem?_eq_some_iff.1 hv).1
    obtain ⟨l, ⟨ts, h1, h2⟩, _, h3⟩ := ho.at_ j v _ hv (List.getElem?_eq_getElem (show j < O'.length by rw [ho.len]; exact hj))
    exact ⟨_, h2, by rw [List.length_map, List.length_zip, ← h1.len, Nat.min_self]; exact h3.1⟩
  ua := hu.apart
  ba := hb.apart
  oa := ho.apart
  uk := hu.kept
  bk := hb.kept
  ok := ho.kept
theorem Held.below {w w1 : World} {base : Nat} {K : Nat → Prop} {U B O : List Value} (h : Held w base K U B O) (hb : Below w.heap.size w w1) : Held w1 base K U B O where
  u := fun j v hv => by obtain ⟨l, h1, h2⟩ := h.u j v hv; exact ⟨l, h1.below hb, h2⟩
  b := fun j v hv => by obtain ⟨l, h1, h2⟩ := h.b j v hv; exact ⟨l, h1.below hb, h2⟩
  o := fun j v hv => by obtain ⟨l, h1, h2⟩ := h.o j v hv; exact ⟨l, Kd.R_below h1 hb, h2⟩
  ua := h.ua
  ba := h.ba
  oa := h.oa
  uk := h.uk
  bk := h.bk
  ok := h.ok
/-- all kept lists bear their marks -/
structure Marked (w : World) (base ps : Nat) (U B O : List Value) : Prop where
  u : ∀ (j : Nat) (v : Value), U[j]? = some v → OU w base v (Sp.byteMs ps (0 + j + 1) (lenV v)) ∧ lenV v ≤ 1048576
  b : ∀ (j : Nat) (v : Value), B[j]? = some v → OB w base v (Sp.boolMs ps (0 + U.length + j + 1) (lenV v)) ∧ lenV v ≤ 1048576
  o : ∀ (j : Nat) (v : Value), O[j]? = some v → RK w base v ((Sp.opMs ps (0 + U.length + B.length + j + 1) (lenV v)).map bareCells) ∧ lenV v ≤ 2000
theorem Marked.below {w w1 : World} {base ps : Nat} {U B O : List Value} (h : Marked w base ps U B O) (hb : Below w.heap.size w w1) : Marked w1 base ps U B O where
  u := fun j v hv => by obtain ⟨h1, h2⟩ := h.u j v hv; exact ⟨h1.below hb, h2⟩
  b := fun j v hv => by obtain ⟨h1, h2⟩ := h.b j v hv; exact ⟨h1.below hb, h2⟩
  o := fun j v hv => by obtain ⟨h1, h2⟩ := h.o j v hv; exact ⟨Kd.R_below h1 hb, h2⟩
theorem Marked.held {w w0 : World} {base ps : Nat} {K : Nat → Prop} {U B O : List Value} (h : Marked w base ps U B O) (h0 : Held w0 base K U B O) : Held w base K U B O where
  u := fun j v hv => by obtain ⟨h1, h2⟩ := h.u j v hv; exact ⟨_, h1, by rw [Sp.byteMs_len]; exact h2⟩
  b := fun j v hv => by obtain ⟨h1, h2⟩ := h.b j v hv; exact ⟨_, h1, by rw [Sp.boolMs_len]; exact h2⟩
  o := fun j v hv => by obtain ⟨h1, h2⟩ := h.o j v hv; exact ⟨_, h1, by rw [List.length_map, Sp.opMs_len]; exact h2⟩
  ua := h0.ua
  ba := h0.ba
  oa := h0.oa
  uk := h0.uk
  bk := h0.bk
  ok := h0.ok
/-- all blocks but those of K are as they were -/
def FrK (K : Nat → Prop) (w w' : World) : Prop := w.heap.size ≤ w'.heap.size ∧ ∀ k : Nat, k < w.heap.size → ¬ K k → w'.heap[k]? = w.heap[k]?
theorem FrK.trans {K : Nat → Prop} {a b c : World} (h : FrK K a b) (k : FrK K b c) : FrK K a c := ⟨Nat.le_trans h.1 k.1, fun i hi hn => (k.2 i (Nat.lt_of_lt_of_le hi h.1) hn).trans (h.2 i hi hn)⟩
theorem FrK.below {K : Nat → Prop} {w w' : World} (h : Below w.heap.size w w') : FrK K w w' := ⟨h.size, fun k hk _ => h.block k hk⟩
theorem RK.lenV {w : World} {base : Nat} {v : Value} {xs : List (List Value)} (h : RK w base v xs) : lenV v = xs.length := by
  obtain ⟨A, c, rfl⟩ := Kd.R_slice h; rfl
/-- only blocks of a type T are of those lists -/
theorem only_of {T : TypeId} {w w1 : World} {vs : List Value} (hty : ∀ v ∈ vs, ∀ k : Nat, v.ownBlock = some k → ∃ c fr, w.heap[k]? = some (Obj.cells c T fr)) (hs : w.heap.size ≤ w1.heap.size)
    (h : ∀ k : Nat, k < w.heap.size → (∀ v ∈ vs, v.ownBlock ≠ some k) → w1.heap[k]? = w.heap[k]?) : OnlyT T w w1 :=
  ⟨hs, fun k c e fr hk he => h k (row_lt hk) (fun v hv hv2 => by
    obtain ⟨c2, fr2, hk2⟩ := hty v hv k hv2
    rw [hk] at hk2
    injection hk2 with hk2
    injection hk2 with _ hk2 _
    exact he hk2)⟩
def AfterU (w : World) (base g ps : Nat) (cs : List Value) (L : Nat → List Value) (K : Nat → Prop) (w' : World) : Prop :=
  BkR w' base g ps cs L ∧ Held w' base K (L 2) (L 5) (L 17) ∧ FrK K w w' ∧ Below base w w' ∧ ∀ (j : Nat) (v : Value), (L 2)[j]? = some v → OU w' base v (Sp.byteMs ps (0 + j + 1) (lenV v)) ∧ lenV v ≤ 1048576
def AfterB (w : World) (base g ps : Nat) (cs : List Value) (L : Nat → List Value) (K : Nat → Prop) (w' : World) : Prop :=
  AfterU w base g ps cs L K w' ∧ ∀ (j : Nat) (v : Value), (L 5)[j]? = some v → OB w' base v (Sp.boolMs ps (0 + (L 2).length + j + 1) (lenV v)) ∧ lenV v ≤ 1048576
def AfterO (w : World) (base g ps : Nat) (cs : List Value) (L : Nat → List Value) (K : Nat → Prop) (w' : World) : Prop :=
  BkR w' base g ps cs L ∧ Held w' base K (L 2) (L 5) (L 17) ∧ FrK K w w' ∧ Below base w w' ∧ Marked w' base ps (L 2) (L 5) (L 17)
theorem bookWrite_any (g base ps : Nat) (cs : List Value) (L : Nat → List Value) (K : Nat → Prop) (w : World) (h : BkR w base g ps cs L) (hh : Held w base K (L 2) (L 5) (L 17)) (hps : ps ≤ 1) (hn2 : (L 2).length ≤ 10000000) (hn5 : (L 5).length ≤ 10000000) (hn17 : (L 17).length ≤ 10000000) :
    Calls Tryz.prog 64 #[.pointer (some ⟨g, 0, none⟩)] w (fun e w' => (∃ v, e = .returned v) ∧ AfterO w base g ps cs L K w') := by
  have toA : ∀ {i : Nat} {x : Value}, cs[i]? = some x → cs.toArray[i]? = some x := fun h => by simpa using h
  have c1 := toA h.c1
  refine write_of g 0 (0 + (L 2).length) (0 + (L 2).length + (L 5).length) (0 + (L 2).length + (L 5).length + (L 17).length) (AfterU w base g ps cs L K) (AfterB w base g ps cs L K) (AfterO w base g ps cs L K) w (h.cell h.c0) ?_ ?_ ?_ ?_
  · intro w' h'
    have hb := h'.1.1
    exact ⟨hb.cell (hb.nils 8 (by omega) (by omega)), hb.cell (hb.nils 11 (by omega) (by omega)), hb.cell (hb.nils 14 (by omega) (by omega))⟩
  · obtain ⟨A2, c2, hv2, _, hr2⟩ := h.get 2 rfl
    refine (bytesWrite_any g base ps 0 A2 c2 (L 2) cs.toArray w h.box c1 (toA hv2) hr2.o (fun j v hv => by obtain ⟨l, h1, h2⟩ := hh.u j v hv; exact ⟨l, h1, by omega⟩) hh.ua (by omega)).mono ?_
    rintro e w1 ⟨rfl, s1, s2, s3, s4⟩
    have hon : OnlyT 5 w w1 := only_of (vs := L 2) (fun v hv k hk => by
      obtain ⟨j, hj⟩ := List.getElem?_of_mem hv
      obtain ⟨l, hl, _⟩ := hh.u j v hj
      exact hl.typed k hk) (by omega) (fun k _ hk => s3 k hk)
    have hm : ∀ (j : Nat) (v : Value), (L 2)[j]? = some v → OU w1 base v (Sp.byteMs ps (0 + j + 1) (lenV v)) ∧ lenV v ≤ 1048576 := fun j v hv => by
      obtain ⟨l, hl, hl2⟩ := hh.u j v hv
      exact ⟨(s4 j v hv).1 (List.getElem?_eq_some_iff.1 hv).1, by rw [hl.lenV]; exact hl2⟩
    refine ⟨rfl, h.only hon (by decide), ⟨fun j v hv => ⟨_, (hm j v hv).1, by rw [Sp.byteMs_len]; exact (hm j v hv).2⟩, fun j v hv => ?_, fun j v hv => ?_, hh.ua, hh.ba, hh.oa, hh.uk, hh.bk, hh.ok⟩, ⟨by omega, fun k _ hk => s3 k (fun v hv e => hk (hh.uk v hv k e))⟩, s2, hm⟩
    · obtain ⟨l, h1, h2⟩ := hh.b j v hv; exact ⟨l, h1.only hon (by decide), h2⟩
    · obtain ⟨l, h1, h2⟩ := hh.o j v hv; exact ⟨l, RK.only h1 hon (by decide), h2⟩
  · rintro w' ⟨h', hh', f1, f2, hm'⟩
    obtain ⟨A2, c2, hv2, _, hr2⟩ := h'.get 5 rfl
    refine (boolsWrite_any g base ps (0 + (L 2).length) A2 c2 (L 5) cs.toArray w' h'.box c1 (toA hv2) hr2.o (fun j v hv => by obtain ⟨l, h1, h2⟩ := hh'.b j v hv; exact ⟨l, h1, by omega⟩) hh'.ba (by omega) hps).mono ?_
    rintro e w1 ⟨rfl, s1, s2, s3, s4⟩
    have hon : OnlyT 4 w' w1 := only_of (vs := L 5) (fun v hv k hk => by
      obtain ⟨j, hj⟩ := List.getElem?_of_mem hv
      obtain ⟨l, hl, _⟩ := hh'.b j v hj
      exact hl.typed k hk) (by omega) (fun k _ hk => s3 k hk)
    have hm : ∀ (j : Nat) (v : Value), (L 5)[j]? = some v → OB w1 base v (Sp.boolMs ps (0 + (L 2).length + j + 1) (lenV v)) ∧ lenV v ≤ 1048576 := fun j v hv => by
      obtain ⟨l, hl, hl2⟩ := hh'.b j v hv
      exact ⟨(s4 j v hv).1 (List.getElem?_eq_some_iff.1 hv).1, by rw [hl.lenV]; exact hl2⟩
    have hf : FrK K w' w1 := ⟨by omega, fun k _ hk => s3 k (fun v hv e => hk (hh'.bk v hv k e))⟩
    refine ⟨rfl, ⟨h'.only hon (by decide), ⟨fun j v hv => ?_, fun j v hv => ⟨_, (hm j v hv).1, by rw [Sp.boolMs_len]; exact (hm j v hv).2⟩, fun j v hv => ?_, hh'.ua, hh'.ba, hh'.oa, hh'.uk, hh'.bk, hh'.ok⟩, f1.trans hf, f2.trans s2, fun j v hv => ⟨(hm' j v hv).1.only hon (by decide), (hm' j v hv).2⟩⟩, hm⟩
    · obtain ⟨l, h1, h2⟩ := hh'.u j v hv; exact ⟨l, h1.only hon (by decide), h2⟩
    · obtain ⟨l, h1, h2⟩ := hh'.o j v hv; exact ⟨l, RK.only h1 hon (by decide), h2⟩
  · rintro w' ⟨⟨h', hh', f1, f2, hm'⟩, hb'⟩
    obtain ⟨A2, c2, hv2, _, hr2⟩ := h'.get 17 rfl
    refine (opsWrite_any g base ps (0 + (L 2).length + (L 5).length) A2 c2 (L 17) cs.toArray w' h'.box c1 (toA hv2) hr2.o (fun j v hv => by obtain ⟨l, h1, h2⟩ := hh'.o j v hv; exact ⟨l, h1, by omega⟩) hh'.oa (by omega) hps).mono ?_
    rintro e w1 ⟨rfl, s2, s3, s4⟩
    have hon : OnlyT 80 w' w1 := only_of (vs := L 17) (fun v hv k hk => by
      obtain ⟨j, hj⟩ := List.getElem?_of_mem hv
      obtain ⟨l, hl, _⟩ := hh'.o j v hj
      obtain ⟨c, hc⟩ := Kd.R_typed hl k hk
      exact ⟨c, _, hc⟩) s2.size (fun k hk1 hk => s3 k hk1 hk)
    have hm : ∀ (j : Nat) (v : Value), (L 17)[j]? = some v → RK w1 base v ((Sp.opMs ps (0 + (L 2).length + (L 5).length + j + 1) (lenV v)).map bareCells) ∧ lenV v ≤ 2000 := fun j v hv => by
      obtain ⟨l, hl, hl2⟩ := hh'.o j v hv
      exact ⟨(s4 j v hv).1 (List.getElem?_eq_some_iff.1 hv).1, by rw [RK.lenV hl]; exact hl2⟩
    have hf : FrK K w' w1 := ⟨s2.size, fun k hk1 hk => s3 k hk1 (fun v hv e => hk (hh'.ok v hv k e))⟩
    have hM : Marked w1 base ps (L 2) (L 5) (L 17) := ⟨fun j v hv => ⟨(hm' j v hv).1.only hon (by decide), (hm' j v hv).2⟩, fun j v hv => ⟨(hb' j v hv).1.only hon (by decide), (hb' j v hv).2⟩, hm⟩
    exact ⟨rfl, h'.only hon (by decide), hM.held hh', f1.trans hf, f2.trans s2, hM⟩
end Go.Proofs.YthnhfddlmkhgkaaGreatDoor

set_option linter.unusedVariables false
namespace Go.Proofs.YthnhfddlmkhgkaaGreatDoor
open Go.RowKit Go.Proofs.YthnhfddlmkhgkaaGreatDoorW.PrintWords

/-- a row of n elements of sz cells each; frozen cells only behind its block's end -/
def KRow (e : TypeId) (sz : Nat) (w : World) (base : Nat) (v : Value) (n : Nat) (xs : List Value) : Prop :=
  xs.length = n * sz ∧ ((n = 0 ∧ v = .slice none 0 0) ∨ ∃ g cells fr cap, v = .slice (some ⟨g, 0, none⟩) n cap ∧ base ≤ g ∧ g < w.heap.size ∧ w.heap[g]? = some (.cells cells e fr) ∧ (∀ i, i < cells.size → ¬ (fr.1 ≤ i ∧ i < fr.2)) ∧ n ≤ cap ∧ cap ≤ maxLen ∧ cells.size = cap * sz ∧ cells.toList.take (n * sz) = xs)
theorem ORow.krow {e : TypeId} {w : World} {base : Nat} {v : Value} {vs : List Value} (h : ORow e w base v vs) : KRow e 1 w base v vs.length vs := by
  refine ⟨by simp, ?_⟩
  rcases h with ⟨rfl, rfl⟩ | ⟨g, cells, fr, rfl, h1, h2, h3, h4, h5, h6, h7⟩
  · exact .inl ⟨rfl, rfl⟩
  · exact .inr ⟨g, cells, fr, _, rfl, h1, h2, h3, h4, h5, h6, by simp, by rw [Nat.mul_one]; exact h7⟩
theorem KRow.orow {e : TypeId} {w : World} {base n : Nat} {v : Value} {vs : List Value} (h : KRow e 1 w base v n vs) : ORow e w base v vs := by
  obtain ⟨h0, h⟩ := h
  rw [Nat.mul_one] at h0
  rcases h with ⟨h1, rfl⟩ | ⟨g, cells, fr, cap, rfl, h1, h2, h3, h4, h5, h6, h7, h8⟩
  · exact .inl ⟨List.eq_nil_of_length_eq_zero (by omega), rfl⟩
  · rw [Nat.mul_one] at h7 h8
    exact .inr ⟨g, cells, fr, by rw [h0, h7], h1, h2, h3, h4, by rw [h0, h7]; exact h5, by rw [h7]; exact h6, by rw [h0]; exact h8⟩
theorem KRow.own {e : TypeId} {w : World} {base sz n : Nat} {v : Value} {xs : List Value} (h : w.ownsRow base e sz v n xs) : KRow e sz w base v n xs := by
  obtain ⟨h1, h2⟩ := h
  refine ⟨h1, ?_⟩
  rcases h2 with ⟨rfl, h2⟩ | ⟨g, cap, cur, rfl, h2, h3, h4, h5, h6, h7⟩
  · exact .inl ⟨h2, rfl⟩
  · exact .inr ⟨g, cur, (0, 0), cap, rfl, h2, row_lt h3, h3, fun i _ => by omega, h4, h5, h6, h7⟩
theorem KRow.step {e : TypeId} {sz : Nat} {w w1 : World} {base n : Nat} {v : Value} {xs : List Value} (h : KRow e sz w base v n xs) (hs : w.heap.size ≤ w1.heap.size) (hm : ∀ k, v.ownBlock = some k → w1.heap[k]? = w.heap[k]?) : KRow e sz w1 base v n xs := by
  obtain ⟨h0, h⟩ := h
  refine ⟨h0, ?_⟩
  rcases h with h | ⟨g, cells, fr, cap, rfl, h1, h2, h3, h4⟩
  · exact .inl h
  · exact .inr ⟨g, cells, fr, cap, rfl, h1, by omega, (hm g rfl).trans h3, h4⟩
theorem KRow.typed {e : TypeId} {sz : Nat} {w : World} {base n : Nat} {v : Value} {xs : List Value} (h : KRow e sz w base v n xs) : ∀ k, v.ownBlock = some k → base ≤ k ∧ k < w.heap.size ∧ ∃ cells fr, w.heap[k]? = some (.cells cells e fr) := by
  rcases h.2 with ⟨_, rfl⟩ | ⟨g, cells, fr, cap, rfl, h1, h2, h3, h4⟩
  · intro k hk; cases hk
  · intro k hk; have : g = k := by simpa [Value.ownBlock] using hk
    subst this; exact ⟨h1, h2, cells, fr, h3⟩
/-- a row has grown by an element: what was before its end stays -/
def Grew (sz : Nat) (W w1 : World) (v : Value) (n : Nat) : Prop :=
  W.heap.size ≤ w1.heap.size ∧ ∀ k, k < W.heap.size → w1.heap[k]? = W.heap[k]? ∨ (v.ownBlock = some k ∧ ∃ cells cells' e fr, W.heap[k]? = some (.cells cells e fr) ∧ w1.heap[k]? = some (.cells cells' e fr) ∧ cells'.size = cells.size ∧ cells'.toList.take (n * sz) = cells.toList.take (n * sz))
theorem Grew.other {sz : Nat} {W w1 : World} {v : Value} {n : Nat} (h : Grew sz W w1 v n) (k : Nat) (hk : k < W.heap.size) (hv : v.ownBlock ≠ some k) : w1.heap[k]? = W.heap[k]? := by
  rcases h.2 k hk with h1 | ⟨h1, _⟩
  · exact h1
  · exact absurd h1 hv
theorem KRow.grew {e : TypeId} {sz : Nat} {W w1 : World} {base n m : Nat} {u v : Value} {xs : List Value} (h : KRow e sz W base u m xs) (hg : Grew sz W w1 v n) (hm : m ≤ n) : KRow e sz w1 base u m xs := by
  obtain ⟨h0, h⟩ := h
  refine ⟨h0, ?_⟩
  rcases h with h | ⟨g, cells, fr, cap, rfl, h1, h2, h3, h4, h5, h6, h7, h8⟩
  · exact .inl h
  · rcases hg.2 g h2 with hh | ⟨_, c1, c2, e2, fr2, g1, g2, g3, g4⟩
    · exact .inr ⟨g, cells, fr, cap, rfl, h1, by have := hg.1; omega, hh.trans h3, h4, h5, h6, h7, h8⟩
    · rw [h3] at g1
      injection g1 with g1
      injection g1 with e1 e2 e3
      subst e1 e2 e3
      refine .inr ⟨g, c2, fr, cap, rfl, h1, by have := hg.1; omega, g2, fun i hi => h4 i (by omega), h5, h6, by omega, ?_⟩
      have hle : m * sz ≤ n * sz := Nat.mul_le_mul_right _ hm
      have h9 : (c2.toList.take (n * sz)).take (m * sz) = (cells.toList.take (n * sz)).take (m * sz) := by rw [g4]
      rw [List.take_take, List.take_take, Nat.min_eq_left hle] at h9
      rw [h9, h8]
theorem take_setFrom_le : ∀ (vs : List Value) (o m : Nat) (cs : Array Value), m ≤ o → (setFrom cs o vs).toList.take m = cs.toList.take m
  | [], _, _, _, _ => rfl
  | v :: r, o, m, cs, h => by
    rw [setFrom, take_setFrom_le r (o + 1) m _ (by omega), Array.toList_setIfInBounds, List.take_set_of_le h]
theorem run_grow (W : World) (base : Nat) (t ty e : TypeId) (z : Value) (sz bytes : Nat) (ht : Tryz.prog.underlying t = some (.slice e)) (hinfo : (Tryz.prog.info? e).map (fun i => (i.zero, i.size, i.bytes)) = some (some z, sz, bytes))
    (hz : z.cells.size = sz) (v : Value) (n : Nat) (xs cs : List Value) (h : KRow e sz W base v n xs) (hcl : cs.length = sz) (hone : ∀ u ∈ cs, u.oneCell' = true) (hb : base ≤ W.heap.size) (hl : (n + 1) * bytes ≤ 140737488355328) (hn : n + 1 ≤ 140737488355328) :
    ∃ v' w', (Builtin.append_ #[t, t] ty #[v, .slice (some ⟨W.heap.size, 0, none⟩) 1 1]).run Tryz.prog (W.alloc (.cells cs.toArray e)) = .ok v' w' ∧ KRow e sz w' base v' (n + 1) (xs ++ cs) ∧ Grew sz W w' v n ∧ (v'.ownBlock = v.ownBlock ∨ ∃ b, v'.ownBlock = some b ∧ W.heap.size ≤ b) ∧ Below base W w' := by
  obtain ⟨i, hi, hiz, his, hib⟩ : ∃ i, Tryz.prog.info? e = some i ∧ i.zero = some z ∧ i.size = sz ∧ i.bytes = bytes := by
    cases hq : Tryz.prog.info? e with
    | none => rw [hq] at hinfo; cases hinfo
    | some i =>
      rw [hq] at hinfo
      simp only [Option.map_some, Option.some.injEq, Prod.mk.injEq] at hinfo
      exact ⟨i, rfl, hinfo.1, hinfo.2.1, hinfo.2.2⟩
  subst his hib
  obtain ⟨W', hW'⟩ : ∃ W', W' = W.alloc (.cells cs.toArray e) := ⟨_, rfl⟩
  have hnew : W'.heap[W.heap.size]? = some (.cells cs.toArray e (0, 0)) := by rw [hW']; exact heap_alloc_new W _
  have hold : ∀ k, k < W.heap.size → W'.heap[k]? = W.heap[k]? := fun k hk => by rw [hW']; exact heap_alloc_old W _ hk
  have hs' : W'.heap.size = W.heap.size + 1 := by rw [hW']; exact World.size_alloc _ _
  have hbel : Below W.heap.size W W' := by rw [hW']; exact (Below.refl _ _).alloc (Nat.le_refl _) _
  rw [← hW']
  have hnews : ∀ j u, cs[j]? = some u → W'.cell? ((⟨W.heap.size, 0, none⟩ : Addr).add j) = some u := fun j u hu => by
    rw [add_plain, cell_of_row _ _ _ _ _ _ hnew]; simpa using hu
  have hl1 : cs.length = 1 * i.size := by omega
  obtain ⟨h0, h⟩ := h
  have grown_fits : ∀ cap : Nat, ∀ CS : List Value, CS.length = (n + 1) * i.size → n + 1 ≤ cap → ((CS.toArray ++ Builtin.zeroCells z.cells (cap - (n + 1))) : Array Value).size = cap * i.size := fun cap CS h1 h2 => by
    rw [Array.size_append, List.size_toArray, size_zeroCells, hz, h1, ← Nat.add_mul]
    have e1 : n + 1 + (cap - (n + 1)) = cap := by omega
    rw [e1]
  rcases h with ⟨rfl, rfl⟩ | ⟨g, cells, fr, cap, rfl, h1, h2, h3, h4, h5, h6, h7, h8⟩
  · have hx0 : xs = [] := List.eq_nil_of_length_eq_zero (by omega)
    subst hx0
    have hr := run_append_nil (P := Tryz.prog) W' t ty e i z ht hi hiz ⟨W.heap.size, 0, none⟩ 1 1 cs hl1 hnews (by omega) (by omega) (by omega)
    have hge := grownCap_ge W' 1 0 e
    have hle := grownCap_le_maxLen W' 1 0 e (by unfold maxLen; omega)
    obtain ⟨cap, hcap⟩ : ∃ cap, cap = grownCap W' 1 0 e := ⟨_, rfl⟩
    rw [← hcap] at hr hge hle
    refine ⟨_, _, hr, ⟨by simp; omega, .inr ⟨W'.heap.size, _, (0, 0), cap, rfl, by omega, by simp, heap_alloc_new W'.drew _, fun _ _ => by omega, hge, hle, grown_fits cap cs (by omega) hge, ?_⟩⟩, ⟨by simp; omega, fun k hk => .inl ((heap_alloc_old W'.drew _ (by show k < W'.heap.size; omega)).trans (hold k hk))⟩, .inr ⟨W'.heap.size, rfl, by omega⟩, ?_⟩
    · simp only [Array.toList_append, List.nil_append]
      rw [Nat.zero_add, ← hl1]
      exact List.take_left
    · exact (hbel.mono hb).trans (((Below.refl _ _).drew).alloc (by show base ≤ W'.heap.size; omega) _)
  · have hg2 : W'.heap[g]? = some (.cells cells e fr) := (hold g h2).trans h3
    have hcell : ∀ j u, xs[j]? = some u → W'.cell? ((⟨g, 0, none⟩ : Addr).add j) = some u := fun j u hu => by
      have hj : j < xs.length := (List.getElem?_eq_some_iff.1 hu).1
      rw [add_plain, cell_of_row _ _ _ _ _ _ hg2]
      have h9 : (cells.toList.take (n * i.size))[j]? = xs[j]? := by rw [h8]
      rw [List.getElem?_take_of_lt (by omega), hu] at h9
      simpa using h9
    by_cases hroom : n + 1 ≤ cap
    · have hfit : n * i.size + cs.length ≤ cells.size := by
        rw [h7, hcl, ← Nat.succ_mul]; exact Nat.mul_le_mul_right _ hroom
      have hr := run_append_room_cells (P := Tryz.prog) W' t ty e i ht hi g 0 n cap ⟨W.heap.size, 0, none⟩ 1 1 cs hl1 hnews hone hroom (fun j hj => by
          rw [cell_of_row _ _ _ _ _ _ hg2, Array.getElem?_eq_getElem (show 0 + n * i.size + j < cells.size by omega)]; rfl) (fun j hj => by
          have hh := h4 (0 + n * i.size + j) (by omega)
          simp only [World.frozen?, hg2]
          simpa using hh)
      rw [Nat.zero_add] at hr
      have hrow := row_setCells cs (n * i.size) W' cells hg2
      refine ⟨_, _, hr, ⟨by rw [List.length_append, h0, hcl, Nat.succ_mul], .inr ⟨g, setFrom cells (n * i.size) cs, fr, cap, rfl, h1, by rw [size_setCells]; omega, hrow, fun j hj => h4 j (by rwa [size_setFrom] at hj), hroom, h6, by rw [size_setFrom]; exact h7, ?_⟩⟩, ⟨by rw [size_setCells]; omega, fun k hk => ?_⟩, .inl rfl, ?_⟩
      · have ht := take_setFrom cs (n * i.size) cells hfit
        have e1 : (n + 1) * i.size = n * i.size + cs.length := by rw [Nat.succ_mul, hcl]
        rw [e1, ht, h8]
      · by_cases hkg : k = g
        · subst hkg
          exact .inr ⟨rfl, cells, _, e, fr, h3, hrow, size_setFrom _ _ _, take_setFrom_le _ _ _ _ (Nat.le_refl _)⟩
        · exact .inl ((other_setCells hkg _ _ _).trans (hold k hk))
      · exact below_setCells h1 cs (n * i.size) W W' (hbel.mono hb)
    · have hr := run_append_grow (P := Tryz.prog) W' t ty e i z ht hi hiz ⟨g, 0, none⟩ n cap xs h0 hcell ⟨W.heap.size, 0, none⟩ 1 1 cs hl1 hnews (by omega) (by omega) (growslice_fits (by omega) hl)
      have hge := grownCap_ge W' (n + 1) cap e
      have hle := grownCap_le_maxLen W' (n + 1) cap e (by unfold maxLen; omega)
      obtain ⟨cap2, hcap⟩ : ∃ c, c = grownCap W' (n + 1) cap e := ⟨_, rfl⟩
      rw [← hcap] at hr hge hle
      have hlen : (xs ++ cs).length = (n + 1) * i.size := by rw [List.length_append, h0, hcl, Nat.succ_mul]
      have e1 : xs.toArray ++ cs.toArray ++ Builtin.zeroCells z.cells (cap2 - (n + 1)) = (xs ++ cs).toArray ++ Builtin.zeroCells z.cells (cap2 - (n + 1)) := by simp
      rw [e1] at hr
      refine ⟨_, _, hr, ⟨hlen, .inr ⟨W'.heap.size, _, (0, 0), cap2, rfl, by omega, by simp, heap_alloc_new W'.drew _, fun _ _ => by omega, hge, hle, grown_fits cap2 _ hlen hge, ?_⟩⟩, ⟨by simp; omega, fun k hk => .inl ((heap_alloc_old W'.drew _ (by show k < W'.heap.size; omega)).trans (hold k hk))⟩, .inr ⟨W'.heap.size, rfl, by omega⟩, ?_⟩
      · simp only [Array.toList_append]
        rw [← hlen]
        exact List.take_left
      · exact (hbel.mono hb).trans (((Below.refl _ _).drew).alloc (by show base ≤ W'.heap.size; omega) _)
section
variable {ops : Array Oper} {rest : List Oper} {o : Oper} {a : Act} {Q : Exit → Act → World → Prop}
/-- append(v, x) of one element -/
theorem ap_grow {W : World} {base : Nat} {w0 : World} {s x : Operand} {v : Value} {n : Nat} {xs cs : List Value} {t e : TypeId} {z : Value} {sz bytes : Nat}
    (hgd : o.guard = none)
    (ho : o.op = .call { callee := .builtin .append, args := #[s, x], argTypes := #[t, t] })
    (ht : Tryz.prog.underlying t = some (.slice e)) (hinfo : (Tryz.prog.info? e).map (fun i => (i.zero, i.size, i.bytes)) = some (some z, sz, bytes)) (hz : z.cells.size = sz)
    (hs : a.eval s = v) (hx : a.eval x = .slice (some ⟨W.heap.size, 0, none⟩) 1 1)
    (HO : KRow e sz W base v n xs) (hcl : cs.length = sz) (hone : ∀ u ∈ cs, u.oneCell' = true) (HB : Below base w0 W) (hbase : base ≤ W.heap.size) (hl : (n + 1) * bytes ≤ 140737488355328) (hn : n + 1 ≤ 140737488355328)
    (h : ∀ v1 w1, KRow e sz w1 base v1 (n + 1) (xs ++ cs) → Below base w0 w1 → Grew sz W w1 v n → (v1.ownBlock = v.ownBlock ∨ ∃ b, v1.ownBlock = some b ∧ W.heap.size ≤ b) → wpList Tryz.prog ops Q rest (a.put o.dst v1) w1) :
    wpList Tryz.prog ops Q (o :: rest) a (W.alloc (.cells cs.toArray e)) := by
  refine wpList_plain hgd fun K hK => ?_
  obtain ⟨v', w', hr, h2, h3, h4, h5⟩ := run_grow W base t o.type e z sz bytes ht hinfo hz v n xs cs HO hcl hone hbase hl hn
  unfold Oper.wp execOp
  simp only [ho, resolve, invoke, builtin, Sem.run_bind, Sem.run_pure, Result.andThen_ok, List.map_toArray, List.map_cons, List.map_nil, hs, hx, hr]
  exact hK _ _ (h v' w' h2 (HB.trans h5) h3 h4)
end
end Go.Proofs.YthnhfddlmkhgkaaGreatDoor

set_option linter.unusedVariables false
namespace Go.Proofs.YthnhfddlmkhgkaaGreatDoor
open Go.RowKit Go.Proofs.YthnhfddlmkhgkaaGreatDoorW.PrintWords

theorem put_self (L : Nat → List Value) (i : Nat) {l : List Value} (h : L i = l) : put L i l = L := by
  subst h
  funext j
  unfold put
  split
  · rename_i e; rw [e]
  · rfl
theorem put_put (L : Nat → List Value) (i : Nat) (l m : List Value) : put (put L i l) i m = put L i m := by
  funext j
  unfold put
  split <;> rfl
theorem KRow.slice {e : TypeId} {sz : Nat} {w : World} {base n : Nat} {v : Value} {xs : List Value} (h : KRow e sz w base v n xs) : ∃ A c, v = .slice A n c := by
  rcases h.2 with ⟨rfl, rfl⟩ | ⟨g, cells, fr, cap, rfl, _⟩
  · exact ⟨none, 0, rfl⟩
  · exact ⟨_, _, rfl⟩
/-- what is none of the book's blocks, and of none of those lists, is as it was -/
def FrV (vs : List Value) (w w' : World) : Prop := w.heap.size ≤ w'.heap.size ∧ ∀ (k : Nat) (c : Array Value) (e : TypeId) (fr : Nat × Nat), w.heap[k]? = some (Obj.cells c e fr) → bookT e = false → (∀ v ∈ vs, v.ownBlock ≠ some k) → w'.heap[k]? = w.heap[k]?
theorem lastOf {j : Nat} {x y : Value} {xs : List Value} (hj : (xs ++ [y])[j]? = some x) : (j < xs.length ∧ xs[j]? = some x) ∨ (j = xs.length ∧ x = y) := by
  rcases Nat.lt_or_ge j xs.length with hl | hl
  · rw [List.getElem?_append_left hl] at hj; exact .inl ⟨hl, hj⟩
  · rw [List.getElem?_append_right hl] at hj
    have h0 : j - xs.length = 0 := by
      have := (List.getElem?_eq_some_iff.1 hj).1
      simp at this; omega
    rw [h0] at hj
    simp at hj
    exact .inr ⟨by omega, hj.symm⟩
/-- the walk of bytesGrow: so many lists are grown -/
structure GrowU (w wr : World) (base g ps id : Nat) (L : Nat → List Value) (i : Nat) : Prop where
  st : ∃ cs' gs, BkR wr base g ps cs' (put L 4 gs) ∧ gs.length = i ∧ ∀ (j : Nat) (v u : Value), (L 2)[j]? = some v → gs[j]? = some u → OU wr base u (Sp.byteMs ps (id + j + 1) (lenV v + 70)) ∧ ∀ k : Nat, u.ownBlock = some k → v.ownBlock = some k ∨ w.heap.size ≤ k
  kept : ∀ (j : Nat) (v : Value), (L 2)[j]? = some v → OU wr base v (Sp.byteMs ps (id + j + 1) (lenV v))
  frame : FrV (L 2) w wr
  below : Below base w wr
/-- the inner walk: the list at hand is grown by so many -/
structure GrInU (W3 wr : World) (base ps id : Nat) (v : Value) (n m : Nat) (u : Value) : Prop where
  size : W3.heap.size ≤ wr.heap.size
  new : KRow 5 1 wr base u m (encs (Value.int .u8) (us (Sp.byteMs ps id m)))
  old : KRow 5 1 wr base v n (encs (Value.int .u8) (us (Sp.byteMs ps id n)))
  same : ∀ k : Nat, k < W3.heap.size → v.ownBlock ≠ some k → wr.heap[k]? = W3.heap[k]?
  own : ∀ k : Nat, u.ownBlock = some k → v.ownBlock = some k ∨ W3.heap.size ≤ k
  below : Below base W3 wr
theorem byteMs_step (ps id m : Nat) : encs (Value.int .u8) (us (Sp.byteMs ps id m)) ++ [.int .u8 ((Sp.byteM ps id m).toNat : Int)] = encs (Value.int .u8) (us (Sp.byteMs ps id (m + 1))) := by
  rw [byteMs_succ, encs_app]; rfl
set_option maxHeartbeats 8000000 in
set_option maxRecDepth 100000 in
theorem bytesGrow_any (g base ps id : Nat) (cs : List Value) (L : Nat → List Value) (w : World) (h : BkR w base g ps cs L) (h4 : L 4 = []) (hm : ∀ (j : Nat) (v : Value), (L 2)[j]? = some v → OU w base v (Sp.byteMs ps (id + j + 1) (lenV v)) ∧ lenV v ≤ 1048576) (ha : Apart (L 2)) (hid : id + (L 2).length ≤ 100000000) (hbase : base ≤ w.heap.size) (hps : ps ≤ 1) :
    Calls Tryz.prog 117 #[.pointer (some ⟨g, 0, none⟩), .int .i64 (id : Int)] w (fun e w' => e = .returned (.int .i64 ((id + (L 2).length : Nat) : Int)) ∧ GrowU w w' base g ps id L (L 2).length) := by
  have HST : Hid (GrowU w w base g ps id L 0) := Lib.hid ⟨⟨cs, [], by rw [put_self L 4 h4]; exact h, rfl, fun j v u _ hu => by simp at hu⟩, fun j v hv => (hm j v hv).1, ⟨Nat.le_refl _, fun _ _ _ _ _ _ _ => rfl⟩, Below.refl _ _⟩
  have HLV : Hid (∀ (j : Nat) (v : Value), (L 2)[j]? = some v → lenV v ≤ 1048576) := Lib.hid (fun j v hv => (hm j v hv).2)
  have HTY : Hid (∀ v ∈ L 2, ∀ k : Nat, v.ownBlock = some k → k < w.heap.size) := Lib.hid (fun v hv k hk => by
    obtain ⟨j, hj⟩ := List.getElem?_of_mem hv
    exact ((hm j v hj).1.lt k hk).2)
  have HAP := Lib.hid ha
  obtain ⟨A0, c0, _, hx0, _⟩ := h.get 2 rfl
  clear h h4 hm ha
  go_enter Tryz.func117, Tryz.ntmps117
  go_wp2
  go_loopw [1, 5] (fun v1 v5 wr => ∃ (i : Nat), v1 = .int .i64 ((id : Int) + i) ∧ v5 = .int .i64 (i : Int) ∧ i ≤ (L 2).length ∧ Hid (GrowU w wr base g ps id L i)) (fun _ v5 _ => (L 2).length - (intOf v5).toNat)
  case atStart => exact ⟨0, by simp, rfl, Nat.zero_le _, HST⟩
  case round =>
    obtain ⟨i, rfl, rfl, hi, HS⟩ := hrel
    clear HST hx0
    obtain ⟨W3, rfl⟩ : ∃ W3, W3 = wr := ⟨_, rfl⟩
    obtain ⟨cs1, gs, p1, p2, p3⟩ := HS.out.st
    obtain ⟨A2, c2, hv2, hx2, hr2⟩ := p1.get 2 rfl
    obtain ⟨A4, c4, hv4, hx4, hr4⟩ := p1.get 4 rfl
    rw [put_other _ _ _ (by decide)] at hv2 hx2 hr2
    rw [put_same, p2] at hv4 hx4 hr4
    have hx1 := p1.cell p1.c1
    by_cases hlt : i < (L 2).length
    · obtain ⟨b2, hA2, _, _, hcell, _⟩ := hr2.o.at_ i hlt
      obtain ⟨v, hv⟩ : ∃ v, v = (L 2)[i]'hlt := ⟨_, rfl⟩
      have hvi : (L 2)[i]? = some v := by rw [hv]; exact List.getElem?_eq_getElem hlt
      have hmem : v ∈ L 2 := by rw [hv]; exact List.getElem_mem _
      have hl := HS.out.kept i v hvi
      obtain ⟨n, hn⟩ : ∃ n, n = lenV v := ⟨_, rfl⟩
      have hnb := HLV.out i v hvi
      rw [← hn] at hl hnb
      have hkr := ORow.krow hl
      rw [encs_us', Sp.byteMs_len] at hkr
      obtain ⟨A, c, hve⟩ := hkr.slice
      have HI0 : Hid (GrInU W3 W3 base ps (id + i + 1) v n n v) := Lib.hid ⟨Nat.le_refl _, hkr, hkr, fun _ _ _ => rfl, fun k hk => .inl hk, Below.refl _ _⟩
      have HVI := Lib.hid (And.intro hvi (And.intro hmem (And.intro hn hnb)))
      have HVE := Lib.hid hve
      have hvt : ∀ k : Nat, v.ownBlock = some k → ∃ c fr, W3.heap[k]? = some (Obj.cells c 5 fr) := hl.typed
      have HBK : Hid (∀ wr, W3.heap.size ≤ wr.heap.size → (∀ k : Nat, k < W3.heap.size → v.ownBlock ≠ some k → wr.heap[k]? = W3.heap[k]?) → BkR wr base g ps cs1 (put L 4 gs)) := Lib.hid (fun wr _ hs => p1.step fun k c e fr hk he => hs k (row_lt hk) (fun hvk => by
        obtain ⟨c5, fr5, hk5⟩ := hvt k hvk
        rw [hk] at hk5
        injection hk5 with hk5
        injection hk5 with _ hk5 _
        subst hk5
        revert he; decide))
      have HP := Lib.hid (And.intro p2 (And.intro p3 (And.intro hv4 hr4)))
      have hbW3 : base ≤ W3.heap.size := Nat.le_trans hbase HS.out.below.size
      rw [← hv, hve] at hcell
      clear hv hvi hmem hl hn hkr hvt p1 p2 p3 hv4 hr4 hv2 hr2 hx4
      rw [hve] at HI0
      clear hve
      subst hA2
      have q2 : (0 : Int) ≤ (i : Int) ∧ (i : Int) < ((L 2).length : Int) := ⟨by omega, by omega⟩
      have hid2 : (id : Int) + i + 1 ≤ 100000000 := by omega
      go_wp2
      clear hid2
      go_loopw [6, 7] (fun v6 v7 wr => ∃ (t m : Nat) (Au : Option Addr) (cu : Nat), v6 = .slice Au m cu ∧ v7 = .int .i64 (t : Int) ∧ t ≤ 70 ∧ Hid (m = n + t) ∧ Hid (GrInU W3 wr base ps (id + i + 1) (.slice A n c) n m (.slice Au m cu))) (fun _ v7 _ => 70 - (intOf v7).toNat)
      case atStart => exact ⟨0, n, A, c, rfl, rfl, by omega, Lib.hid rfl, HI0⟩
      case round =>
        obtain ⟨t, m, Au, cu, rfl, rfl, ht, HM, HI⟩ := hrel
        clear hcell hx2 hx1 HI0
        have hbk := HBK.out wr HI.out.size (fun k hk hkv => HI.out.same k hk (by rw [← HVE.out]; exact hkv))
        by_cases ht70 : t < 70
        · have hx1 := hbk.cell hbk.c1
          have HBk := Lib.hid hbk
          have hcast : ((id + i + 1 : Nat) : Int) = (id : Int) + i + 1 := by omega
          obtain ⟨X, hX⟩ : ∃ X, X = ((Sp.byteM ps (id + i + 1) m).toNat : Int) := ⟨_, rfl⟩
          have hmark : Calls Tryz.prog 154 #[.pointer (some ⟨g, 0, none⟩), .int .i64 ((id : Int) + i + 1), .int .i64 (m : Int)] wr (SRet wr (.int .u8 X)) := by
            have h := byteMark_any g ps (id + i + 1) m wr hx1 (by omega) (by have := HM.out; have := HVI.out.2.2.2; omega)
            rw [hcast, ← hX] at h
            exact h
          have HMK := Lib.hid hmark
          have HXX := Lib.hid hX
          clear hmark hX hcast hbk
          go_wp2_with (first
            | (go_at_call 154; refine HMK.out.mono ?_; rintro e w1 ⟨rfl, rfl⟩)
            | (at_builtin; refine ap_grow (W := wr) (base := base) (w0 := W3) (v := .slice Au m cu) (n := m) (cs := [.int .u8 X]) (z := .int .u8 0) (sz := 1) (bytes := 1) rfl rfl Tryz.underlying45 info5 rfl rfl rfl HI.out.new rfl (fun u hu => by rw [List.mem_singleton.1 hu]; rfl) HI.out.below (Nat.le_trans hbW3 HI.out.size) (by have := HM.out; have := HVI.out.2.2.2; omega) (by have := HM.out; have := HVI.out.2.2.2; omega) ?_; intro v1 w1 a1 a2 a3 a4; obtain ⟨A1, c1, hv1⟩ := a1.slice; subst hv1; have HA := Lib.hid (And.intro a1 (And.intro a2 (And.intro a3 a4))); clear a1 a2 a3 a4))
          go_roundw
          case rel =>
            obtain ⟨a1, a2, a3, a4⟩ := HA.out
            rw [HXX.out, byteMs_step] at a1
            refine ⟨t + 1, m + 1, A1, c1, rfl, by go_num, by omega, Lib.hid (by rw [HM.out]; omega), Lib.hid ⟨Nat.le_trans HI.out.size a3.1, a1, HI.out.old.grew a3 (by have := HM.out; omega), fun k hk hkv => ?_, fun k hk => ?_, a2⟩⟩
            · refine (a3.other k (Nat.lt_of_lt_of_le hk HI.out.size) (fun e => ?_)).trans (HI.out.same k hk hkv)
              rcases HI.out.own k e with e | e
              · exact hkv e
              · omega
            · rcases a4 with a4 | ⟨b, hb, hb2⟩
              · rw [a4] at hk
                exact HI.out.own k hk
              · rw [hb] at hk
                injection hk with hk
                subst hk
                exact .inr (Nat.le_trans HI.out.size hb2)
          case measure => simp [intOf]; omega
        · have ht7 : t = 70 := by omega
          subst ht7
          obtain ⟨p2, p3, hv4, hr4⟩ := HP.out
          have hx4 := hbk.cell hv4
          obtain ⟨v4', hv4', hr4'⟩ := hbk.row 4 rfl
          rw [put_same] at hr4'
          have e4 : v4' = .slice A4 i c4 := Option.some.inj (hv4'.symm.trans hv4)
          subst e4
          have HBk := Lib.hid (And.intro hbk (And.intro hv4 hr4'))
          have hgl : gs.length ≤ 100000000 - 1 := by omega
          clear hbk hv4 hv4' hr4 hr4' p2 p3
          go_wp2_with (at_builtin; refine ap_v (W := wr) (base := base) (w0 := W3) (v := .slice A4 i c4) (u := .slice Au m cu) (vs := gs) rfl rfl Tryz.underlying64 info45 rfl rfl rfl HBk.out.2.2 HI.out.below (Nat.le_trans hbW3 HI.out.size) (by omega) ?_; intro v1 w1 a1 a2 a3 a4; obtain ⟨A1, n1, c1, hv1⟩ := a1.slc; subst hv1; have hb1 := (a3.block g (row_lt HBk.out.1.box) (Kd.R_ne HBk.out.2.2 HBk.out.1.box (by decide))).trans HBk.out.1.box; have hcx : w1.cell? ⟨g, 4, none⟩ = some (.slice A4 i c4) := (by rw [cell_of_row _ _ _ _ _ _ hb1]; simpa using HBk.out.2.1); have hfx := row_frozen hb1 4; have HA := Lib.hid (And.intro a1 (And.intro a2 (And.intro a3 a4))); clear a1 a2 a3 a4 hb1)
          go_roundw
          case rel =>
            obtain ⟨p2, p3, _, _⟩ := HP.out
            obtain ⟨a1, a2, a3, a4⟩ := HA.out
            obtain ⟨m1, m2⟩ := HBk.out.1.app (i := 4) rfl HBk.out.2.1 a1 a3 a4
            rw [put_put] at m1
            obtain ⟨hvi, hmem, hn, hnb⟩ := HVI.out
            have hsame : ∀ k : Nat, k < W3.heap.size → v.ownBlock ≠ some k → wr.heap[k]? = W3.heap[k]? := fun k hk hkv => HI.out.same k hk (by rw [← HVE.out]; exact hkv)
            have hold : OU wr base v (Sp.byteMs ps (id + i + 1) (lenV v)) := by
              rw [← hn, HVE.out]; exact HI.out.old.orow
            have hnew : OU wr base (.slice Au m cu) (Sp.byteMs ps (id + i + 1) (lenV v + 70)) := by
              rw [← hn, ← HM.out]; exact HI.out.new.orow
            refine ⟨i + 1, congrArg (Value.int .i64) (by omega), by go_num, by omega, Lib.hid ⟨⟨_, _, m1, by rw [List.length_append, p2]; rfl, ?_⟩, ?_, ?_, HS.out.below.trans (a2.setCell m1.ge _)⟩⟩
            · intro j x u hx hu
              rcases lastOf hu with ⟨h1, h2⟩ | ⟨h1, rfl⟩
              · obtain ⟨z1, z2⟩ := p3 j x u hx h2
                refine ⟨OU.aside (z1.step HI.out.size (fun k hk => hsame k (z1.lt k hk).2 (fun e => ?_))) m2, z2⟩
                rcases z2 k hk with z | z
                · exact HAP.out j i x v hx hvi (by omega) k z e
                · have := HTY.out v hmem k e; omega
              · have e1 : j = i := by omega
                subst e1
                have e2 : x = v := Option.some.inj (hx.symm.trans hvi)
                subst e2
                refine ⟨hnew.aside m2, fun k hk => ?_⟩
                rcases HI.out.own k hk with z | z
                · exact .inl (by rw [HVE.out]; exact z)
                · exact .inr (Nat.le_trans HS.out.frame.1 z)
            · intro j x hx
              by_cases q : j = i
              · subst q
                have e2 : x = v := Option.some.inj (hx.symm.trans hvi)
                subst e2
                exact hold.aside m2
              · have z1 := HS.out.kept j x hx
                exact OU.aside (z1.step HI.out.size (fun k hk => hsame k (z1.lt k hk).2 (HAP.out j i x v hx hvi q k hk))) m2
            · refine ⟨Nat.le_trans HS.out.frame.1 (Nat.le_trans HI.out.size m2.1), fun k c e fr hk he hkv => ?_⟩
              have z1 := HS.out.frame.2 k c e fr hk he hkv
              have z2 := hsame k (Nat.lt_of_lt_of_le (row_lt hk) HS.out.frame.1) (hkv v hmem)
              exact (m2.2 k c e fr ((z2.trans z1).trans hk) he).trans (z2.trans z1)
          case measure => simp [intOf]; omega
    · go_wp2
      go_ret
      have e : i = (L 2).length := by omega
      subst e
      exact ⟨by rfl, HS.out⟩
end Go.Proofs.YthnhfddlmkhgkaaGreatDoor

set_option linter.unusedVariables false
namespace Go.Proofs.YthnhfddlmkhgkaaGreatDoor
open Go.RowKit Go.Proofs.YthnhfddlmkhgkaaGreatDoorW.PrintWords

/-- the walk of boolsGrow: so many lists are grown -/
structure GrowB (w wr : World) (base g ps id : Nat) (L : Nat → List Value) (i : Nat) : Prop where
  st : ∃ cs' gs, BkR wr base g ps cs' (put L 7 gs) ∧ gs.length = i ∧ ∀ (j : Nat) (v u : Value), (L 5)[j]? = some v → gs[j]? = some u → OB wr base u (Sp.boolMs ps (id + j + 1) (lenV v + 70)) ∧ ∀ k : Nat, u.ownBlock = some k → v.ownBlock = some k ∨ w.heap.size ≤ k
  kept : ∀ (j : Nat) (v : Value), (L 5)[j]? = some v → OB wr base v (Sp.boolMs ps (id + j + 1) (lenV v))
  frame : FrV (L 5) w wr
  below : Below base w wr
/-- the inner walk: the list at hand is grown by so many -/
structure GrInB (W3 wr : World) (base ps id : Nat) (v : Value) (n m : Nat) (u : Value) : Prop where
  size : W3.heap.size ≤ wr.heap.size
  new : KRow 4 1 wr base u m (encs Value.bool (Sp.boolMs ps id m))
  old : KRow 4 1 wr base v n (encs Value.bool (Sp.boolMs ps id n))
  same : ∀ k : Nat, k < W3.heap.size → v.ownBlock ≠ some k → wr.heap[k]? = W3.heap[k]?
  own : ∀ k : Nat, u.ownBlock = some k → v.ownBlock = some k ∨ W3.heap.size ≤ k
  below : Below base W3 wr
theorem boolMs_step (ps id m : Nat) : encs Value.bool (Sp.boolMs ps id m) ++ [.bool (Sp.boolM ps id m)] = encs Value.bool (Sp.boolMs ps id (m + 1)) := by
  simp [Sp.boolMs, List.range_succ, encs]
set_option maxHeartbeats 8000000 in
set_option maxRecDepth 100000 in
theorem boolsGrow_any (g base ps id : Nat) (cs : List Value) (L : Nat → List Value) (w : World) (h : BkR w base g ps cs L) (h4 : L 7 = []) (hm : ∀ (j : Nat) (v : Value), (L 5)[j]? = some v → OB w base v (Sp.boolMs ps (id + j + 1) (lenV v)) ∧ lenV v ≤ 1048576) (ha : Apart (L 5)) (hid : id + (L 5).length ≤ 100000000) (hbase : base ≤ w.heap.size) (hps : ps ≤ 1) :
    Calls Tryz.prog 118 #[.pointer (some ⟨g, 0, none⟩), .int .i64 (id : Int)] w (fun e w' => e = .returned (.int .i64 ((id + (L 5).length : Nat) : Int)) ∧ GrowB w w' base g ps id L (L 5).length) := by
  have HST : Hid (GrowB w w base g ps id L 0) := Lib.hid ⟨⟨cs, [], by rw [put_self L 7 h4]; exact h, rfl, fun j v u _ hu => by simp at hu⟩, fun j v hv => (hm j v hv).1, ⟨Nat.le_refl _, fun _ _ _ _ _ _ _ => rfl⟩, Below.refl _ _⟩
  have HLV : Hid (∀ (j : Nat) (v : Value), (L 5)[j]? = some v → lenV v ≤ 1048576) := Lib.hid (fun j v hv => (hm j v hv).2)
  have HTY : Hid (∀ v ∈ L 5, ∀ k : Nat, v.ownBlock = some k → k < w.heap.size) := Lib.hid (fun v hv k hk => by
    obtain ⟨j, hj⟩ := List.getElem?_of_mem hv
    exact ((hm j v hj).1.lt k hk).2)
  have HAP := Lib.hid ha
  obtain ⟨A0, c0, _, hx0, _⟩ := h.get 5 rfl
  clear h h4 hm ha
  go_enter Tryz.func118, Tryz.ntmps118
  go_wp2
  go_loopw [1, 5] (fun v1 v5 wr => ∃ (i : Nat), v1 = .int .i64 ((id : Int) + i) ∧ v5 = .int .i64 (i : Int) ∧ i ≤ (L 5).length ∧ Hid (GrowB w wr base g ps id L i)) (fun _ v5 _ => (L 5).length - (intOf v5).toNat)
  case atStart => exact ⟨0, by simp, rfl, Nat.zero_le _, HST⟩
  case round =>
    obtain ⟨i, rfl, rfl, hi, HS⟩ := hrel
    clear HST hx0
    obtain ⟨W3, rfl⟩ : ∃ W3, W3 = wr := ⟨_, rfl⟩
    obtain ⟨cs1, gs, p1, p2, p3⟩ := HS.out.st
    obtain ⟨A2, c2, hv2, hx2, hr2⟩ := p1.get 5 rfl
    obtain ⟨A4, c4, hv4, hx4, hr4⟩ := p1.get 7 rfl
    rw [put_other _ _ _ (by decide)] at hv2 hx2 hr2
    rw [put_same, p2] at hv4 hx4 hr4
    have hx1 := p1.cell p1.c1
    by_cases hlt : i < (L 5).length
    · obtain ⟨b2, hA2, _, _, hcell, _⟩ := hr2.o.at_ i hlt
      obtain ⟨v, hv⟩ : ∃ v, v = (L 5)[i]'hlt := ⟨_, rfl⟩
      have hvi : (L 5)[i]? = some v := by rw [hv]; exact List.getElem?_eq_getElem hlt
      have hmem : v ∈ L 5 := by rw [hv]; exact List.getElem_mem _
      have hl := HS.out.kept i v hvi
      obtain ⟨n, hn⟩ : ∃ n, n = lenV v := ⟨_, rfl⟩
      have hnb := HLV.out i v hvi
      rw [← hn] at hl hnb
      have hkr := ORow.krow hl
      rw [encs_length, Sp.boolMs_len] at hkr
      obtain ⟨A, c, hve⟩ := hkr.slice
      have HI0 : Hid (GrInB W3 W3 base ps (id + i + 1) v n n v) := Lib.hid ⟨Nat.le_refl _, hkr, hkr, fun _ _ _ => rfl, fun k hk => .inl hk, Below.refl _ _⟩
      have HVI := Lib.hid (And.intro hvi (And.intro hmem (And.intro hn hnb)))
      have HVE := Lib.hid hve
      have hvt : ∀ k : Nat, v.ownBlock = some k → ∃ c fr, W3.heap[k]? = some (Obj.cells c 4 fr) := hl.typed
      have HBK : Hid (∀ wr, W3.heap.size ≤ wr.heap.size → (∀ k : Nat, k < W3.heap.size → v.ownBlock ≠ some k → wr.heap[k]? = W3.heap[k]?) → BkR wr base g ps cs1 (put L 7 gs)) := Lib.hid (fun wr _ hs => p1.step fun k c e fr hk he => hs k (row_lt hk) (fun hvk => by
        obtain ⟨c5, fr5, hk5⟩ := hvt k hvk
        rw [hk] at hk5
        injection hk5 with hk5
        injection hk5 with _ hk5 _
        subst hk5
        revert he; decide))
      have HP := Lib.hid (And.intro p2 (And.intro p3 (And.intro hv4 hr4)))
      have hbW3 : base ≤ W3.heap.size := Nat.le_trans hbase HS.out.below.size
      rw [← hv, hve] at hcell
      clear hv hvi hmem hl hn hkr hvt p1 p2 p3 hv4 hr4 hv2 hr2 hx4
      rw [hve] at HI0
      clear hve
      subst hA2
      have q2 : (0 : Int) ≤ (i : Int) ∧ (i : Int) < ((L 5).length : Int) := ⟨by omega, by omega⟩
      have hid2 : (id : Int) + i + 1 ≤ 100000000 := by omega
      go_wp2
      clear hid2
      go_loopw [6, 7] (fun v6 v7 wr => ∃ (t m : Nat) (Au : Option Addr) (cu : Nat), v6 = .slice Au m cu ∧ v7 = .int .i64 (t : Int) ∧ t ≤ 70 ∧ Hid (m = n + t) ∧ Hid (GrInB W3 wr base ps (id + i + 1) (.slice A n c) n m (.slice Au m cu))) (fun _ v7 _ => 70 - (intOf v7).toNat)
      case atStart => exact ⟨0, n, A, c, rfl, rfl, by omega, Lib.hid rfl, HI0⟩
      case round =>
        obtain ⟨t, m, Au, cu, rfl, rfl, ht, HM, HI⟩ := hrel
        clear hcell hx2 hx1 HI0
        have hbk := HBK.out wr HI.out.size (fun k hk hkv => HI.out.same k hk (by rw [← HVE.out]; exact hkv))
        by_cases ht70 : t < 70
        · have hx1 := hbk.cell hbk.c1
          have HBk := Lib.hid hbk
          have hcast : ((id + i + 1 : Nat) : Int) = (id : Int) + i + 1 := by omega
          obtain ⟨X, hX⟩ : ∃ X, X = Sp.boolM ps (id + i + 1) m := ⟨_, rfl⟩
          have hmark : Calls Tryz.prog 155 #[.pointer (some ⟨g, 0, none⟩), .int .i64 ((id : Int) + i + 1), .int .i64 (m : Int)] wr (SRet wr (.bool X)) := by
            have h := boolMark_any g ps (id + i + 1) m wr hx1 (by omega) (by have := HM.out; have := HVI.out.2.2.2; omega) hps
            rw [hcast, ← hX] at h
            exact h
          have HMK := Lib.hid hmark
          have HXX := Lib.hid hX
          clear hmark hX hcast hbk
          go_wp2_with (first
            | (go_at_call 155; refine HMK.out.mono ?_; rintro e w1 ⟨rfl, rfl⟩)
            | (at_builtin; refine ap_grow (W := wr) (base := base) (w0 := W3) (v := .slice Au m cu) (n := m) (cs := [.bool X]) (z := .bool false) (sz := 1) (bytes := 1) rfl rfl Tryz.underlying78 info4 rfl rfl rfl HI.out.new rfl (fun u hu => by rw [List.mem_singleton.1 hu]; rfl) HI.out.below (Nat.le_trans hbW3 HI.out.size) (by have := HM.out; have := HVI.out.2.2.2; omega) (by have := HM.out; have := HVI.out.2.2.2; omega) ?_; intro v1 w1 a1 a2 a3 a4; obtain ⟨A1, c1, hv1⟩ := a1.slice; subst hv1; have HA := Lib.hid (And.intro a1 (And.intro a2 (And.intro a3 a4))); clear a1 a2 a3 a4))
          go_roundw
          case rel =>
            obtain ⟨a1, a2, a3, a4⟩ := HA.out
            rw [HXX.out, boolMs_step] at a1
            refine ⟨t + 1, m + 1, A1, c1, rfl, by go_num, by omega, Lib.hid (by rw [HM.out]; omega), Lib.hid ⟨Nat.le_trans HI.out.size a3.1, a1, HI.out.old.grew a3 (by have := HM.out; omega), fun k hk hkv => ?_, fun k hk => ?_, a2⟩⟩
            · refine (a3.other k (Nat.lt_of_lt_of_le hk HI.out.size) (fun e => ?_)).trans (HI.out.same k hk hkv)
              rcases HI.out.own k e with e | e
              · exact hkv e
              · omega
            · rcases a4 with a4 | ⟨b, hb, hb2⟩
              · rw [a4] at hk
                exact HI.out.own k hk
              · rw [hb] at hk
                injection hk with hk
                subst hk
                exact .inr (Nat.le_trans HI.out.size hb2)
          case measure => simp [intOf]; omega
        · have ht7 : t = 70 := by omega
          subst ht7
          obtain ⟨p2, p3, hv4, hr4⟩ := HP.out
          have hx4 := hbk.cell hv4
          obtain ⟨v4', hv4', hr4'⟩ := hbk.row 7 rfl
          rw [put_same] at hr4'
          have e4 : v4' = .slice A4 i c4 := Option.some.inj (hv4'.symm.trans hv4)
          subst e4
          have HBk := Lib.hid (And.intro hbk (And.intro hv4 hr4'))
          have hgl : gs.length ≤ 100000000 - 1 := by omega
          clear hbk hv4 hv4' hr4 hr4' p2 p3
          go_wp2_with (at_builtin; refine ap_v (W := wr) (base := base) (w0 := W3) (v := .slice A4 i c4) (u := .slice Au m cu) (vs := gs) rfl rfl Tryz.underlying65 info78 rfl rfl rfl HBk.out.2.2 HI.out.below (Nat.le_trans hbW3 HI.out.size) (by omega) ?_; intro v1 w1 a1 a2 a3 a4; obtain ⟨A1, n1, c1, hv1⟩ := a1.slc; subst hv1; have hb1 := (a3.block g (row_lt HBk.out.1.box) (Kd.R_ne HBk.out.2.2 HBk.out.1.box (by decide))).trans HBk.out.1.box; have hcx : w1.cell? ⟨g, 7, none⟩ = some (.slice A4 i c4) := (by rw [cell_of_row _ _ _ _ _ _ hb1]; simpa using HBk.out.2.1); have hfx := row_frozen hb1 7; have HA := Lib.hid (And.intro a1 (And.intro a2 (And.intro a3 a4))); clear a1 a2 a3 a4 hb1)
          go_roundw
          case rel =>
            obtain ⟨p2, p3, _, _⟩ := HP.out
            obtain ⟨a1, a2, a3, a4⟩ := HA.out
            obtain ⟨m1, m2⟩ := HBk.out.1.app (i := 7) rfl HBk.out.2.1 a1 a3 a4
            rw [put_put] at m1
            obtain ⟨hvi, hmem, hn, hnb⟩ := HVI.out
            have hsame : ∀ k : Nat, k < W3.heap.size → v.ownBlock ≠ some k → wr.heap[k]? = W3.heap[k]? := fun k hk hkv => HI.out.same k hk (by rw [← HVE.out]; exact hkv)
            have hold : OB wr base v (Sp.boolMs ps (id + i + 1) (lenV v)) := by
              rw [← hn, HVE.out]; exact HI.out.old.orow
            have hnew : OB wr base (.slice Au m cu) (Sp.boolMs ps (id + i + 1) (lenV v + 70)) := by
              rw [← hn, ← HM.out]; exact HI.out.new.orow
            refine ⟨i + 1, congrArg (Value.int .i64) (by omega), by go_num, by omega, Lib.hid ⟨⟨_, _, m1, by rw [List.length_append, p2]; rfl, ?_⟩, ?_, ?_, HS.out.below.trans (a2.setCell m1.ge _)⟩⟩
            · intro j x u hx hu
              rcases lastOf hu with ⟨h1, h2⟩ | ⟨h1, rfl⟩
              · obtain ⟨z1, z2⟩ := p3 j x u hx h2
                refine ⟨OB.aside (z1.step HI.out.size (fun k hk => hsame k (z1.lt k hk).2 (fun e => ?_))) m2, z2⟩
                rcases z2 k hk with z | z
                · exact HAP.out j i x v hx hvi (by omega) k z e
                · have := HTY.out v hmem k e; omega
              · have e1 : j = i := by omega
                subst e1
                have e2 : x = v := Option.some.inj (hx.symm.trans hvi)
                subst e2
                refine ⟨hnew.aside m2, fun k hk => ?_⟩
                rcases HI.out.own k hk with z | z
                · exact .inl (by rw [HVE.out]; exact z)
                · exact .inr (Nat.le_trans HS.out.frame.1 z)
            · intro j x hx
              by_cases q : j = i
              · subst q
                have e2 : x = v := Option.some.inj (hx.symm.trans hvi)
                subst e2
                exact hold.aside m2
              · have z1 := HS.out.kept j x hx
                exact OB.aside (z1.step HI.out.size (fun k hk => hsame k (z1.lt k hk).2 (HAP.out j i x v hx hvi q k hk))) m2
            · refine ⟨Nat.le_trans HS.out.frame.1 (Nat.le_trans HI.out.size m2.1), fun k c e fr hk he hkv => ?_⟩
              have z1 := HS.out.frame.2 k c e fr hk he hkv
              have z2 := hsame k (Nat.lt_of_lt_of_le (row_lt hk) HS.out.frame.1) (hkv v hmem)
              exact (m2.2 k c e fr ((z2.trans z1).trans hk) he).trans (z2.trans z1)
          case measure => simp [intOf]; omega
    · go_wp2
      go_ret
      have e : i = (L 5).length := by omega
      subst e
      exact ⟨by rfl, HS.out⟩
end Go.Proofs.YthnhfddlmkhgkaaGreatDoor

set_option linter.unusedVariables false
namespace Go.Proofs.YthnhfddlmkhgkaaGreatDoor
open Go.RowKit Go.Proofs.YthnhfddlmkhgkaaGreatDoorW.PrintWords

/-- the cells of so many marks -/
def flatO (ps id n : Nat) : List Value := (Sp.opMs ps id n).flatMap bareCells
theorem KRow.aside {e : TypeId} {sz : Nat} {w w1 : World} {base n : Nat} {v : Value} {xs : List Value} (h : KRow e sz w base v n xs) (ha : Aside w w1) (he : bookT e = false) : KRow e sz w1 base v n xs :=
  h.step ha.1 fun k hk => by
    obtain ⟨_, _, c, fr, hh⟩ := h.typed k hk
    exact ha.2 k c e fr hh he
theorem kraw_inner {w : World} {base : Nat} {ok : Nat → Prop} : ∀ {xs : List (List Value)} {inner : List Value}, Reps (kraw.M w base ok) 16 xs inner → inner = xs.flatten
  | [], inner, h => by
    have h1 := h.1
    simp only [List.length_nil, Nat.zero_mul] at h1
    rw [List.eq_nil_of_length_eq_zero h1]; rfl
  | x :: xs, inner, h => by
    have h0 := h.2 0 x rfl
    rw [Nat.zero_mul, List.drop_zero] at h0
    have h1 : Reps (kraw.M w base ok) 16 xs (inner.drop 16) := by
      refine ⟨by rw [List.length_drop, h.1, List.length_cons]; omega, fun j p hj => ?_⟩
      have h2 := h.2 (j + 1) p hj
      rw [List.drop_drop]
      rwa [show 16 + j * 16 = (j + 1) * 16 by omega]
    rw [List.flatten_cons, ← kraw_inner h1, ← h0.1, List.take_append_drop]
theorem RK.krow {w : World} {base : Nat} {v : Value} {xs : List (List Value)} (h : RK w base v xs) : KRow 80 16 w base v xs.length xs.flatten := by
  obtain ⟨_, inner, ho, hr⟩ := h
  rw [← kraw_inner hr]
  exact KRow.own ho
theorem flatO_of (ps id n : Nat) : ((Sp.opMs ps id n).map bareCells).flatten = flatO ps id n := by rw [flatO, List.flatMap_def]
/-- an element of it -/
theorem flat_at : ∀ (l : List Sp.Op) (j i : Nat) (p : Sp.Op) (u : Value), l[j]? = some p → (bareCells p)[i]? = some u → (l.flatMap bareCells)[j * 16 + i]? = some u
  | [], j, i, p, u, h, _ => by simp at h
  | o :: l, 0, i, p, u, h, hu => by
    have e : o = p := by simpa using h
    subst e
    have hi : i < 16 := (List.getElem?_eq_some_iff.1 hu).1
    rw [List.flatMap_cons, Nat.zero_mul, Nat.zero_add, List.getElem?_append_left (by rw [bareCells_len]; exact hi)]
    exact hu
  | o :: l, j + 1, i, p, u, h, hu => by
    have h2 : l[j]? = some p := by simpa using h
    rw [List.flatMap_cons, List.getElem?_append_right (by rw [bareCells_len]; omega), bareCells_len, show (j + 1) * 16 + i - 16 = j * 16 + i by omega]
    exact flat_at l j i p u h2 hu
theorem KRow.marked {w : World} {base ps id n : Nat} {v : Value} (h : KRow 80 16 w base v n (flatO ps id n)) (hn : n ≤ 1099511627776) : MarkedO w ps id v := by
  obtain ⟨A, c, rfl⟩ := h.slice
  refine ⟨A, n, c, rfl, hn, rfl, by rw [Sp.opMs_len]; omega, fun hp => ?_⟩
  rcases h.2 with ⟨h0, _⟩ | ⟨g, cells, fr, cap, hv, h1, h2, h3, h4, h5, h6, h7, h8⟩
  · rw [Sp.opMs_len] at hp; omega
  · injection hv with e1 e2 e3
    subst e1
    refine ⟨_, rfl, fun j p hj => ⟨bareCells p, rfl, ?_, fun i u hu => ?_⟩⟩
    · obtain ⟨hjl, hjp⟩ := List.getElem?_eq_some_iff.1 hj
      rw [Sp.opMs_at] at hjp
      have d1 : p.data = [] := by rw [← hjp]; rfl
      have d2 : p.keep = [] := by rw [← hjp]; rfl
      have d3 : p.call.data = [] := by rw [← hjp]; rfl
      have hz : ∀ (l : Sp.Bs), l = [] → ReadU w none l := fun l hl => by rw [hl]; exact ⟨rfl, by simp, fun h => absurd h (by simp)⟩
      have hk := ko_mk w p (A1 := none) (c1 := 0) (A2 := none) (c2 := 0) (A3 := none) (c3 := 0) (by rw [d3]; exact Nat.le_refl _) (hz _ d3) (by rw [d1]; exact Nat.le_refl _) (hz _ d1) (by rw [d2]; exact Nat.le_refl _) (by rw [d2]; exact ⟨rfl, by simp, fun h => absurd h (by simp)⟩)
      rw [d1, d2, d3] at hk
      exact hk
    · rw [add_plain, cell_of_row _ _ _ _ _ _ h3]
      have h9 : (cells.toList.take (n * 16))[j * 16 + i]? = (flatO ps id n)[j * 16 + i]? := by rw [h8]
      have hjl := (List.getElem?_eq_some_iff.1 hj).1
      rw [Sp.opMs_len] at hjl
      have hil : i < 16 := (List.getElem?_eq_some_iff.1 hu).1
      rw [List.getElem?_take_of_lt (by omega), flatO, flat_at _ j i p u hj hu] at h9
      have h10 : cells[j * 16 + i]? = some u := by simpa using h9
      exact h10
/-- the walk of opsGrow: so many lists are grown -/
structure GrowO (w wr : World) (base g ps id : Nat) (L : Nat → List Value) (i : Nat) : Prop where
  st : ∃ cs' gs, BkR wr base g ps cs' (put L 19 gs) ∧ gs.length = i ∧ ∀ (j : Nat) (v u : Value), (L 17)[j]? = some v → gs[j]? = some u → KRow 80 16 wr base u (lenV v + 70) (flatO ps (id + j + 1) (lenV v + 70)) ∧ ∀ k : Nat, u.ownBlock = some k → v.ownBlock = some k ∨ w.heap.size ≤ k
  kept : ∀ (j : Nat) (v : Value), (L 17)[j]? = some v → KRow 80 16 wr base v (lenV v) (flatO ps (id + j + 1) (lenV v))
  frame : FrV (L 17) w wr
  below : Below base w wr
/-- the inner walk: the list at hand is grown by so many -/
structure GrInO (W3 wr : World) (base ps id : Nat) (v : Value) (n m : Nat) (u : Value) : Prop where
  size : W3.heap.size ≤ wr.heap.size
  new : KRow 80 16 wr base u m (flatO ps id m)
  old : KRow 80 16 wr base v n (flatO ps id n)
  same : ∀ k : Nat, k < W3.heap.size → v.ownBlock ≠ some k → wr.heap[k]? = W3.heap[k]?
  own : ∀ k : Nat, u.ownBlock = some k → v.ownBlock = some k ∨ W3.heap.size ≤ k
  below : Below base W3 wr
theorem flatO_step (ps id m : Nat) : flatO ps id m ++ bareCells (Sp.opM ps id m) = flatO ps id (m + 1) := by
  unfold flatO
  rw [opMs_succ, List.flatMap_append]
  simp
set_option maxHeartbeats 8000000 in
set_option maxRecDepth 100000 in
theorem opsGrow_any (g base ps id : Nat) (cs : List Value) (L : Nat → List Value) (w : World) (h : BkR w base g ps cs L) (h4 : L 19 = []) (hm : ∀ (j : Nat) (v : Value), (L 17)[j]? = some v → KRow 80 16 w base v (lenV v) (flatO ps (id + j + 1) (lenV v)) ∧ lenV v ≤ 2000) (ha : Apart (L 17)) (hid : id + (L 17).length ≤ 100000000) (hbase : base ≤ w.heap.size) (hps : ps ≤ 1) :
    Calls Tryz.prog 122 #[.pointer (some ⟨g, 0, none⟩), .int .i64 (id : Int)] w (fun e w' => e = .returned (.int .i64 ((id + (L 17).length : Nat) : Int)) ∧ GrowO w w' base g ps id L (L 17).length) := by
  have HST : Hid (GrowO w w base g ps id L 0) := Lib.hid ⟨⟨cs, [], by rw [put_self L 19 h4]; exact h, rfl, fun j v u _ hu => by simp at hu⟩, fun j v hv => (hm j v hv).1, ⟨Nat.le_refl _, fun _ _ _ _ _ _ _ => rfl⟩, Below.refl _ _⟩
  have HLV : Hid (∀ (j : Nat) (v : Value), (L 17)[j]? = some v → lenV v ≤ 2000) := Lib.hid (fun j v hv => (hm j v hv).2)
  have HTY : Hid (∀ v ∈ L 17, ∀ k : Nat, v.ownBlock = some k → k < w.heap.size) := Lib.hid (fun v hv k hk => by
    obtain ⟨j, hj⟩ := List.getElem?_of_mem hv
    exact ((hm j v hj).1.typed k hk).2.1)
  have HAP := Lib.hid ha
  obtain ⟨A0, c0, _, hx0, _⟩ := h.get 17 rfl
  clear h h4 hm ha
  go_enter Tryz.func122, Tryz.ntmps122
  go_wp2
  go_loopw [1, 5] (fun v1 v5 wr => ∃ (i : Nat), v1 = .int .i64 ((id : Int) + i) ∧ v5 = .int .i64 (i : Int) ∧ i ≤ (L 17).length ∧ Hid (GrowO w wr base g ps id L i)) (fun _ v5 _ => (L 17).length - (intOf v5).toNat)
  case atStart => exact ⟨0, by simp, rfl, Nat.zero_le _, HST⟩
  case round =>
    obtain ⟨i, rfl, rfl, hi, HS⟩ := hrel
    clear HST hx0
    obtain ⟨W3, rfl⟩ : ∃ W3, W3 = wr := ⟨_, rfl⟩
    obtain ⟨cs1, gs, p1, p2, p3⟩ := HS.out.st
    obtain ⟨A2, c2, hv2, hx2, hr2⟩ := p1.get 17 rfl
    obtain ⟨A4, c4, hv4, hx4, hr4⟩ := p1.get 19 rfl
    rw [put_other _ _ _ (by decide)] at hv2 hx2 hr2
    rw [put_same, p2] at hv4 hx4 hr4
    have hx1 := p1.cell p1.c1
    by_cases hlt : i < (L 17).length
    · obtain ⟨b2, hA2, _, _, hcell, _⟩ := hr2.o.at_ i hlt
      obtain ⟨v, hv⟩ : ∃ v, v = (L 17)[i]'hlt := ⟨_, rfl⟩
      have hvi : (L 17)[i]? = some v := by rw [hv]; exact List.getElem?_eq_getElem hlt
      have hmem : v ∈ L 17 := by rw [hv]; exact List.getElem_mem _
      have hl := HS.out.kept i v hvi
      obtain ⟨n, hn⟩ : ∃ n, n = lenV v := ⟨_, rfl⟩
      have hnb := HLV.out i v hvi
      rw [← hn] at hl hnb
      have hkr := hl
      obtain ⟨A, c, hve⟩ := hkr.slice
      have HI0 : Hid (GrInO W3 W3 base ps (id + i + 1) v n n v) := Lib.hid ⟨Nat.le_refl _, hkr, hkr, fun _ _ _ => rfl, fun k hk => .inl hk, Below.refl _ _⟩
      have HVI := Lib.hid (And.intro hvi (And.intro hmem (And.intro hn hnb)))
      have HVE := Lib.hid hve
      have hvt : ∀ k : Nat, v.ownBlock = some k → ∃ c fr, W3.heap[k]? = some (Obj.cells c 80 fr) := fun k hk => (hl.typed k hk).2.2
      have HBK : Hid (∀ wr, W3.heap.size ≤ wr.heap.size → (∀ k : Nat, k < W3.heap.size → v.ownBlock ≠ some k → wr.heap[k]? = W3.heap[k]?) → BkR wr base g ps cs1 (put L 19 gs)) := Lib.hid (fun wr _ hs => p1.step fun k c e fr hk he => hs k (row_lt hk) (fun hvk => by
        obtain ⟨c5, fr5, hk5⟩ := hvt k hvk
        rw [hk] at hk5
        injection hk5 with hk5
        injection hk5 with _ hk5 _
        subst hk5
        revert he; decide))
      have HP := Lib.hid (And.intro p2 (And.intro p3 (And.intro hv4 hr4)))
      have hbW3 : base ≤ W3.heap.size := Nat.le_trans hbase HS.out.below.size
      rw [← hv, hve] at hcell
      clear hv hvi hmem hl hn hkr hvt p1 p2 p3 hv4 hr4 hv2 hr2 hx4
      rw [hve] at HI0
      clear hve
      subst hA2
      have q2 : (0 : Int) ≤ (i : Int) ∧ (i : Int) < ((L 17).length : Int) := ⟨by omega, by omega⟩
      have hid2 : (id : Int) + i + 1 ≤ 100000000 := by omega
      go_wp2
      clear hid2
      go_loopw [6, 7] (fun v6 v7 wr => ∃ (t m : Nat) (Au : Option Addr) (cu : Nat), v6 = .slice Au m cu ∧ v7 = .int .i64 (t : Int) ∧ t ≤ 70 ∧ Hid (m = n + t) ∧ Hid (GrInO W3 wr base ps (id + i + 1) (.slice A n c) n m (.slice Au m cu))) (fun _ v7 _ => 70 - (intOf v7).toNat)
      case atStart => exact ⟨0, n, A, c, rfl, rfl, by omega, Lib.hid rfl, HI0⟩
      case round =>
        obtain ⟨t, m, Au, cu, rfl, rfl, ht, HM, HI⟩ := hrel
        clear hcell hx2 hx1 HI0
        have hbk := HBK.out wr HI.out.size (fun k hk hkv => HI.out.same k hk (by rw [← HVE.out]; exact hkv))
        by_cases ht70 : t < 70
        · have hx1 := hbk.cell hbk.c1
          have HBk := Lib.hid hbk
          have hcast : ((id + i + 1 : Nat) : Int) = (id : Int) + i + 1 := by omega
          obtain ⟨M, hM⟩ : ∃ M, M = Sp.opM ps (id + i + 1) m := ⟨_, rfl⟩
          have hmark : Calls Tryz.prog 159 #[.pointer (some ⟨g, 0, none⟩), .int .i64 ((id : Int) + i + 1), .int .i64 (m : Int)] wr (BRet wr (.agg (opCells M (.slice none 0 0) (.slice none 0 0) (.slice none 0 0)).toArray)) := by
            have h := opMark_any g ps (id + i + 1) m wr hx1 (by omega) (by have := HM.out; have := HVI.out.2.2.2; omega) hps
            rw [hcast, ← hM] at h
            exact h
          have hone2 : ((opCells M (.slice none 0 0) (.slice none 0 0) (.slice none 0 0)).toArray.all (·.oneCell')) = true := by rw [List.all_toArray]; exact List.all_eq_true.2 (opCells_one M rfl rfl rfl)
          have HMK := Lib.hid hmark
          have HXX := Lib.hid hM
          clear hmark hM hcast hbk
          go_upto_region 10 with (first
            | (go_at_call 159; refine HMK.out.mono ?_; rintro e w1 ⟨rfl, hb1⟩)
            | (refine wpList_store_row rfl 80 (.tmp 8) (.tmp 35) rfl w1.heap.size (opCells M (.slice none 0 0) (.slice none 0 0) (.slice none 0 0)).toArray rfl rfl 80 _ (heap_alloc_new w1 _) (by kernel_rfl) rfl hone2 ?_; rw [World.setRow_alloc_new]))
          obtain ⟨w2, hw2⟩ : ∃ w2, w2 = w1.alloc (.cells (opCells M (.slice none 0 0) (.slice none 0 0) (.slice none 0 0)).toArray 80) := ⟨_, rfl⟩
          rw [← hw2]
          have hr2 : w2.heap[w1.heap.size]? = some (.cells (opCells M (.slice none 0 0) (.slice none 0 0) (.slice none 0 0)).toArray 80 (0, 0)) := by rw [hw2]; exact heap_alloc_new w1 _
          have hb2 : Below wr.heap.size wr w2 := by rw [hw2]; exact hb1.alloc hb1.size _
          have HR2 := Lib.hid (And.intro hr2 hb2)
          have HW2 : Hid (KRow 80 16 w2 base (.slice Au m cu) m (flatO ps (id + i + 1) m) ∧ Below base W3 w2 ∧ base ≤ w2.heap.size) := Lib.hid ⟨HI.out.new.step hb2.size (fun k hk => hb2.block k (HI.out.new.typed k hk).2.1), HI.out.below.trans (hb2.mono (Nat.le_trans hbW3 HI.out.size)), Nat.le_trans hbW3 (Nat.le_trans HI.out.size hb2.size)⟩
          clear hw2 hr2 hb2 hb1 hone2
          have tk2 := trivial
          go_wp2_with (first
            | (have tq := tk2; refine wpList_load_row rfl 80 (.tmp 8) rfl w1.heap.size rfl 80 (opCells M (.slice none 0 0) (.slice none 0 0) (.slice none 0 0)).toArray _ _ HR2.out.1 Tryz.underlying80 rfl (by kernel_rfl) ?_; clear tk2 tq; have tk3 := trivial)
            | (have tq := tk3; refine wpList_build_op (W := w2) (x := .tmp 37) (p := M) (v1 := .slice none 0 0) (v2 := .slice none 0 0) (v3 := .slice none 0 0) rfl rfl rfl ?_; clear tk3 tq; have tk4 := trivial)
            | (have tq := tk4; at_builtin; refine ap_grow (W := w2) (base := base) (w0 := W3) (v := .slice Au m cu) (n := m) (cs := bareCells M) (sz := 16) (bytes := 200) rfl rfl Tryz.underlying26 info80 rfl rfl rfl HW2.out.1 rfl (bareCells_one M) HW2.out.2.1 HW2.out.2.2 (by have := HM.out; have := HVI.out.2.2.2; omega) (by have := HM.out; have := HVI.out.2.2.2; omega) ?_; clear tk4 tq; intro v1 w3 a1 a2 a3 a4; obtain ⟨A1, c1, hv1⟩ := a1.slice; subst hv1; have HA := Lib.hid (And.intro a1 (And.intro a2 (And.intro a3 a4))); clear a1 a2 a3 a4))
          go_roundw
          case rel =>
            obtain ⟨a1, a2, a3, a4⟩ := HA.out
            rw [HXX.out, flatO_step] at a1
            obtain ⟨_, hb2⟩ := HR2.out
            have hsz := Nat.le_trans HI.out.size hb2.size
            refine ⟨t + 1, m + 1, A1, c1, rfl, by go_num, by omega, Lib.hid (by rw [HM.out]; omega), Lib.hid ⟨Nat.le_trans hsz a3.1, a1, (HI.out.old.step hb2.size (fun k hk => hb2.block k (HI.out.old.typed k hk).2.1)).grew a3 (by have := HM.out; omega), fun k hk hkv => ?_, fun k hk => ?_, a2⟩⟩
            · refine (a3.other k (Nat.lt_of_lt_of_le hk hsz) (fun e => ?_)).trans ((hb2.block k (Nat.lt_of_lt_of_le hk HI.out.size)).trans (HI.out.same k hk hkv))
              rcases HI.out.own k e with e | e
              · exact hkv e
              · omega
            · rcases a4 with a4 | ⟨b, hb, hb3⟩
              · rw [a4] at hk
                exact HI.out.own k hk
              · rw [hb] at hk
                injection hk with hk
                subst hk
                exact .inr (Nat.le_trans hsz hb3)
          case measure => simp [intOf]; omega
        · have ht7 : t = 70 := by omega
          subst ht7
          obtain ⟨p2, p3, hv4, hr4⟩ := HP.out
          have hx4 := hbk.cell hv4
          obtain ⟨v4', hv4', hr4'⟩ := hbk.row 19 rfl
          rw [put_same] at hr4'
          have e4 : v4' = .slice A4 i c4 := Option.some.inj (hv4'.symm.trans hv4)
          subst e4
          have HBk := Lib.hid (And.intro hbk (And.intro hv4 hr4'))
          have hgl : gs.length ≤ 100000000 - 1 := by omega
          clear hbk hv4 hv4' hr4 hr4' p2 p3
          go_wp2_with (at_builtin; refine ap_v (W := wr) (base := base) (w0 := W3) (v := .slice A4 i c4) (u := .slice Au m cu) (vs := gs) rfl rfl Tryz.underlying69 info26 rfl rfl rfl HBk.out.2.2 HI.out.below (Nat.le_trans hbW3 HI.out.size) (by omega) ?_; intro v1 w1 a1 a2 a3 a4; obtain ⟨A1, n1, c1, hv1⟩ := a1.slc; subst hv1; have hb1 := (a3.block g (row_lt HBk.out.1.box) (Kd.R_ne HBk.out.2.2 HBk.out.1.box (by decide))).trans HBk.out.1.box; have hcx : w1.cell? ⟨g, 19, none⟩ = some (.slice A4 i c4) := (by rw [cell_of_row _ _ _ _ _ _ hb1]; simpa using HBk.out.2.1); have hfx := row_frozen hb1 19; have HA := Lib.hid (And.intro a1 (And.intro a2 (And.intro a3 a4))); clear a1 a2 a3 a4 hb1)
          go_roundw
          case rel =>
            obtain ⟨p2, p3, _, _⟩ := HP.out
            obtain ⟨a1, a2, a3, a4⟩ := HA.out
            obtain ⟨m1, m2⟩ := HBk.out.1.app (i := 19) rfl HBk.out.2.1 a1 a3 a4
            rw [put_put] at m1
            obtain ⟨hvi, hmem, hn, hnb⟩ := HVI.out
            have hsame : ∀ k : Nat, k < W3.heap.size → v.ownBlock ≠ some k → wr.heap[k]? = W3.heap[k]? := fun k hk hkv => HI.out.same k hk (by rw [← HVE.out]; exact hkv)
            have hold : KRow 80 16 wr base v (lenV v) (flatO ps (id + i + 1) (lenV v)) := by
              rw [← hn, HVE.out]; exact HI.out.old
            have hnew : KRow 80 16 wr base (.slice Au m cu) (lenV v + 70) (flatO ps (id + i + 1) (lenV v + 70)) := by
              rw [← hn, ← HM.out]; exact HI.out.new
            refine ⟨i + 1, congrArg (Value.int .i64) (by omega), by go_num, by omega, Lib.hid ⟨⟨_, _, m1, by rw [List.length_append, p2]; rfl, ?_⟩, ?_, ?_, HS.out.below.trans (a2.setCell m1.ge _)⟩⟩
            · intro j x u hx hu
              rcases lastOf hu with ⟨h1, h2⟩ | ⟨h1, rfl⟩
              · obtain ⟨z1, z2⟩ := p3 j x u hx h2
                refine ⟨KRow.aside (z1.step HI.out.size (fun k hk => hsame k (z1.typed k hk).2.1 (fun e => ?_))) m2 (by decide), z2⟩
                rcases z2 k hk with z | z
                · exact HAP.out j i x v hx hvi (by omega) k z e
                · have := HTY.out v hmem k e; omega
              · have e1 : j = i := by omega
                subst e1
                have e2 : x = v := Option.some.inj (hx.symm.trans hvi)
                subst e2
                refine ⟨hnew.aside m2 (by decide), fun k hk => ?_⟩
                rcases HI.out.own k hk with z | z
                · exact .inl (by rw [HVE.out]; exact z)
                · exact .inr (Nat.le_trans HS.out.frame.1 z)
            · intro j x hx
              by_cases q : j = i
              · subst q
                have e2 : x = v := Option.some.inj (hx.symm.trans hvi)
                subst e2
                exact hold.aside m2 (by decide)
              · have z1 := HS.out.kept j x hx
                exact KRow.aside (z1.step HI.out.size (fun k hk => hsame k (z1.typed k hk).2.1 (HAP.out j i x v hx hvi q k hk))) m2 (by decide)
            · refine ⟨Nat.le_trans HS.out.frame.1 (Nat.le_trans HI.out.size m2.1), fun k c e fr hk he hkv => ?_⟩
              have z1 := HS.out.frame.2 k c e fr hk he hkv
              have z2 := hsame k (Nat.lt_of_lt_of_le (row_lt hk) HS.out.frame.1) (hkv v hmem)
              exact (m2.2 k c e fr ((z2.trans z1).trans hk) he).trans (z2.trans z1)
          case measure => simp [intOf]; omega
    · go_wp2
      go_ret
      have e : i = (L 17).length := by omega
      subst e
      exact ⟨by rfl, HS.out⟩
end Go.Proofs.YthnhfddlmkhgkaaGreatDoor

set_option linter.unusedVariables false
namespace Go.Proofs.YthnhfddlmkhgkaaGreatDoor
open Go.RowKit Go.Proofs.YthnhfddlmkhgkaaGreatDoorW.PrintWords

set_option maxHeartbeats 4000000 in
set_option maxRecDepth 100000 in
theorem grow_of (g i0 i1 i2 i3 : Nat) (P1 P2 P3 : World → Prop) (w : World) (hc : w.cell? ⟨g, 0, none⟩ = some (.int .i64 (i0 : Int))) (hn : ∀ w', P2 w' → w'.cell? ⟨g, 8, none⟩ = some (.slice none 0 0) ∧ w'.cell? ⟨g, 11, none⟩ = some (.slice none 0 0) ∧ w'.cell? ⟨g, 14, none⟩ = some (.slice none 0 0))
    (h1 : Calls Tryz.prog 117 #[.pointer (some ⟨g, 0, none⟩), .int .i64 (i0 : Int)] w (fun e w' => e = .returned (.int .i64 (i1 : Int)) ∧ P1 w'))
    (h2 : ∀ w', P1 w' → Calls Tryz.prog 118 #[.pointer (some ⟨g, 0, none⟩), .int .i64 (i1 : Int)] w' (fun e w'' => e = .returned (.int .i64 (i2 : Int)) ∧ P2 w''))
    (h3 : ∀ w', P2 w' → Calls Tryz.prog 122 #[.pointer (some ⟨g, 0, none⟩), .int .i64 (i2 : Int)] w' (fun e w'' => e = .returned (.int .i64 (i3 : Int)) ∧ P3 w'')) :
    Calls Tryz.prog 65 #[.pointer (some ⟨g, 0, none⟩)] w (fun e w' => (∃ v, e = .returned v) ∧ P3 w') := by
  have H1 := Lib.hid h1
  have H2 := Lib.hid h2
  have H3 := Lib.hid h3
  have HN := Lib.hid hn
  clear h1 h2 h3 hn
  go_enter Tryz.func65, Tryz.ntmps65
  go_wp2_with (first
    | (go_at_call 117; refine H1.out.mono ?_; rintro e w1 ⟨rfl, hp1⟩)
    | (go_at_call 118; refine (H2.out w1 hp1).mono ?_; rintro e w2 ⟨rfl, hp2⟩; have HNN := HN.out w2 hp2; have H4 := Lib.hid (entriesGrow_nil g i2 w2 HNN.1); have H5 := Lib.hid (eventsGrow_nil g i2 w2 HNN.2.1); have H6 := Lib.hid (flightsGrow_nil g i2 w2 HNN.2.2); clear HNN)
    | (go_at_call 119; refine H4.out.mono ?_; rintro e w3 ⟨rfl, rfl⟩)
    | (go_at_call 120; refine H5.out.mono ?_; rintro e w3 ⟨rfl, rfl⟩)
    | (go_at_call 121; refine H6.out.mono ?_; rintro e w3 ⟨rfl, rfl⟩)
    | (go_at_call 122; refine (H3.out _ hp2).mono ?_; rintro e w4 ⟨rfl, hp3⟩))
  exact bodyPost_end (results_none rfl _ _ _) rfl ⟨⟨_, rfl⟩, hp3⟩
/-- what is neither the book's nor of type T is as it was -/
def OnlyN (T : TypeId) (w w' : World) : Prop := w.heap.size ≤ w'.heap.size ∧ ∀ (k : Nat) (c : Array Value) (e : TypeId) (fr : Nat × Nat), w.heap[k]? = some (Obj.cells c e fr) → e ≠ T → bookT e = false → w'.heap[k]? = w.heap[k]?
theorem FrV.only {T : TypeId} {w w1 : World} {vs : List Value} (h : FrV vs w w1) (hty : ∀ v ∈ vs, ∀ k : Nat, v.ownBlock = some k → ∃ c fr, w.heap[k]? = some (Obj.cells c T fr)) : OnlyN T w w1 :=
  ⟨h.1, fun k c e fr hk he hb => h.2 k c e fr hk hb (fun v hv hv2 => by
    obtain ⟨c2, fr2, hk2⟩ := hty v hv k hv2
    rw [hk] at hk2
    injection hk2 with hk2
    injection hk2 with _ hk2 _
    exact he hk2)⟩
theorem ORow.onlyN {T e : TypeId} {w w1 : World} {base : Nat} {v : Value} {vs : List Value} (h : ORow e w base v vs) (ha : OnlyN T w w1) (he : e ≠ T) (hb : bookT e = false) : ORow e w1 base v vs :=
  h.step ha.1 fun k hk => by
    obtain ⟨c, fr, hh⟩ := h.typed k hk
    exact ha.2 k c e fr hh he hb
theorem KRow.onlyN {T e : TypeId} {sz : Nat} {w w1 : World} {base n : Nat} {v : Value} {xs : List Value} (h : KRow e sz w base v n xs) (ha : OnlyN T w w1) (he : e ≠ T) (hb : bookT e = false) : KRow e sz w1 base v n xs :=
  h.step ha.1 fun k hk => by
    obtain ⟨_, _, c, fr, hh⟩ := h.typed k hk
    exact ha.2 k c e fr hh he hb
/-- what is neither the book's nor of K is as it was -/
def FrB (K : Nat → Prop) (w w' : World) : Prop := w.heap.size ≤ w'.heap.size ∧ ∀ (k : Nat) (c : Array Value) (e : TypeId) (fr : Nat × Nat), w.heap[k]? = some (Obj.cells c e fr) → bookT e = false → ¬ K k → w'.heap[k]? = w.heap[k]?
theorem FrB.refl (K : Nat → Prop) (w : World) : FrB K w w := ⟨Nat.le_refl _, fun _ _ _ _ _ _ _ => rfl⟩
theorem FrB.trans {K : Nat → Prop} {a b c : World} (h : FrB K a b) (k : FrB K b c) : FrB K a c := ⟨Nat.le_trans h.1 k.1, fun i cs e fr hi he hn => by
  have h1 := h.2 i cs e fr hi he hn
  rw [k.2 i cs e fr (h1.trans hi) he hn, h1]⟩
theorem FrB.below {K : Nat → Prop} {w w' : World} (h : Below w.heap.size w w') : FrB K w w' := ⟨h.size, fun k c e fr hk _ _ => h.block k (row_lt hk)⟩
theorem FrB.of {K : Nat → Prop} {w w' : World} (h : FrK K w w') : FrB K w w' := ⟨h.1, fun k c e fr hk _ hn => h.2 k (row_lt hk) hn⟩
theorem FrB.aside {K : Nat → Prop} {w w' : World} (h : Aside w w') : FrB K w w' := ⟨h.1, fun k c e fr hk he _ => h.2 k c e fr hk he⟩
theorem FrB.ofV {K : Nat → Prop} {vs : List Value} {w w' : World} (h : FrV vs w w') (hk : ∀ v ∈ vs, ∀ k : Nat, v.ownBlock = some k → K k) : FrB K w w' := ⟨h.1, fun k c e fr hkk he hn => h.2 k c e fr hkk he (fun v hv e2 => hn (hk v hv k e2))⟩
/-- the book on its way through grow -/
structure GAll (w w1 : World) (base g ps : Nat) (K : Nat → Prop) (L L1 : Nat → List Value) (cs1 : List Value) : Prop where
  bk : BkR w1 base g ps cs1 L1
  l2 : L1 2 = L 2
  l5 : L1 5 = L 5
  l17 : L1 17 = L 17
  u : ∀ (j : Nat) (v : Value), (L 2)[j]? = some v → OU w1 base v (Sp.byteMs ps (0 + j + 1) (lenV v)) ∧ lenV v ≤ 1048576
  b : ∀ (j : Nat) (v : Value), (L 5)[j]? = some v → OB w1 base v (Sp.boolMs ps (0 + (L 2).length + j + 1) (lenV v)) ∧ lenV v ≤ 1048576
  o : ∀ (j : Nat) (v : Value), (L 17)[j]? = some v → KRow 80 16 w1 base v (lenV v) (flatO ps (0 + (L 2).length + (L 5).length + j + 1) (lenV v)) ∧ lenV v ≤ 2000
  gu : ∀ (j : Nat) (v : Value), (L1 4)[j]? = some v → ∃ n, n ≤ 2000000 ∧ OU w1 base v (Sp.byteMs ps (0 + j + 1) n)
  gb : ∀ (j : Nat) (v : Value), (L1 7)[j]? = some v → ∃ n, n ≤ 2000000 ∧ OB w1 base v (Sp.boolMs ps (0 + (L 2).length + j + 1) n)
  go : ∀ (j : Nat) (v : Value), (L1 19)[j]? = some v → ∃ n, n ≤ 2000000 ∧ KRow 80 16 w1 base v n (flatO ps (0 + (L 2).length + (L 5).length + j + 1) n)
  fr : FrB K w w1
  below : Below base w w1
theorem bookGrow_any (g base ps : Nat) (cs : List Value) (L : Nat → List Value) (K : Nat → Prop) (w : World) (h : BkR w base g ps cs L) (hh : Held w base K (L 2) (L 5) (L 17)) (hm : Marked w base ps (L 2) (L 5) (L 17)) (h4 : L 4 = []) (h7 : L 7 = []) (h19 : L 19 = []) (hps : ps ≤ 1) (hbase : base ≤ w.heap.size) (hn2 : (L 2).length ≤ 10000000) (hn5 : (L 5).length ≤ 10000000) (hn17 : (L 17).length ≤ 10000000) :
    Calls Tryz.prog 65 #[.pointer (some ⟨g, 0, none⟩)] w (fun e w' => (∃ v, e = .returned v) ∧ ∃ L1 cs1, GAll w w' base g ps K L L1 cs1) := by
  have hG : GAll w w base g ps K L L cs := ⟨h, rfl, rfl, rfl, hm.u, hm.b, fun j v hv => by
    obtain ⟨z1, z2⟩ := hm.o j v hv
    have z3 := RK.krow z1
    rw [List.length_map, Sp.opMs_len, flatO_of] at z3
    exact ⟨z3, z2⟩, fun j v hv => by rw [h4] at hv; simp at hv, fun j v hv => by rw [h7] at hv; simp at hv, fun j v hv => by rw [h19] at hv; simp at hv, FrB.refl _ _, Below.refl _ _⟩
  refine grow_of g 0 (0 + (L 2).length) (0 + (L 2).length + (L 5).length) (0 + (L 2).length + (L 5).length + (L 17).length) (fun w' => ∃ L1 cs1, GAll w w' base g ps K L L1 cs1 ∧ L1 7 = [] ∧ L1 19 = []) (fun w' => ∃ L1 cs1, GAll w w' base g ps K L L1 cs1 ∧ L1 19 = []) (fun w' => ∃ L1 cs1, GAll w w' base g ps K L L1 cs1) w (h.cell h.c0) ?_ ?_ ?_ ?_
  · rintro w' ⟨L1, cs1, h', _⟩
    have hb := h'.bk
    exact ⟨hb.cell (hb.nils 8 (by omega) (by omega)), hb.cell (hb.nils 11 (by omega) (by omega)), hb.cell (hb.nils 14 (by omega) (by omega))⟩
  · refine (bytesGrow_any g base ps 0 cs L w h h4 hm.u hh.ua (by omega) hbase hps).mono ?_
    rintro e w1 ⟨rfl, r1, r2, r3, r4⟩
    obtain ⟨cs1, gs, z1, z2, z3⟩ := r1
    have hon : OnlyN 5 w w1 := r3.only (fun v hv k hk => by
      obtain ⟨j, hj⟩ := List.getElem?_of_mem hv
      exact (hm.u j v hj).1.typed k hk)
    refine ⟨rfl, _, cs1, ⟨z1, put_other _ _ _ (by decide), put_other _ _ _ (by decide), put_other _ _ _ (by decide), fun j v hv => ⟨r2 j v hv, (hm.u j v hv).2⟩, fun j v hv => ⟨(hG.b j v hv).1.onlyN hon (by decide) (by decide), (hG.b j v hv).2⟩, fun j v hv => ⟨(hG.o j v hv).1.onlyN hon (by decide) (by decide), (hG.o j v hv).2⟩, fun j u hu => ?_, fun j v hv => ?_, fun j v hv => ?_, FrB.ofV r3 hh.uk, r4⟩, ?_, ?_⟩
    · rw [put_same] at hu
      have hj := (List.getElem?_eq_some_iff.1 hu).1
      have hv := List.getElem?_eq_getElem (show j < (L 2).length by omega)
      exact ⟨_, by have := (hm.u j _ hv).2; omega, (z3 j _ u hv hu).1⟩
    · rw [put_other _ _ _ (by decide), h7] at hv; simp at hv
    · rw [put_other _ _ _ (by decide), h19] at hv; simp at hv
    · rw [put_other _ _ _ (by decide), h7]
    · rw [put_other _ _ _ (by decide), h19]
  · rintro w' ⟨L1, cs1, h', g7, g19⟩
    have hw := boolsGrow_any g base ps (0 + (L 2).length) cs1 L1 w' h'.bk g7 (by rw [h'.l5]; exact h'.b) (by rw [h'.l5]; exact hh.ba) (by rw [h'.l5]; omega) (Nat.le_trans hbase h'.below.size) hps
    rw [h'.l5] at hw
    refine hw.mono ?_
    rintro e w1 ⟨rfl, r1, r2, r3, r4⟩
    rw [h'.l5] at r1 r2 r3
    obtain ⟨cs2, gs, z1, z2, z3⟩ := r1
    have hon : OnlyN 4 w' w1 := r3.only (fun v hv k hk => by
      obtain ⟨j, hj⟩ := List.getElem?_of_mem hv
      exact (h'.b j v hj).1.typed k hk)
    refine ⟨rfl, _, cs2, ⟨z1, (put_other _ _ _ (by decide)).trans h'.l2, (put_other _ _ _ (by decide)).trans h'.l5, (put_other _ _ _ (by decide)).trans h'.l17, fun j v hv => ⟨(h'.u j v hv).1.onlyN hon (by decide) (by decide), (h'.u j v hv).2⟩, fun j v hv => ⟨r2 j v hv, (h'.b j v hv).2⟩, fun j v hv => ⟨(h'.o j v hv).1.onlyN hon (by decide) (by decide), (h'.o j v hv).2⟩, fun j v hv => ?_, fun j u hu => ?_, fun j v hv => ?_, h'.fr.trans (FrB.ofV r3 hh.bk), h'.below.trans r4⟩, ?_⟩
    · rw [put_other _ _ _ (by decide)] at hv
      obtain ⟨n, y1, y2⟩ := h'.gu j v hv
      exact ⟨n, y1, y2.onlyN hon (by decide) (by decide)⟩
    · rw [put_same] at hu
      have hj := (List.getElem?_eq_some_iff.1 hu).1
      have hv := List.getElem?_eq_getElem (show j < (L 5).length by omega)
      exact ⟨_, by have := (h'.b j _ hv).2; omega, (z3 j _ u hv hu).1⟩
    · rw [put_other _ _ _ (by decide), g19] at hv; simp at hv
    · rw [put_other _ _ _ (by decide), g19]
  · rintro w' ⟨L1, cs1, h', g19⟩
    have hw := opsGrow_any g base ps (0 + (L 2).length + (L 5).length) cs1 L1 w' h'.bk g19 (by rw [h'.l17]; exact h'.o) (by rw [h'.l17]; exact hh.oa) (by rw [h'.l17]; omega) (Nat.le_trans hbase h'.below.size) hps
    rw [h'.l17] at hw
    refine hw.mono ?_
    rintro e w1 ⟨rfl, r1, r2, r3, r4⟩
    rw [h'.l17] at r1 r2 r3
    obtain ⟨cs2, gs, z1, z2, z3⟩ := r1
    have hon : OnlyN 80 w' w1 := r3.only (fun v hv k hk => by
      obtain ⟨j, hj⟩ := List.getElem?_of_mem hv
      exact ((h'.o j v hj).1.typed k hk).2.2)
    refine ⟨rfl, _, cs2, ⟨z1, (put_other _ _ _ (by decide)).trans h'.l2, (put_other _ _ _ (by decide)).trans h'.l5, (put_other _ _ _ (by decide)).trans h'.l17, fun j v hv => ⟨(h'.u j v hv).1.onlyN hon (by decide) (by decide), (h'.u j v hv).2⟩, fun j v hv => ⟨(h'.b j v hv).1.onlyN hon (by decide) (by decide), (h'.b j v hv).2⟩, fun j v hv => ⟨r2 j v hv, (h'.o j v hv).2⟩, fun j v hv => ?_, fun j v hv => ?_, fun j u hu => ?_, h'.fr.trans (FrB.ofV r3 hh.ok), h'.below.trans r4⟩⟩
    · rw [put_other _ _ _ (by decide)] at hv
      obtain ⟨n, y1, y2⟩ := h'.gu j v hv
      exact ⟨n, y1, y2.onlyN hon (by decide) (by decide)⟩
    · rw [put_other _ _ _ (by decide)] at hv
      obtain ⟨n, y1, y2⟩ := h'.gb j v hv
      exact ⟨n, y1, y2.onlyN hon (by decide) (by decide)⟩
    · rw [put_same] at hu
      have hj := (List.getElem?_eq_some_iff.1 hu).1
      have hv := List.getElem?_eq_getElem (show j < (L 17).length by omega)
      exact ⟨_, by have := (h'.o j _ hv).2; omega, (z3 j _ u hv hu).1⟩
/-- all lists, and what they were grown to, show their marks -/
def HoldsIn (w : World) (base g ps : Nat) : Prop :=
  ∃ cs L, BkR w base g ps cs L ∧ (L 2).length ≤ 10000000 ∧ (L 5).length ≤ 10000000 ∧ (L 17).length ≤ 10000000 ∧ (∀ (j : Nat) (v : Value), (L 2)[j]? = some v → MarkedU w ps (0 + j + 1) v) ∧ (∀ (j : Nat) (v : Value), (L 4)[j]? = some v → MarkedU w ps (0 + j + 1) v) ∧
    (∀ (j : Nat) (v : Value), (L 5)[j]? = some v → MarkedB w ps (0 + (L 2).length + j + 1) v) ∧ (∀ (j : Nat) (v : Value), (L 7)[j]? = some v → MarkedB w ps (0 + (L 2).length + j + 1) v) ∧
    (∀ (j : Nat) (v : Value), (L 17)[j]? = some v → MarkedO w ps (0 + (L 2).length + (L 5).length + j + 1) v) ∧ (∀ (j : Nat) (v : Value), (L 19)[j]? = some v → MarkedO w ps (0 + (L 2).length + (L 5).length + j + 1) v)
theorem MarkedU.below {w w1 : World} {ps id : Nat} {v : Value} (h : MarkedU w ps id v) (hb : Below w.heap.size w w1) : MarkedU w1 ps id v := by
  obtain ⟨A, n, c, h1, h2, h3⟩ := h; exact ⟨A, n, c, h1, h2, h3.below hb⟩
theorem MarkedB.below {w w1 : World} {ps id : Nat} {v : Value} (h : MarkedB w ps id v) (hb : Below w.heap.size w w1) : MarkedB w1 ps id v := by
  obtain ⟨A, n, c, h1, h2, h3⟩ := h; exact ⟨A, n, c, h1, h2, h3.below hb⟩
theorem MarkedO.below {w w1 : World} {ps id : Nat} {v : Value} (h : MarkedO w ps id v) (hb : Below w.heap.size w w1) : MarkedO w1 ps id v := by
  obtain ⟨A, n, c, h1, h2, h3⟩ := h; exact ⟨A, n, c, h1, h2, h3.below hb⟩
theorem HoldsIn.below {w w1 : World} {base g ps : Nat} (h : HoldsIn w base g ps) (hb : Below w.heap.size w w1) : HoldsIn w1 base g ps := by
  obtain ⟨cs, L, h1, n1, n2, n3, a, b, c, d, e, f⟩ := h
  exact ⟨cs, L, h1.below hb, n1, n2, n3, fun j v hv => (a j v hv).below hb, fun j v hv => (b j v hv).below hb, fun j v hv => (c j v hv).below hb, fun j v hv => (d j v hv).below hb, fun j v hv => (e j v hv).below hb, fun j v hv => (f j v hv).below hb⟩
theorem OU.marked {w : World} {base ps id n : Nat} {v : Value} (h : OU w base v (Sp.byteMs ps id n)) (hn : n ≤ 1099511627776) : MarkedU w ps id v := by
  obtain ⟨A, c, e, _, hr⟩ := h.reads
  rw [Sp.byteMs_len] at e
  exact ⟨A, n, c, e, hn, hr⟩
theorem OB.marked {w : World} {base ps id n : Nat} {v : Value} (h : OB w base v (Sp.boolMs ps id n)) (hn : n ≤ 1099511627776) : MarkedB w ps id v := by
  obtain ⟨A, c, e, _, hr⟩ := h.reads
  rw [Sp.boolMs_len] at e
  exact ⟨A, n, c, e, hn, hr⟩
theorem GAll.holds {w w1 : World} {base g ps : Nat} {K : Nat → Prop} {L L1 : Nat → List Value} {cs1 : List Value} (h : GAll w w1 base g ps K L L1 cs1) (hn2 : (L 2).length ≤ 10000000) (hn5 : (L 5).length ≤ 10000000) (hn17 : (L 17).length ≤ 10000000) : HoldsIn w1 base g ps := by
  refine ⟨cs1, L1, h.bk, by rw [h.l2]; exact hn2, by rw [h.l5]; exact hn5, by rw [h.l17]; exact hn17, ?_, ?_, ?_, ?_, ?_, ?_⟩ <;> (try simp only [h.l2, h.l5, h.l17]) <;> intro j v hv
  · obtain ⟨z1, z2⟩ := h.u j v hv; exact z1.marked (by omega)
  · obtain ⟨n, z1, z2⟩ := h.gu j v hv; exact z2.marked (by omega)
  · obtain ⟨z1, z2⟩ := h.b j v hv; exact z1.marked (by omega)
  · obtain ⟨n, z1, z2⟩ := h.gb j v hv; exact z2.marked (by omega)
  · obtain ⟨z1, z2⟩ := h.o j v hv; exact z1.marked (by omega)
  · obtain ⟨n, z1, z2⟩ := h.go j v hv; exact z2.marked (by omega)
theorem Marked.holds {w : World} {base g ps : Nat} {cs : List Value} {L : Nat → List Value} (h : BkR w base g ps cs L) (hm : Marked w base ps (L 2) (L 5) (L 17)) (h4 : L 4 = []) (h7 : L 7 = []) (h19 : L 19 = []) (hn2 : (L 2).length ≤ 10000000) (hn5 : (L 5).length ≤ 10000000) (hn17 : (L 17).length ≤ 10000000) : HoldsIn w base g ps := by
  refine ⟨cs, L, h, hn2, hn5, hn17, fun j v hv => ?_, fun j v hv => by rw [h4] at hv; simp at hv, fun j v hv => ?_, fun j v hv => by rw [h7] at hv; simp at hv, fun j v hv => ?_, fun j v hv => by rw [h19] at hv; simp at hv⟩
  · obtain ⟨z1, z2⟩ := hm.u j v hv; exact z1.marked (by omega)
  · obtain ⟨z1, z2⟩ := hm.b j v hv; exact z1.marked (by omega)
  · obtain ⟨z1, z2⟩ := hm.o j v hv
    have z3 := RK.krow z1
    rw [List.length_map, Sp.opMs_len, flatO_of] at z3
    exact z3.marked (by omega)
theorem holds_any (g base ps : Nat) (w : World) (h : HoldsIn w base g ps) (hps : ps ≤ 1) : Calls Tryz.prog 33 #[.pointer (some ⟨g, 0, none⟩)] w (BRet w (.bool true)) := by
  obtain ⟨cs, L, h, n1, n2, n3, a, b, c, d, e, f⟩ := h
  have toA : ∀ {i : Nat} {x : Value}, cs[i]? = some x → cs.toArray[i]? = some x := fun h => by simpa using h
  obtain ⟨A2, c2, v2, _, r2⟩ := h.get 2 rfl
  obtain ⟨A4, c4, v4, _, r4⟩ := h.get 4 rfl
  obtain ⟨A5, c5, v5, _, r5⟩ := h.get 5 rfl
  obtain ⟨A7, c7, v7, _, r7⟩ := h.get 7 rfl
  obtain ⟨A17, c17, v17, _, r17⟩ := h.get 17 rfl
  obtain ⟨A19, c19, v19, _, r19⟩ := h.get 19 rfl
  have k1 := bytesHold_any g base ps 0 A2 A4 c2 c4 (L 2) (L 4) cs.toArray w h.box (toA h.c1) (toA v2) (toA v4) r2.o r4.o a b (by omega)
  have k2 := boolsHold_any g base ps (0 + (L 2).length) A5 A7 c5 c7 (L 5) (L 7) cs.toArray w h.box (toA h.c1) (toA v5) (toA v7) r5.o r7.o c d (by omega) hps
  have k3 := opsHold_any g base ps (0 + (L 2).length + (L 5).length) A17 A19 c17 c19 (L 17) (L 19) cs.toArray w h.box (toA h.c1) (toA v17) (toA v19) r17.o r19.o e f (by omega) hps
  have e1 : ((0 : Nat) : Int) + ((L 2).length : Int) = ((0 + (L 2).length : Nat) : Int) := by omega
  have e2 : ((0 + (L 2).length : Nat) : Int) + ((L 5).length : Int) = ((0 + (L 2).length + (L 5).length : Nat) : Int) := by omega
  have e3 : ((0 + (L 2).length + (L 5).length : Nat) : Int) + ((L 17).length : Int) = ((0 + (L 2).length + (L 5).length + (L 17).length : Nat) : Int) := by omega
  rw [e1] at k1
  rw [e2] at k2
  rw [e3] at k3
  exact holds_of g 0 _ _ _ w (h.cell h.c0) (h.cell (h.nils 8 (by omega) (by omega))) (h.cell (h.nils 11 (by omega) (by omega))) (h.cell (h.nils 14 (by omega) (by omega))) k1 k2 k3
end Go.Proofs.YthnhfddlmkhgkaaGreatDoor

set_option linter.unusedVariables false
namespace Go.Proofs.YthnhfddlmkhgkaaGreatDoor
open Go.RowKit Go.Proofs.YthnhfddlmkhgkaaGreatDoorW.PrintWords

/-- the second pass -/
theorem BkR.pass {w : World} {base g ps : Nat} {cs : List Value} {L : Nat → List Value} (h : BkR w base g ps cs L) : BkR (w.setCell ⟨g, 1, none⟩ (.int .i64 1)) base g 1 (cs.set 1 (.int .i64 1)) L := by
  have hlen := h.len
  have hne : ∀ j, isRow j = true → 1 ≠ j := by
    rintro j hj rfl
    revert hj; decide
  refine ⟨by rw [row_set h.box]; simp, by rw [List.length_set]; exact hlen, h.ge, by rw [List.getElem?_set_ne (by decide)]; exact h.c0, by rw [List.getElem?_set_self (by omega)]; rfl, fun i h8 h17 => by rw [List.getElem?_set_ne (by omega)]; exact h.nils i h8 h17, fun i hi => ?_, fun i j v u hi hj hij hv hu => ?_⟩
  · obtain ⟨v, hv, hr⟩ := h.row i hi
    refine ⟨v, by rw [List.getElem?_set_ne (hne i hi)]; exact hv, hr.step fun k hk => Below.heap_setCell w ⟨g, 1, none⟩ _ k ?_⟩
    rintro e
    simp only at e
    subst e
    obtain ⟨c, hc⟩ := hr.typed k hk
    rw [h.box] at hc
    injection hc with hc
    injection hc with _ hc _
    exact rowT_71 i hc.symm
  · rw [List.getElem?_set_ne (hne i hi)] at hv
    rw [List.getElem?_set_ne (hne j hj)] at hu
    exact h.apart i j v u hi hj hij hv hu
theorem Held.aside {w w1 : World} {base : Nat} {K : Nat → Prop} {U B O : List Value} (h : Held w base K U B O) (ha : Aside w w1) : Held w1 base K U B O where
  u := fun j v hv => by obtain ⟨l, h1, h2⟩ := h.u j v hv; exact ⟨l, h1.aside ha, h2⟩
  b := fun j v hv => by obtain ⟨l, h1, h2⟩ := h.b j v hv; exact ⟨l, h1.aside ha, h2⟩
  o := fun j v hv => by
    obtain ⟨l, h1, h2⟩ := h.o j v hv
    refine ⟨l, RK.step h1 fun k hk => ?_, h2⟩
    obtain ⟨c, hc⟩ := Kd.R_typed h1 k hk
    exact ha.2 k c 80 _ hc (by decide)
  ua := h.ua
  ba := h.ba
  oa := h.oa
  uk := h.uk
  bk := h.bk
  ok := h.ok
/-- the book as it is kept -/
structure Kept (w : World) (base g : Nat) (K : Nat → Prop) (cs : List Value) (L : Nat → List Value) : Prop where
  bk : BkR w base g 0 cs L
  u : PairsU w base K (L 2) (L 3)
  b : PairsB w base K (L 5) (L 6)
  o : PairsO w base K (L 17) (L 18)
  n2 : (L 2).length ≤ 10000000
  n5 : (L 5).length ≤ 10000000
  n17 : (L 17).length ≤ 10000000
  l4 : L 4 = []
  l7 : L 7 = []
  l19 : L 19 = []
set_option maxHeartbeats 4000000 in
set_option maxRecDepth 100000 in
theorem finish_any (g base : Nat) (cs : List Value) (L : Nat → List Value) (K : Nat → Prop) (w : World) (h : Kept w base g K cs L) (hbase : base ≤ w.heap.size) :
    Calls Tryz.prog 32 #[.pointer (some ⟨g, 0, none⟩)] w (fun e w' => e = .returned (.bool true) ∧ HoldsIn w' base g 1 ∧ FrB K w w' ∧ Below base w w') := by
  have H63 := Lib.hid (untouched_any g base 0 cs L K w h.bk h.u h.b h.o h.n2 h.n5 h.n17)
  have HK := Lib.hid h
  have H64 : Hid (∀ w1, Below w.heap.size w w1 → Calls Tryz.prog 64 #[.pointer (some ⟨g, 0, none⟩)] w1 (fun e w' => (∃ v, e = .returned v) ∧ AfterO w1 base g 0 cs L K w')) := Lib.hid (fun w1 hb => bookWrite_any g base 0 cs L K w1 (h.bk.below hb) ((Held.of h.u h.b h.o).below hb) (by omega) h.n2 h.n5 h.n17)
  have H33 : Hid (∀ ps w1, HoldsIn w1 base g ps → ps ≤ 1 → Calls Tryz.prog 33 #[.pointer (some ⟨g, 0, none⟩)] w1 (BRet w1 (.bool true))) := Lib.hid (fun ps w1 h1 h2 => holds_any g base ps w1 h1 h2)
  clear h
  go_enter Tryz.func32, Tryz.ntmps32
  go_upto_region 4 with (first
    | (go_at_call 63; refine H63.out.mono ?_; rintro e w1 ⟨rfl, hb1⟩)
    | (go_at_call 64; refine (H64.out w1 hb1).mono ?_; rintro e w2 ⟨⟨v2, rfl⟩, hw2⟩)
    | (go_at_call 33; refine (H33.out 0 w2 (Marked.holds hw2.1 hw2.2.2.2.2 HK.out.l4 HK.out.l7 HK.out.l19 HK.out.n2 HK.out.n5 HK.out.n17) (by omega)).mono ?_; rintro e w3 ⟨rfl, hb3⟩))
  obtain ⟨r1, r2, r3, r4, r5⟩ := hw2
  have k3 := r1.below hb3
  have h3 := r2.below hb3
  have hc1 := k3.cell k3.c1
  have hf1 := row_frozen k3.box 1
  have HZ : Hid (Below base w w3 ∧ FrB K w w3) := Lib.hid ⟨(hb1.mono hbase).trans (r4.trans (hb3.mono (Nat.le_trans hbase (Nat.le_trans hb1.size r4.size)))), (FrB.below hb1).trans ((FrB.of r3).trans (FrB.below hb3))⟩
  have H3 := Lib.hid (And.intro k3 h3)
  clear r1 r2 r3 r4 r5 k3 h3 hb1 hb3 H63 H64
  go_upto_region 5 with fail
  obtain ⟨W4, hW4⟩ : ∃ W4, W4 = w3.setCell ⟨g, 1, none⟩ (.int .i64 1) := ⟨_, rfl⟩
  rw [← hW4]
  have k4 : BkR W4 base g 1 (cs.set 1 (.int .i64 1)) L := by rw [hW4]; exact H3.out.1.pass
  have ha4 : Aside w3 W4 := by rw [hW4]; exact Aside.set H3.out.1.box (by decide) _ _
  have h4 := H3.out.2.aside ha4
  have hb34 : Below base w3 W4 := by rw [hW4]; exact (Below.refl _ _).setCell H3.out.1.ge _
  have H64b := Lib.hid (bookWrite_any g base 1 (cs.set 1 (.int .i64 1)) L K W4 k4 h4 (by omega) HK.out.n2 HK.out.n5 HK.out.n17)
  have HZ4 : Hid (Below base w W4 ∧ FrB K w W4) := Lib.hid ⟨HZ.out.1.trans hb34, HZ.out.2.trans (FrB.aside ha4)⟩
  clear hW4 k4 h4 ha4 hb34 hc1 hf1
  go_upto_region 7 with (first
    | (go_at_call 64; refine H64b.out.mono ?_; rintro e w5 ⟨⟨v5, rfl⟩, hw5⟩)
    | (go_at_call 33; refine (H33.out 1 w5 (Marked.holds hw5.1 hw5.2.2.2.2 HK.out.l4 HK.out.l7 HK.out.l19 HK.out.n2 HK.out.n5 HK.out.n17) (Nat.le_refl _)).mono ?_; rintro e w6 ⟨rfl, hb6⟩))
  obtain ⟨r1, r2, r3, r4, r5⟩ := hw5
  have hbase6 : base ≤ w6.heap.size := Nat.le_trans hbase (Nat.le_trans HZ4.out.1.size (Nat.le_trans r4.size hb6.size))
  have H65 := Lib.hid (bookGrow_any g base 1 (cs.set 1 (.int .i64 1)) L K w6 (r1.below hb6) (r2.below hb6) (r5.below hb6) HK.out.l4 HK.out.l7 HK.out.l19 (by omega) hbase6 HK.out.n2 HK.out.n5 HK.out.n17)
  have HZ6 : Hid (Below base w w6 ∧ FrB K w w6) := Lib.hid ⟨HZ4.out.1.trans (r4.trans (hb6.mono (Nat.le_trans hbase (Nat.le_trans HZ4.out.1.size r4.size)))), HZ4.out.2.trans ((FrB.of r3).trans (FrB.below hb6))⟩
  clear r1 r2 r3 r4 r5 hb6
  go_wp2_with (first
    | (go_at_call 65; refine H65.out.mono ?_; rintro e w7 ⟨⟨v7, rfl⟩, L1, cs1, hg7⟩)
    | (go_at_call 33; refine (H33.out 1 w7 (hg7.holds HK.out.n2 HK.out.n5 HK.out.n17) (Nat.le_refl _)).mono ?_; rintro e w8 ⟨rfl, hb8⟩))
  go_ret
  exact ⟨rfl, (hg7.holds HK.out.n2 HK.out.n5 HK.out.n17).below hb8, HZ6.out.2.trans (hg7.fr.trans (FrB.below hb8)), HZ6.out.1.trans (hg7.below.trans (hb8.mono (Nat.le_trans hbase6 hg7.below.size)))⟩
end Go.Proofs.YthnhfddlmkhgkaaGreatDoor

set_option linter.unusedVariables false
namespace Go.Proofs.YthnhfddlmkhgkaaGreatDoor
open Go.RowKit Go.Proofs.YthnhfddlmkhgkaaGreatDoorW.PrintWords

theorem nums_of (t : Sp.Bs) : (Sp.parse t).1.nums.length = 11 := by
  by_cases h : (Sp.parse t).2.2 = 0
  · exact (Sp.parse_ok h).2.1
  · have e : (Sp.parse t).1 = {} := by
      by_cases hl : 1048576 < t.length
      · unfold Sp.parse; rw [if_pos hl]
      · rw [Sp.parse_small (by omega)] at *
        rcases Sp.lines_tell _ t 1 false {} (Nat.le_refl _) (Nat.le_refl _) with h1 | h1
        · rcases h1.2 with h2 | h2
          · exact absurd h2 h
          · exact h2.2
        · exact h1.2.2.1
    rw [e]; rfl
theorem fillCall_dat : ∀ (ls : Sp.Bs) (ws : List Sp.Bs) (c c' : Sp.Call) (m : Nat), Sp.fillCall ls ws c = some c' → c.data.length ≤ m → (∀ x ∈ ws, x.length ≤ m) → c'.data.length ≤ m
  | [], ws, c, c', m, h, hc, _ => by
    cases ws <;> (simp [Sp.fillCall] at h; subst h; exact hc)
  | l :: ls, [], c, c', m, h, hc, _ => by simp [Sp.fillCall] at h; subst h; exact hc
  | l :: ls, x :: ws, c, c', m, h, hc, hw => by
    simp only [Sp.fillCall] at h
    split at h
    · split at h
      · refine fillCall_dat ls ws _ c' m h ?_ (fun y hy => hw y (List.mem_cons_of_mem _ hy))
        unfold Sp.Call.setN
        repeat' split
        all_goals exact hc
      · cases h
    · refine fillCall_dat ls ws _ c' m h ?_ (fun y hy => hw y (List.mem_cons_of_mem _ hy))
      have := hw x List.mem_cons_self
      unfold Sp.Call.setT
      repeat' split
      all_goals first | exact hc | exact this
theorem parseCall_dat (t : Sp.Bs) : (Sp.parseCall t).1.data.length ≤ t.length := by
  unfold Sp.parseCall
  split
  · simp
  · cases hs : Sp.split t with
    | none => simp
    | some ws =>
      simp only
      split
      · simp
      · split
        · simp
        · unfold Sp.call
          split
          · rename_i c hc
            have hl := (Sp.split_len _ t (Nat.le_refl _) ws hs).1
            exact fillCall_dat _ _ _ c t.length hc (by simp) (fun x hx => hl x (List.drop_subset _ _ hx))
          · simp
theorem info28 : (Tryz.prog.info? 28).map (fun i => (i.zero, i.size, i.bytes)) = some (some (.agg #[.int .i64 0, .int .i64 0, .int .i64 0, .int .i64 0, .int .i64 0, .int .i64 0, .int .i64 0, .int .i64 0, .int .i64 0, .int .i64 0, .int .i64 0, .slice none 0 0]), 12, 112) := by kernel_rfl
/-- twelve cells, whatever they are -/
def kpl : Kd (List Value) where
  sz := 12
  E := []
  K := fun _ x cs => cs = x ∧ x.length = 12 ∧ ∀ u ∈ x, u.oneCell' = true
  M := fun _ _ _ x cs => cs = x ∧ x.length = 12 ∧ ∀ u ∈ x, u.oneCell' = true
  K_len := fun h => by rw [h.1]; exact h.2.1
  K_one := fun h u hu => h.2.2 u (by rw [← h.1]; exact hu)
  K_below := fun _ h => h
  K_of_M := fun h => h
  M_mono := fun _ h => h
  M_bound := fun h => h
  M_move := fun _ h => h
  M_lower := fun _ h => h
abbrev RP (w : World) (base : Nat) (v : Value) (xs : List (List Value)) : Prop := kpl.R 28 w base (fun _ => True) v xs
theorem RP.step {w w1 : World} {base : Nat} {v : Value} {xs : List (List Value)} (h : RP w base v xs) (hm : ∀ k, v.ownBlock = some k → w1.heap[k]? = w.heap[k]?) : RP w1 base v xs := by
  obtain ⟨h0, inner, ho, hr⟩ := h
  exact ⟨h0, inner, own_move ho hm, hr⟩
theorem RP.typed {w : World} {base : Nat} {v : Value} {xs : List (List Value)} (h : RP w base v xs) : ∀ k, v.ownBlock = some k → ∃ cells, w.heap[k]? = some (.cells cells 28 (0, 0)) := Kd.R_typed h
set_option maxRecDepth 100000 in
theorem run_build_pl (W : World) (a0 a1 a2 a3 a4 a5 a6 a7 a8 a9 a10 : Int) (v : Value) : (Instr.buildSlice 62 1 #[(0, .agg #[.int .i64 a0, .int .i64 a1, .int .i64 a2, .int .i64 a3, .int .i64 a4, .int .i64 a5, .int .i64 a6, .int .i64 a7, .int .i64 a8, .int .i64 a9, .int .i64 a10, v])]).run Tryz.prog W = .ok (.slice (some ⟨W.heap.size, 0, none⟩) 1 1) (W.alloc (.cells #[.int .i64 a0, .int .i64 a1, .int .i64 a2, .int .i64 a3, .int .i64 a4, .int .i64 a5, .int .i64 a6, .int .i64 a7, .int .i64 a8, .int .i64 a9, .int .i64 a10, v] 28)) := by
  kernel_rfl
section
variable {ops : Array Oper} {rest : List Oper} {o : Oper} {a : Act} {Q : Exit → Act → World → Prop}
theorem wpList_build_pl {W : World} {x : Operand} {a0 a1 a2 a3 a4 a5 a6 a7 a8 a9 a10 : Int} {v : Value} (hgd : o.guard = none) (ho : o.op = .buildSlice 62 1 #[(0, x)]) (hx : a.eval x = .agg #[.int .i64 a0, .int .i64 a1, .int .i64 a2, .int .i64 a3, .int .i64 a4, .int .i64 a5, .int .i64 a6, .int .i64 a7, .int .i64 a8, .int .i64 a9, .int .i64 a10, v])
    (h : wpList Tryz.prog ops Q rest (a.put o.dst (.slice (some ⟨W.heap.size, 0, none⟩) 1 1)) (W.alloc (.cells #[.int .i64 a0, .int .i64 a1, .int .i64 a2, .int .i64 a3, .int .i64 a4, .int .i64 a5, .int .i64 a6, .int .i64 a7, .int .i64 a8, .int .i64 a9, .int .i64 a10, v] 28))) : wpList Tryz.prog ops Q (o :: rest) a W := by
  have hrun : (execOp a.eval o).run Tryz.prog W = .ok (.value (.slice (some ⟨W.heap.size, 0, none⟩) 1 1)) (W.alloc (.cells #[.int .i64 a0, .int .i64 a1, .int .i64 a2, .int .i64 a3, .int .i64 a4, .int .i64 a5, .int .i64 a6, .int .i64 a7, .int .i64 a8, .int .i64 a9, .int .i64 a10, v] 28)) := by
    unfold execOp
    simp only [ho]
    have hm : (#[(0, x)].map fun (i, x) => (i, a.eval x)) = #[(0, .agg #[.int .i64 a0, .int .i64 a1, .int .i64 a2, .int .i64 a3, .int .i64 a4, .int .i64 a5, .int .i64 a6, .int .i64 a7, .int .i64 a8, .int .i64 a9, .int .i64 a10, v])] := by simp [hx]
    rw [hm, Sem.run_bind, run_build_pl]
    rfl
  refine wpList_plain hgd fun K hK => ?_
  unfold Oper.wp
  rw [hrun]
  exact hK _ _ h
/-- append(v, p) of one play -/
theorem ap_pl {W : World} {base : Nat} {w0 : World} {s x : Operand} {v : Value} {xs : List (List Value)} {cs : List Value}
    (hgd : o.guard = none)
    (ho : o.op = .call { callee := .builtin .append, args := #[s, x], argTypes := #[62, 62] })
    (hs : a.eval s = v) (hx : a.eval x = .slice (some ⟨W.heap.size, 0, none⟩) 1 1) (hcl : cs.length = 12) (hone : ∀ u ∈ cs, u.oneCell' = true)
    (HO : RP W base v xs) (HB : Below base w0 W) (hbase : base ≤ W.heap.size) (hl : xs.length + 1 ≤ 1000)
    (h : ∀ v1 w1, RP w1 base v1 (xs ++ [cs]) → Below base w0 w1 → W.grownBy w1 v.ownBlock → wpList Tryz.prog ops Q rest (a.put o.dst v1) w1) :
    wpList Tryz.prog ops Q (o :: rest) a (W.alloc (.cells cs.toArray 28)) :=
  Kd.R_append kpl (w0 := w0) base hgd s x 62 28 _ 112 ho Tryz.underlying62 info28 rfl (by decide) (by omega) v xs cs cs (fun _ => True) (fun _ => False) hs hx ⟨rfl, hcl, hone⟩ (fun _ hk => hk.elim) (fun _ _ => trivial) HO HB hbase (by omega) (fun v1 w1 h1 h2 h3 _ => h v1 w1 h1 h2 h3)
end
/-- a play that Parse reads, in new memory -/
def P14O (p : Sp.Play) (a0 a1 a2 a3 a4 a5 a6 a7 a8 a9 a10 : Int) (n er : Nat) (w : World) (e : Ending) (w' : World) : Prop :=
  ∃ A k, e = .returned (.tuple #[.agg #[.int .i64 a0, .int .i64 a1, .int .i64 a2, .int .i64 a3, .int .i64 a4, .int .i64 a5, .int .i64 a6, .int .i64 a7, .int .i64 a8, .int .i64 a9, .int .i64 a10, .slice A p.ops.length k], .int .i64 (n : Int), .int .i64 (er : Int)]) ∧ OpsRow w' w.heap.size (.slice A p.ops.length k) p.ops ∧ Below w.heap.size w w'
theorem parse14 (t : Sp.Bs) (p : Sp.Play) (n er : Nat) (hp : Sp.parse t = (p, n, er)) (a0 a1 a2 a3 a4 a5 a6 a7 a8 a9 a10 : Int) (ea : p.nums = [a0, a1, a2, a3, a4, a5, a6, a7, a8, a9, a10]) (w : World) (he : Env w) (hs : t.length ≤ 140737488355328) :
    Calls Tryz.prog 14 #[.string (str t)] w (P14O p a0 a1 a2 a3 a4 a5 a6 a7 a8 a9 a10 n er w) := by
  have h := parse_any t w he hs
  rw [hp] at h
  refine h.mono ?_
  rintro e w1 ⟨v, rfl, h11, ho, hbl⟩
  obtain ⟨A, k, rfl, _⟩ := ho.len
  refine ⟨A, k, ?_, ho, hbl⟩
  simp only
  rw [ea]
  rfl
def P20O (p : Sp.Play) (a0 a1 a2 a3 a4 a5 a6 a7 a8 a9 a10 : Int) (w : World) (e : Ending) (w' : World) : Prop :=
  ∃ A k, e = .returned (.agg #[.int .i64 a0, .int .i64 a1, .int .i64 a2, .int .i64 a3, .int .i64 a4, .int .i64 a5, .int .i64 a6, .int .i64 a7, .int .i64 a8, .int .i64 a9, .int .i64 a10, .slice A p.ops.length k]) ∧ OpsRow w' w.heap.size (.slice A p.ops.length k) p.ops ∧ Below w.heap.size w w'
theorem twin20 (p : Sp.Play) (a0 a1 a2 a3 a4 a5 a6 a7 a8 a9 a10 : Int) (ea : p.nums = [a0, a1, a2, a3, a4, a5, a6, a7, a8, a9, a10]) (A : Option Addr) (k : Nat) (w : World) (hv : PlayV w p (.slice A p.ops.length k)) (hs : SmallO p.ops) :
    Calls Tryz.prog 20 #[.agg #[.int .i64 a0, .int .i64 a1, .int .i64 a2, .int .i64 a3, .int .i64 a4, .int .i64 a5, .int .i64 a6, .int .i64 a7, .int .i64 a8, .int .i64 a9, .int .i64 a10, .slice A p.ops.length k]] w (P20O p a0 a1 a2 a3 a4 a5 a6 a7 a8 a9 a10 w) := by
  have h := twin_any p _ w hv hs.2 (by have := hs.1; omega)
  rw [ea] at h
  refine Calls.mono h ?_
  rintro e w1 ⟨v, rfl, ho, hbl⟩
  obtain ⟨B, j, rfl, _⟩ := ho.len
  exact ⟨B, j, rfl, ho, hbl⟩
def P28O (c : Sp.Call) (er : Nat) (w : World) (e : Ending) (w' : World) : Prop :=
  ∃ A k, e = .returned (.tuple #[.agg #[.int .i64 c.op, .int .i64 c.h, .int .i64 c.h2, .int .i64 c.off, .int .i64 c.len, .string (str c.path), .string (str c.name), .string (str c.name2), .slice A c.data.length k], .int .i64 (er : Int)]) ∧ OU w' w.heap.size (.slice A c.data.length k) c.data ∧ Below w.heap.size w w'
theorem parseCall28 (t : Sp.Bs) (c : Sp.Call) (er : Nat) (hp : Sp.parseCall t = (c, er)) (w : World) (he : Env w) (hs : t.length ≤ 140737488355328) :
    Calls Tryz.prog 28 #[.string (str t)] w (P28O c er w) := by
  have h := parseCall_any t w he hs
  rw [hp] at h
  refine h.mono ?_
  rintro e w1 ⟨v, rfl, ho, hbl⟩
  have ho2 := ho
  obtain ⟨A, k, rfl, _, _⟩ := ho.reads
  exact ⟨A, k, rfl, ho2, hbl⟩
/-- the blocks of a play's steps -/
def OpsD (v : Value) (ts : List V3) (k : Nat) : Prop := (∃ t ∈ ts, V3.has t k) ∨ v.ownBlock = some k
theorem OpsRow.open_ {w : World} {lo : Nat} {v : Value} {os : List Sp.Op} (h : OpsRow w lo v os) : ∃ ts, OpsIn w lo (OpsD v ts) v os ts := by
  obtain ⟨ts, h1, h2⟩ := h
  exact ⟨ts, h1, h2, fun t ht k hk => .inl ⟨t, ht, hk⟩, fun k hk => .inr hk⟩
theorem OpsIn.lt {w : World} {lo : Nat} {D : Nat → Prop} {v : Value} {os : List Sp.Op} {ts : List V3} (h : OpsIn w lo D v os ts) {k : Nat} (hk : OpsD v ts k) : lo ≤ k ∧ k < w.heap.size := by
  rcases hk with ⟨t, ht, hk⟩ | hk
  · exact h.1.lt t ht k hk
  · exact ⟨Kd.R_base h.2.1 k hk, Kd.R_lt h.2.1 k hk⟩
theorem OpsIn.typed {w : World} {lo : Nat} {D : Nat → Prop} {v : Value} {os : List Sp.Op} {ts : List V3} (h : OpsIn w lo D v os ts) {k : Nat} (hk : OpsD v ts k) : ∃ (c : Array Value) (e : TypeId) (fr : Nat × Nat), w.heap[k]? = some (Obj.cells c e fr) ∧ (e = 5 ∨ e = 4 ∨ e = 80) := by
  rcases hk with ⟨t, ht, hk⟩ | hk
  · obtain ⟨c, e, fr, hh, he⟩ := h.1.typed t ht k hk
    exact ⟨c, e, fr, hh, by rcases he with he | he <;> simp [he]⟩
  · obtain ⟨c, hc⟩ := Kd.R_typed h.2.1 k hk
    exact ⟨c, 80, _, hc, by simp⟩
/-- rows of bytes, of bits and of steps are as they were -/
def Keep3 (w w' : World) : Prop := w.heap.size ≤ w'.heap.size ∧ ∀ (k : Nat) (c : Array Value) (e : TypeId) (fr : Nat × Nat), w.heap[k]? = some (Obj.cells c e fr) → (e = 5 ∨ e = 4 ∨ e = 80) → w'.heap[k]? = w.heap[k]?
theorem Keep3.trans {a b c : World} (h : Keep3 a b) (k : Keep3 b c) : Keep3 a c := ⟨Nat.le_trans h.1 k.1, fun i cs e fr hi he => by
  have h1 := h.2 i cs e fr hi he
  rw [k.2 i cs e fr (h1.trans hi) he, h1]⟩
theorem Keep3.below {w w' : World} (h : Below w.heap.size w w') : Keep3 w w' := ⟨h.size, fun k c e fr hk _ => h.block k (row_lt hk)⟩
theorem Keep3.aside {w w' : World} (h : Aside w w') : Keep3 w w' := ⟨h.1, fun k c e fr hk he => h.2 k c e fr hk (by rcases he with rfl | rfl | rfl <;> decide)⟩
theorem Keep3.only {w w' : World} (h : OnlyT 28 w w') : Keep3 w w' := ⟨h.1, fun k c e fr hk he => h.2 k c e fr hk (by rcases he with rfl | rfl | rfl <;> decide)⟩
theorem OnlyT.below {T : TypeId} {w w' : World} (h : Below w.heap.size w w') : OnlyT T w w' := ⟨h.size, fun k c e fr hk _ => h.block k (row_lt hk)⟩
theorem OnlyT.trans {T : TypeId} {a b c : World} (h : OnlyT T a b) (k : OnlyT T b c) : OnlyT T a c := ⟨Nat.le_trans h.1 k.1, fun i cs e fr hi he => by
  have h1 := h.2 i cs e fr hi he
  rw [k.2 i cs e fr (h1.trans hi) he, h1]⟩
theorem OnlyT.grown {T : TypeId} {w w' : World} {row : Option Nat} (h : w.grownBy w' row) (hr : ∀ k, row = some k → ∃ c fr, w.heap[k]? = some (Obj.cells c T fr)) : OnlyT T w w' :=
  ⟨h.size, fun k c e fr hk he => h.block k (row_lt hk) (by
    intro e2
    obtain ⟨c2, fr2, hk2⟩ := hr k e2.symm
    rw [hk] at hk2
    injection hk2 with hk2
    injection hk2 with _ hk2 _
    exact he hk2)⟩
theorem OpsIn.keep3 {w w1 : World} {lo : Nat} {D : Nat → Prop} {v : Value} {os : List Sp.Op} {ts : List V3} (h : OpsIn w lo D v os ts) (ha : Keep3 w w1) : OpsIn w1 lo D v os ts :=
  ⟨h.1.step ha.1 fun t ht k hk => by
    obtain ⟨c, e, fr, hh, he⟩ := h.1.typed t ht k hk
    exact ha.2 k c e fr hh (by rcases he with he | he <;> simp [he]), h.2.1.step fun k hk => by
    obtain ⟨c, hc⟩ := Kd.R_typed h.2.1 k hk
    exact ha.2 k c 80 _ hc (by simp), h.2.2⟩
theorem OpsRow.keep3 {w w1 : World} {lo : Nat} {v : Value} {os : List Sp.Op} (h : OpsRow w lo v os) (ha : Keep3 w w1) : OpsRow w1 lo v os := by
  obtain ⟨ts, h1⟩ := h.open_
  exact (h1.keep3 ha).row
theorem ORow.keep3 {e : TypeId} {w w1 : World} {base : Nat} {v : Value} {vs : List Value} (h : ORow e w base v vs) (ha : Keep3 w w1) (he : e = 5 ∨ e = 4 ∨ e = 80) : ORow e w1 base v vs :=
  h.step ha.1 fun k hk => by
    obtain ⟨c, fr, hh⟩ := h.typed k hk
    exact ha.2 k c e fr hh he
/-- the kept blocks -/
def KT (w : World) (K : Nat → Prop) : Prop := ∀ k, K k → k < w.heap.size ∧ ∃ (c : Array Value) (e : TypeId) (fr : Nat × Nat), w.heap[k]? = some (Obj.cells c e fr) ∧ (e = 5 ∨ e = 4 ∨ e = 80)
theorem KT.keep3 {w w1 : World} {K : Nat → Prop} (h : KT w K) (ha : Keep3 w w1) : KT w1 K := fun k hk => by
  obtain ⟨h1, c, e, fr, h2, h3⟩ := h k hk
  exact ⟨Nat.lt_of_lt_of_le h1 ha.1, c, e, fr, (ha.2 k c e fr h2 h3).trans h2, h3⟩
theorem KT.or {w : World} {K D : Nat → Prop} (h : KT w K) (hd : KT w D) : KT w (fun k => K k ∨ D k) := fun k hk => by
  rcases hk with hk | hk
  · exact h k hk
  · exact hd k hk
theorem OpsIn.kt {w : World} {lo : Nat} {D : Nat → Prop} {v : Value} {os : List Sp.Op} {ts : List V3} (h : OpsIn w lo D v os ts) : KT w (OpsD v ts) := fun k hk => ⟨(h.lt hk).2, h.typed hk⟩
theorem ORow.kt {e : TypeId} {w : World} {base : Nat} {v : Value} {vs : List Value} (h : ORow e w base v vs) (he : e = 5 ∨ e = 4 ∨ e = 80) : KT w (fun k => v.ownBlock = some k) := fun k hk => by
  obtain ⟨c, fr, hh⟩ := h.typed k hk
  exact ⟨(h.lt k hk).2, c, e, fr, hh, he⟩
/-- a first reading: none of its blocks is a kept one -/
def FirstOk (w : World) (base : Nat) (K : Nat → Prop) (p : Sp.Play) (x : List Value) : Prop :=
  ∃ A c ts, x = playCells p.nums (.slice A p.ops.length c) ∧ OpsIn w base (OpsD (.slice A p.ops.length c) ts) (.slice A p.ops.length c) p.ops ts ∧ ∀ k, OpsD (.slice A p.ops.length c) ts k → ¬ K k
theorem FirstOk.keep3 {w w1 : World} {base : Nat} {K : Nat → Prop} {p : Sp.Play} {x : List Value} (h : FirstOk w base K p x) (ha : Keep3 w w1) : FirstOk w1 base K p x := by
  obtain ⟨A, c, ts, h1, h2, h3⟩ := h
  exact ⟨A, c, ts, h1, h2.keep3 ha, h3⟩
theorem FirstOk.more {w : World} {base : Nat} {K D : Nat → Prop} {p : Sp.Play} {x : List Value} (h : FirstOk w base K p x) (hd : ∀ k, D k → w.heap.size ≤ k) : FirstOk w base (fun k => K k ∨ D k) p x := by
  obtain ⟨A, c, ts, h1, h2, h3⟩ := h
  refine ⟨A, c, ts, h1, h2, fun k hk hk2 => ?_⟩
  rcases hk2 with hk2 | hk2
  · exact h3 k hk hk2
  · have := (h2.lt hk).2; have := hd k hk2; omega
/-- behind Finish -/
theorem FirstOk.frb {w w1 : World} {base : Nat} {K : Nat → Prop} {p : Sp.Play} {x : List Value} (h : FirstOk w base K p x) (ha : FrB K w w1) : FirstOk w1 base K p x := by
  obtain ⟨A, c, ts, h1, h2, h3⟩ := h
  refine ⟨A, c, ts, h1, ⟨h2.1.step ha.1 fun t ht k hk => ?_, h2.2.1.step fun k hk => ?_, h2.2.2⟩, h3⟩
  · obtain ⟨c2, e, fr, hh, he⟩ := h2.1.typed t ht k hk
    exact ha.2 k c2 e fr hh (by rcases he with rfl | rfl <;> decide) (h3 k (.inl ⟨t, ht, hk⟩))
  · obtain ⟨c2, hc⟩ := Kd.R_typed h2.2.1 k hk
    exact ha.2 k c2 80 _ hc (by decide) (h3 k (.inr hk))
theorem small_of {p : Sp.Play} (h : PlayB p ∧ p.ops.length ≤ 2000) : SmallO p.ops := ⟨h.2, fun o ho => ⟨(h.1.ops o ho).data, (h.1.ops o ho).keep, (h.1.ops o ho).call.data⟩⟩
/-- the book, moved: only blocks of plays changed -/
theorem Kept.only {w w1 : World} {base g : Nat} {K : Nat → Prop} {cs : List Value} {L : Nat → List Value} (h : Kept w base g K cs L) (ha : OnlyT 28 w w1) : Kept w1 base g K cs L where
  bk := h.bk.only ha (by decide)
  u := Pairs.step h.u fun v l hl => ORow.only hl ha (by decide)
  b := Pairs.step h.b fun v l hl => ORow.only hl ha (by decide)
  o := Pairs.step h.o fun v l hl => OpsRow.keep3 hl (Keep3.only ha)
  n2 := h.n2
  n5 := h.n5
  n17 := h.n17
  l4 := h.l4
  l7 := h.l7
  l19 := h.l19
theorem KeptO.kept {w w' : World} {base g : Nat} {K D : Nat → Prop} {cs : List Value} {L : Nat → List Value} {n : Nat} (h : Kept w base g K cs L) (ho : KeptO w base g 0 L K D n w') (b2 : (L 2).length + 2 * n ≤ 10000000) (b5 : (L 5).length + n ≤ 10000000) (b17 : (L 17).length + 1 ≤ 10000000) :
    ∃ cs' L', Kept w' base g (fun k => K k ∨ D k) cs' L' ∧ (L' 2).length = (L 2).length + 2 * n ∧ (L' 5).length = (L 5).length + n ∧ (L' 17).length = (L 17).length + 1 ∧ Aside w w' ∧ Below base w w' := by
  obtain ⟨cs', L', h1, h2, h3, h4, h5, h6, h7, h8, h9, h10⟩ := ho
  exact ⟨cs', L', ⟨h1, h6, h7, h8, by omega, by omega, by omega, (h2 4 (by decide) (by decide) (by decide) (by decide) (by decide) (by decide)).trans h.l4, (h2 7 (by decide) (by decide) (by decide) (by decide) (by decide) (by decide)).trans h.l7, (h2 19 (by decide) (by decide) (by decide) (by decide) (by decide) (by decide)).trans h.l19⟩, h3, h4, h5, h9, h10⟩
theorem KeptU.kept {w w' : World} {base g : Nat} {K : Nat → Prop} {v : Value} {cs : List Value} {L : Nat → List Value} (h : Kept w base g K cs L) (ho : KeptU w base g 0 L K v w') (b2 : (L 2).length + 1 ≤ 10000000) :
    ∃ cs' L', Kept w' base g (fun k => K k ∨ v.ownBlock = some k) cs' L' ∧ (L' 2).length = (L 2).length + 1 ∧ L' 5 = L 5 ∧ L' 17 = L 17 ∧ Aside w w' ∧ Below base w w' := by
  obtain ⟨cs', L', h1, h2, h3, h4, h5, h6⟩ := ho
  have e5 := h2 5 (by decide) (by decide)
  have e6 := h2 6 (by decide) (by decide)
  have e17 := h2 17 (by decide) (by decide)
  have e18 := h2 18 (by decide) (by decide)
  refine ⟨cs', L', ⟨h1, h4, ?_, ?_, by omega, by rw [e5]; exact h.n5, by rw [e17]; exact h.n17, (h2 4 (by decide) (by decide)).trans h.l4, (h2 7 (by decide) (by decide)).trans h.l7, (h2 19 (by decide) (by decide)).trans h.l19⟩, h3, e5, e17, h5, h6⟩
  · rw [e5, e6]; exact (h.b.aside h5).wider fun k hk => .inl hk
  · rw [e17, e18]; exact (PairsO.aside h.o h5).wider fun k hk => .inl hk
/-- the first walk of PlayNew: so many texts are read twice and kept -/
structure NewSt (w wr : World) (g : Nat) (texts : List Sp.Bs) (K : Nat → Prop) (cs : List Value) (L : Nat → List Value) (i : Nat) (v4 : Value) : Prop where
  kept : Kept wr w.heap.size g K cs L
  n2 : (L 2).length ≤ 8001 * i
  n5 : (L 5).length ≤ 4000 * i
  n17 : (L 17).length ≤ 2 * i
  kt : KT wr K
  row : ∃ xs, RP wr w.heap.size v4 xs ∧ xs.length = i ∧ ∀ (j : Nat) (x : List Value) (t : Sp.Bs), xs[j]? = some x → texts[j]? = some t → FirstOk wr w.heap.size K (Sp.parse t).1 x
  below : Below w.heap.size w wr
  lens : ∀ (j : Nat) (t : Sp.Bs), j < i → texts[j]? = some t → t.length ≤ 65536
/-- the first readings, as they are read -/
def FirstsRd (w : World) (texts : List Sp.Bs) (Af : Option Addr) : Prop :=
  ∀ (j : Nat) (t : Sp.Bs), texts[j]? = some t → ∃ ad A c, Af = some ad ∧ (∀ (i : Nat) (u : Value), (playCells (Sp.parse t).1.nums (.slice A (Sp.parse t).1.ops.length c))[i]? = some u → w.cell? ((ad.add (j * 12)).add i) = some u) ∧ PlayV w (Sp.parse t).1 (.slice A (Sp.parse t).1.ops.length c)
theorem FirstsRd.below {w w1 : World} {texts : List Sp.Bs} {Af : Option Addr} (h : FirstsRd w texts Af) (hb : Below w.heap.size w w1) : FirstsRd w1 texts Af := fun j t ht => by
  obtain ⟨ad, A, c, h1, h2, h3⟩ := h j t ht
  exact ⟨ad, A, c, h1, fun i u hu => pw_cell_below hb (h2 i u hu), h3.below hb⟩
theorem firsts_rd {w : World} {base n c : Nat} {K : Nat → Prop} {texts : List Sp.Bs} {Af : Option Addr} {xs : List (List Value)} (h : RP w base (.slice Af n c) xs) (hl : xs.length = texts.length) (hx : ∀ (j : Nat) (x : List Value) (t : Sp.Bs), xs[j]? = some x → texts[j]? = some t → FirstOk w base K (Sp.parse t).1 x) : FirstsRd w texts Af := fun j t ht => by
  have hj := (List.getElem?_eq_some_iff.1 ht).1
  have hxj := List.getElem?_eq_getElem (show j < xs.length by omega)
  obtain ⟨A, c2, ts, e, h2, _⟩ := hx j _ t hxj ht
  obtain ⟨A', c', ev, _, hr⟩ := Kd.R_reads h
  injection ev with ev _ _
  subst ev
  obtain ⟨ad, ha, hcell⟩ := hr.2.2 (by omega)
  obtain ⟨cs, q1, q2, q3⟩ := hcell j _ hxj
  refine ⟨ad, A, c2, ha, fun i u hu => ?_, playV_of h2.row (nums_of t) (parse_B t).1 (parse_B t).2⟩
  rw [Addr.add_add]
  refine q3 i u ?_
  rw [q2.1, e]
  exact hu
end Go.Proofs.YthnhfddlmkhgkaaGreatDoor

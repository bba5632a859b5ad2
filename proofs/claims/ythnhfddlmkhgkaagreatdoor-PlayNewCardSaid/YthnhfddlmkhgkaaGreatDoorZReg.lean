/- A region that draws its order, walked in one order: first what yields in whatever world ('pre'), then what leaves the world alone ('hd'), then a forced chain ('tl'). -/
import Derived.StillTail
import Derived.Test.YthnhfddlmkhgkaaGreatDoorWLast
set_option linter.unusedVariables false
set_option linter.unnecessarySimpa false
namespace Go.Proofs.YthnhfddlmkhgkaaGreatDoor
open Go Go.Proofs.YthnhfddlmkhgkaaGreatDoorW.PrintLast

section
variable {P : Program} {ops : Array Oper} {Q : Exit → Act → World → Prop} {md : Region.Mode} {w : World}

def listAll : List Nat → Array Bool → Array Bool
  | [], l => l
  | i :: r, l => listAll r (l.setIfInBounds i true)
def preOk (md : Region.Mode) (ops : Array Oper) : List Nat → Array Bool → Bool
  | [], _ => true
  | i :: r, l => Region.free md ops l i && (Region.ready md ops l).contains i && preOk md ops r (l.setIfInBounds i true)
def wpPre (P : Program) (ops : Array Oper) (K : Act → Prop) : List Oper → Act → Prop
  | [], a => K a
  | o :: r, a => ∃ d v, o.dst = some d ∧ Yields P ops o v a ∧ wpPre P ops K r (a.put (some d) v)
def pick (l : List Oper) : List Nat → List Oper
  | [] => []
  | i :: r => match l[i]? with
    | some o => o :: pick l r
    | none => pick l r
theorem wpPre_nil {K : Act → Prop} {a : Act} (h : K a) : wpPre P ops K [] a := h
theorem wpPre_move {K : Act → Prop} {a : Act} {d : Tmp} {x : Operand} {t : TypeId} {pos : String} {af : Array Edge} {r : List Oper} (h : wpPre P ops K r (a.put (some d) (a.eval x))) :
    wpPre P ops K (⟨some d, .move x, t, pos, af, none⟩ :: r) a :=
  ⟨d, a.eval x, rfl, .inl ⟨rfl, fun w => by simp [execOp]⟩, h⟩
def inside (n : Nat) (is : List Nat) : Bool := is.all fun i => decide (i < n)
theorem wpAny_pre {l : List Oper} (hs : Region.noSelect l.toArray = true) (hQ : ∀ c d v a w, Q (.panic c) (a.put (some d) v) w → Q (.panic c) a w) :
    ∀ (pre : List Nat) (fuel : Nat) (listed : Array Bool) (a : Act), inside l.length pre = true → preOk md l.toArray pre listed = true →
      wpPre P l.toArray (fun a' => wpAny P md l.toArray Q fuel (listAll pre listed) a' w) (pick l pre) a → wpAny P md l.toArray Q (pre.length + fuel) listed a w
  | [], fuel, listed, a, _, _, h => by simpa only [pick, wpPre, listAll, List.length_nil, Nat.zero_add] using h
  | i :: r, fuel, listed, a, hin, hp, h => by
    simp only [inside, List.all_cons, Bool.and_eq_true, decide_eq_true_eq] at hin
    simp only [preOk, Bool.and_eq_true] at hp
    obtain ⟨⟨h1, h2⟩, h3⟩ := hp
    have hi : l[i]? = some (l[i]'hin.1) := List.getElem?_eq_getElem hin.1
    simp only [pick, hi, wpPre] at h
    obtain ⟨d, v, hd, hy, hk⟩ := h
    rw [show (i :: r).length + fuel = (r.length + fuel) + 1 by simp; omega]
    refine wpAny_take (i := i) (oi := l[i]'hin.1) (by simpa using hi) hs h1 h2 (by rw [hd]; exact fun c a w => hQ c d v a w) hy ?_
    rw [hd]
    exact wpAny_pre hs hQ r fuel _ _ (by simpa [inside] using hin.2) h3 hk

def wpAnyH (P : Program) (md : Region.Mode) (ops : Array Oper) (w : World) (H : List Nat) (L : Array Bool → Act → Prop) : Nat → Array Bool → Act → Prop
  | 0, listed, a => L listed a
  | f + 1, listed, a =>
    Region.ready md ops listed ≠ [] ∧ ∀ i ∈ Region.ready md ops listed, i ∈ H ∧ stOp P ops w i (wpAnyH P md ops w H L f (listed.setIfInBounds i true)) a
theorem wpAny_of_H {H : List Nat} {g : Nat} {L : Array Bool → Act → Prop} {Q' : Exit → Act → World → Prop} (hL : ∀ listed a, L listed a → wpAny P md ops Q' g listed a w) :
    ∀ (f : Nat) (listed : Array Bool) (a : Act), wpAnyH P md ops w H L f listed a → wpAny P md ops Q' (f + g) listed a w
  | 0, listed, a, h => by rw [Nat.zero_add]; exact hL _ _ h
  | f + 1, listed, a, h => by
    rw [show f + 1 + g = (f + g) + 1 by omega]
    exact ⟨fun h0 => absurd h0 h.1, fun i hi => wpOp_of_stOp (fun a' h' => wpAny_of_H hL f _ a' h') (h.2 i hi).2⟩

/-- what is neither listed nor of the head waits for all of the head -/
def Waits (md : Region.Mode) (ops : Array Oper) (H : List Nat) (listed : Array Bool) : Prop :=
  ∀ t, t < ops.size → listed.getD t true = false → t ∉ H → ∀ i ∈ H, Region.reachB md ops i ops.size t = true
theorem Waits.set {H : List Nat} {listed : Array Bool} (h : Waits md ops H listed) (j : Nat) : Waits md ops H (listed.setIfInBounds j true) := by
  intro t ht hun hn i hi
  refine h t ht ?_ hn i hi
  by_cases hjt : j = t
  · subst hjt
    rcases Nat.lt_or_ge j listed.size with h' | h'
    · simp [h'] at hun
    · rwa [Array.setIfInBounds_eq_of_size_le h'] at hun
  · rwa [getD_set_ne true hjt] at hun

theorem wpAnyH_first {H : List Nat} {i : Nat} {oi : Oper} {v : Value} {L : Array Bool → Act → Prop} (hi : ops[i]? = some oi) (hsel : ∀ (j : Nat) (o : Oper) cs b, ops[j]? = some o → o.op ≠ .select cs b)
    (hin : i ∈ H) (hdone : ∀ listed a, L listed a → ∀ j ∈ Region.ready md ops listed, j ∉ H) :
    ∀ (f : Nat) (listed : Array Bool) (a : Act), ListedClosed md ops listed → Waits md ops H listed →
      (∀ j oj, ops[j]? = some oj → j ≠ i → listed.getD j true = false → (∀ e ∈ oj.after, Region.binds md e = true → e.on ≠ i) → oi.apart ops oj = true) →
      i ∈ Region.ready md ops listed → YieldsAt P ops w oi v a →
      wpAnyH P md ops w H L f (listed.setIfInBounds i true) (a.put oi.dst v) → wpAnyH P md ops w H L (f + 1) listed a := by
  have head : ∀ (listed : Array Bool), ListedClosed md ops listed → Waits md ops H listed → i ∈ Region.ready md ops listed → ∀ j ∈ Region.ready md ops listed, j ∈ H := fun listed hc hw hr j hj => by
    by_cases hjH : j ∈ H
    · exact hjH
    · have hun := (mem_ready.1 hr).1
      obtain ⟨hjun, oj, hoj, _⟩ := mem_ready.1 hj
      exact absurd hj (Region.reach_not_ready hc (hw j (Array.getElem?_eq_some_iff.1 hoj).1 hjun hjH i hin) hun)
  intro f
  induction f with
  | zero =>
    intro listed a hc hw _ hr hy K
    refine ⟨fun h => (by rw [h] at hr; cases hr), fun j hj => ?_⟩
    refine ⟨head listed hc hw hr j hj, ?_⟩
    by_cases hji : j = i
    · subst hji; exact hy.stOp hi K
    · exact absurd (head listed hc hw hr j hj) (hdone _ _ K j (ready_mono hj hji))
  | succ f ih =>
    intro listed a hc hw hfree hr hy K
    have hun := (mem_ready.1 hr).1
    refine ⟨fun h => (by rw [h] at hr; cases hr), fun j hj => ?_⟩
    refine ⟨head listed hc hw hr j hj, ?_⟩
    by_cases hji : j = i
    · subst hji; exact hy.stOp hi K
    · have h1 := (K.2 j (ready_mono hj hji)).2
      obtain ⟨hjun, oj, hoj, hall⟩ := mem_ready.1 hj
      have hnot : ∀ e ∈ oj.after, Region.binds md e = true → e.on ≠ i := fun e he hb heq => by
        have h1 := hall e he hb
        rw [heq, getD_both hun] at h1
        cases h1
      have h2 := stOp_put hoj (hfree j oj hoj hji hjun hnot) (fun cs b => hsel i oi cs b hi) (fun cs b => hsel j oj cs b hoj) hy h1
      have hfree' : ∀ k ok, ops[k]? = some ok → k ≠ i → (listed.setIfInBounds j true).getD k true = false →
          (∀ e ∈ ok.after, Region.binds md e = true → e.on ≠ i) → oi.apart ops ok = true := fun k ok hk hki hun hno => by
        refine hfree k ok hk hki ?_ hno
        by_cases hjk : j = k
        · subst hjk; exact hjun
        · rw [getD_set_ne true hjk] at hun; exact hun
      refine stOp_mono (fun a' h3 => ih (listed.setIfInBounds j true) a' (hc.set hj) (hw.set j) hfree' (ready_mono hr (Ne.symm hji)) h3.1 ?_) h2
      rw [Array.setIfInBounds_comm _ _ hji]
      exact h3.2

def seqL (md : Region.Mode) (ops : Array Oper) : List Nat → Array Bool → Bool
  | [], listed => (Region.ready md ops listed).isEmpty
  | k :: r, listed => decide (Region.ready md ops listed = [k]) && seqL md ops r (listed.setIfInBounds k true)
theorem wpAny_of_seqL {l : List Oper} {Q' : Exit → Act → World → Prop} : ∀ (tl : List Nat) (listed : Array Bool) (a : Act) (w : World), inside l.length tl = true →
    seqL md l.toArray tl listed = true → wpList P l.toArray Q' (pick l tl) a w → wpAny P md l.toArray Q' tl.length listed a w
  | [], _, _, _, _, hB, h => ⟨by simpa [seqL] using hB, h⟩
  | k :: r, listed, a, w, hin, hB, h => by
    simp only [inside, List.all_cons, Bool.and_eq_true, decide_eq_true_eq] at hin
    have hi : l[k]? = some (l[k]'hin.1) := List.getElem?_eq_getElem hin.1
    simp only [pick, hi] at h
    simp only [seqL, Bool.and_eq_true, decide_eq_true_eq] at hB
    refine ⟨fun h1 => (by rw [hB.1] at h1; cases h1), fun i hi' => ?_⟩
    rw [hB.1] at hi'
    have hik : i = k := by simpa using hi'
    subst hik
    have hi2 : l.toArray[i]? = some (l[i]'hin.1) := by simpa using hi
    have hw : wpOp P l.toArray Q' i (wpList P l.toArray Q' (pick l r)) a w := by unfold wpOp; simp only [hi2]; exact h
    exact wpOp_mono (fun a' w' h' => wpAny_of_seqL r _ a' w' (by simpa [inside] using hin.2) hB.2 h') hw

theorem wpAnyH_all {l : List Oper} {H tl : List Nat} {Lq : Act → Prop} (hsel : Region.noSelect l.toArray = true) (hdis : (H.all fun i => !tl.contains i) = true) :
    ∀ (hd : List Nat) (listed : Array Bool) (a : Act), inside l.length hd = true → (hd.all fun i => H.contains i) = true → ListedClosed md l.toArray listed → Waits md l.toArray H listed →
    preOk md l.toArray hd listed = true → seqL md l.toArray tl (listAll hd listed) = true → wpStill P l.toArray w Lq (pick l hd) a →
    wpAnyH P md l.toArray w H (fun listed' a' => seqL md l.toArray tl listed' = true ∧ Lq a') hd.length listed a
  | [], listed, a, _, _, _, _, _, hs, h => ⟨by simpa [listAll] using hs, by simpa [pick, wpStill] using h⟩
  | k :: r, listed, a, hin, hH, hc, hw, hp, hs, h => by
    simp only [inside, List.all_cons, Bool.and_eq_true, decide_eq_true_eq] at hin
    simp only [List.all_cons, Bool.and_eq_true] at hH
    have hi : l[k]? = some (l[k]'hin.1) := List.getElem?_eq_getElem hin.1
    have hi2 : l.toArray[k]? = some (l[k]'hin.1) := by simpa using hi
    simp only [pick, hi] at h
    simp only [preOk, Bool.and_eq_true] at hp
    obtain ⟨⟨hf, hr⟩, hp'⟩ := hp
    have hr' : k ∈ Region.ready md l.toArray listed := by simpa using hr
    have hst : stOp P l.toArray w k (wpStill P l.toArray w Lq (pick l r)) a := by unfold stOp; simp only [hi2]; exact h
    obtain ⟨v, hy, hK⟩ := yieldsAt_of_stOp hi2 hst
    refine wpAnyH_first hi2 (Region.noSelect_spec hsel) (by simpa using hH.1) (fun listed' a' hL j hj hjH => ?_) r.length listed a hc hw (Region.free_spec hi2 hf) hr' hy
      (wpAnyH_all hsel hdis r _ _ (by simpa [inside] using hin.2) hH.2 (hc.set hr') (hw.set k) hp' (by simpa [listAll] using hs) hK)
    have h1 := hL.1
    cases tl with
    | nil => simp only [seqL, List.isEmpty_iff] at h1; rw [h1] at hj; cases hj
    | cons t tr =>
      simp only [seqL, Bool.and_eq_true, decide_eq_true_eq] at h1
      rw [h1.1] at hj
      have hjt : j = t := by simpa using hj
      subst hjt
      have := List.all_eq_true.1 hdis j hjH
      simp at this

def waitsB (md : Region.Mode) (ops : Array Oper) (H : List Nat) (listed : Array Bool) : Bool :=
  (List.range ops.size).all fun t => listed.getD t true || H.contains t || H.all fun i => Region.reachB md ops i ops.size t
theorem waitsB_spec {H : List Nat} {listed : Array Bool} (h : waitsB md ops H listed = true) : Waits md ops H listed := by
  intro t ht hun hn i hi
  have h1 := List.all_eq_true.1 h t (List.mem_range.2 ht)
  simp only [hun, Bool.false_or, Bool.or_eq_true, List.contains_iff_mem] at h1
  rcases h1 with h1 | h1
  · exact absurd h1 hn
  · exact List.all_eq_true.1 h1 i hi
def mixB (md : Region.Mode) (ops : Array Oper) (pre hd tl : List Nat) : Bool :=
  let l0 := Array.replicate ops.size false
  let l1 := listAll pre l0
  Region.noSelect ops && inside ops.size pre && inside ops.size hd && inside ops.size tl && decide (pre.length + hd.length + tl.length = ops.size) && preOk md ops pre l0 &&
    preOk md ops hd l1 && waitsB md ops hd l1 && (hd.all fun i => !tl.contains i) && seqL md ops tl (listAll hd l1)

theorem closed_all : ∀ (pre : List Nat) (listed : Array Bool), ListedClosed md ops listed → preOk md ops pre listed = true → ListedClosed md ops (listAll pre listed)
  | [], _, h, _ => h
  | i :: r, listed, h, hp => by
    simp only [preOk, Bool.and_eq_true] at hp
    exact closed_all r _ (h.set (by simpa using hp.1.2)) hp.2

theorem region_mix {id : Nat} {a : Act} {l : List Oper} (pre hd tl : List Nat) (hm : P.follows .mixedOrders = true) (hB : mixB .any l.toArray pre hd tl = true)
    (hQ : ∀ c d v a w, Q (.panic c) (a.put (some d) v) w → Q (.panic c) a w)
    (h : wpPre P l.toArray (fun a1 => wpStill P l.toArray w.drew (fun a2 => wpList P l.toArray Q (pick l tl) a2 w.drew) (pick l hd) a1) (pick l pre) a) : (Code.region id l.toArray true).wp P Q a w := by
  simp only [mixB, Bool.and_eq_true, decide_eq_true_eq] at hB
  obtain ⟨⟨⟨⟨⟨⟨⟨⟨⟨h1, h2⟩, h3⟩, h4⟩, h5⟩, h6⟩, h7⟩, h8⟩, h9⟩, h10⟩ := hB
  rw [List.size_toArray] at h2 h3 h4 h5
  have c0 : ListedClosed .any l.toArray (Array.replicate l.toArray.size false) := fun j oj _ hl => by rw [getD_replicate_false] at hl; cases hl
  have c1 := closed_all pre _ c0 h6
  refine wp_region_any hm ?_
  have key := wpAny_pre (P := P) (Q := Q) (md := .any) (w := w.drew) h1 hQ pre (hd.length + tl.length) (Array.replicate l.toArray.size false) a h2 h6 ?_
  · rw [← Nat.add_assoc, h5] at key
    rw [List.size_toArray] at key ⊢
    exact key
  · have mono : ∀ (os : List Oper) (a : Act) (K K' : Act → Prop), (∀ a, K a → K' a) → wpPre P l.toArray K os a → wpPre P l.toArray K' os a := by
      intro os
      induction os with
      | nil => exact fun a K K' hk h => hk a h
      | cons o r ih => exact fun a K K' hk ⟨d, v, hd, hy, h⟩ => ⟨d, v, hd, hy, ih _ K K' hk h⟩
    refine mono _ _ _ _ (fun a1 hs => ?_) h
    refine wpAny_of_H (H := hd) (g := tl.length) (fun listed a' hL => wpAny_of_seqL tl listed a' w.drew h4 hL.1 hL.2) _ _ _
      (wpAnyH_all (md := .any) h1 h9 hd _ a1 h3 (by simp) c1 (waitsB_spec h8) h7 h10 hs)
end
end Go.Proofs.YthnhfddlmkhgkaaGreatDoor

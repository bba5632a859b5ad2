/- Walks: what some functions of the play package and its laws compute, as contracts. -/
import Derived.Test.YthnhfddlmkhgkaaGreatDoorZPrintC
set_option linter.unusedVariables false
namespace Go.Proofs.YthnhfddlmkhgkaaGreatDoor
open Go.RowKit Go.Proofs.YthnhfddlmkhgkaaGreatDoorW.PrintWords

section
variable {P : Program} {ops : Array Oper} {rest : List Oper} {o : Oper} {a : Act} {Q : Exit → Act → World → Prop}
/-- a whole struct loaded from any address, under a guard -/
theorem wpList_load_any_if {w : World} (hw : Region.wanted o (yielded ops a.tmps) = true) (ty : TypeId) (x : Operand) (ho : o.op = .load ty x)
    (p : Addr) (hx : a.eval x = .pointer (some p)) (cs : List Value) (d : TypeDesc) (hc : ∀ j v, cs[j]? = some v → w.cell? (p.add j) = some v)
    (hu : P.underlying ty = some d) (hd : d.isRow = true) (hi : (P.info? ty).map (·.size) = some cs.length)
    (h : wpList P ops Q rest (a.put o.dst (.agg cs.toArray)) w) : wpList P ops Q (o :: rest) a w := by
  have hrun : (execOp a.eval o).run P w = .ok (.value (.agg cs.toArray)) w := by
    unfold execOp
    simp only [ho, hx]
    rw [Sem.run_bind, run_loadAt_any w p ty cs d hc hu hd hi]
    rfl
  refine wpList_step fun K hK => ?_
  rw [if_pos hw]
  unfold Oper.wp
  rw [hrun]
  exact hK _ _ h
end
/-- is one of the letters among those? -/
def hasB (f ls : Sp.Bs) : Bool := f.any fun c => ls.contains c
set_option maxHeartbeats 1000000 in
set_option maxRecDepth 100000 in
theorem has_any (f ls : ByteArray) (g : Nat) (w : World) (hf : f.size ≤ 1099511627776) (hl : ls.size ≤ 1099511627776) (af : ∀ c ∈ bl f, c.toNat < 128) (al : ∀ c ∈ bl ls, c.toNat < 128) (hc : w.cell? ⟨g, 0, none⟩ = some (.string f)) :
    Calls Tryz.prog 142 #[.string ls, .pointer (some ⟨g, 0, none⟩)] w (BRet w (.bool (hasB (bl f) (bl ls)))) := by
  have HC : Hid (Calls Tryz.prog 143 #[.string f, .string ls] w (BRet w (.bool (hasB (bl f) (bl ls))))) := Lib.hid (hasAny_any f ls w hf hl af al)
  go_enter Tryz.func142, Tryz.ntmps142
  go_wp2_with (go_at_call 143; refine HC.out.mono ?_; rintro e w1 ⟨rfl, hb⟩)
  go_ret
  exact ⟨rfl, hb⟩
/-- what the walk of spare finds in a world: the box's cells, and the closure's answers -/
structure SpW (w W0 : World) (f : Sp.Bs) (o : Sp.Op) (v1 v2 v3 : Value) (w1 : World) : Prop where
  below : Below W0.heap.size W0 w1
  row : w1.heap[w.heap.size]? = some (.cells (opCells o v1 v2 v3).toArray 80 (0, 0))
  cap : w1.cell? ⟨w.heap.size + 1, 0, none⟩ = some (.string (str f))
theorem SpW.to {w W0 w1 w2 : World} {f : Sp.Bs} {o : Sp.Op} {v1 v2 v3 : Value} (h : SpW w W0 f o v1 v2 v3 w1) (hb : Below w1.heap.size w1 w2) : SpW w W0 f o v1 v2 v3 w2 :=
  ⟨h.below.trans (hb.mono h.below.size), (hb.block _ (row_lt h.row)).trans h.row, pw_cell_below hb h.cap⟩
theorem SpW.has {w W0 w1 : World} {f : Sp.Bs} {o : Sp.Op} {v1 v2 v3 : Value} (h : SpW w W0 f o v1 v2 v3 w1) (hf : f.length ≤ 4) (af : ∀ c ∈ f, c.toNat < 128) (ls : Sp.Bs) (hl : ls.length ≤ 2) (al : ∀ c ∈ ls, c.toNat < 128) :
    Calls Tryz.prog 142 #[.string (str ls), .pointer (some ⟨w.heap.size + 1, 0, none⟩)] w1 (fun e w2 => e = .returned (.bool (hasB f ls)) ∧ SpW w W0 f o v1 v2 v3 w2) :=
  (has_any (str f) (str ls) _ w1 (by rw [str_size]; omega) (by rw [str_size]; omega) af al h.cap).mono fun e w2 ⟨h1, h2⟩ => ⟨h1, h.to h2⟩
theorem hasB_one (f : Sp.Bs) (x : UInt8) : hasB f [x] = f.contains x := by
  unfold hasB
  rw [Bool.eq_iff_iff, List.any_eq_true, List.contains_iff_mem]
  constructor
  · rintro ⟨c, h1, h2⟩
    simp at h2
    subst h2
    exact h1
  · intro h
    exact ⟨x, h, by simp⟩
theorem hasB_two (f : Sp.Bs) (x y : UInt8) : hasB f [x, y] = (f.contains x || f.contains y) := by
  unfold hasB
  rw [Bool.eq_iff_iff, List.any_eq_true, Bool.or_eq_true, List.contains_iff_mem, List.contains_iff_mem]
  constructor
  · rintro ⟨c, h1, h2⟩
    simp at h2
    rcases h2 with rfl | rfl
    · exact .inl h1
    · exact .inr h1
  · rintro (h | h)
    · exact ⟨x, h, by simp⟩
    · exact ⟨y, h, by simp⟩
theorem spare_eq (o : Sp.Op) (f : Sp.Bs) (n : Nat) (hk : o.kind = n) (hf : f = (Sp.stepRows.getD n ([], [])).2) :
    Sp.spare o = ((((!hasB f [97, 106] && (o.a != 0)) || (!hasB f [107] && (o.k != 0)) || (!hasB f [109] && (o.m != 0)) || (!hasB f [120] && (o.x != 0))) ||
      ((!hasB f [100] && decide (0 < (o.data.length : Int))) || (!hasB f [98] && decide (0 < (o.keep.length : Int))))) || (!hasB f [99] && !decide (o.call = {}))) := by
  unfold Sp.spare
  simp only
  rw [hk, Int.toNat_natCast, ← hf]
  have e1 : ∀ x : Int, decide (x ≠ 0) = (x != 0) := fun x => by rw [Bool.eq_iff_iff]; simp
  have e2 : decide (o.data ≠ []) = decide (0 < (o.data.length : Int)) := by rw [decide_eq_decide]; cases o.data <;> simp
  have e3 : decide (o.keep ≠ []) = decide (0 < (o.keep.length : Int)) := by rw [decide_eq_decide]; cases o.keep <;> simp
  have e4 : decide (o.call ≠ {}) = !decide (o.call = {}) := by rw [Bool.eq_iff_iff]; simp
  rw [hasB_two, hasB_one, hasB_one, hasB_one, hasB_one, hasB_one, hasB_one, e1, e1, e1, e1, e2, e3, e4]
  simp only [Bool.or_assoc]
set_option maxHeartbeats 8000000 in
set_option maxRecDepth 100000 in
theorem spare_any (o : Sp.Op) (v1 v2 v3 : Value) (w : World) (he : Env w) (ho : OpV w o v1 v2 v3) (n : Nat) (hk : o.kind = n) (h15 : n < 15) (hcl : o.call.data.length ≤ 140737488355328) :
    Calls Tryz.prog 89 #[.agg (opCells o v1 v2 v3).toArray] w (BRet w (.bool (Sp.spare o))) := by
  obtain ⟨hoc, ⟨A2, k2, rfl, hr2⟩, A3, k3, rfl, hr3⟩ := ho
  obtain ⟨f, hf⟩ : ∃ f, f = (Sp.stepRows.getD n ([], [])).2 := ⟨_, rfl⟩
  have hfl : f.length ≤ 4 := by
    have : ∀ j, j < 15 → (Sp.stepRows.getD j ([], [])).2.length ≤ 4 := by decide
    rw [hf]; exact this n h15
  have haf : ∀ c ∈ f, c.toNat < 128 := by
    have : ∀ j, j < 15 → ∀ c ∈ (Sp.stepRows.getD j ([], [])).2, c.toNat < 128 := by decide
    rw [hf]; exact this n h15
  have hcf : w.cell? ⟨0, n * 2 + 1, none⟩ = some (.string (str f)) := by rw [hf]; exact (table_cell gSteps he.steps n h15).2
  have h0 : 0 < w.heap.size := var_lt gSteps he.steps
  obtain ⟨W0, hW0⟩ : ∃ W0, W0 = ((w.alloc (.cells #[.int .i64 n, .int .i64 o.a, .int .i64 o.k, .int .i64 o.m, .int .i64 o.x, .int .i64 o.call.op, .int .i64 o.call.h, .int .i64 o.call.h2, .int .i64 o.call.off, .int .i64 o.call.len, .string (str o.call.path), .string (str o.call.name), .string (str o.call.name2), v1, .slice A2 o.data.length k2, .slice A3 o.keep.length k3] 80)).alloc (.cells #[.string (str f)] 9)) := ⟨_, rfl⟩
  have hB0 : Below w.heap.size w W0 := by rw [hW0]; exact ((Below.refl _ _).alloc (Nat.le_refl _) _).alloc (by simp) _
  have hS0 : SpW w W0 f o v1 (.slice A2 o.data.length k2) (.slice A3 o.keep.length k3) W0 := by
    refine ⟨Below.refl _ _, ?_, ?_⟩
    · rw [hW0, heap_alloc_old _ _ (by simp), heap_alloc_new, ← hk]; rfl
    · rw [hW0, World.cell?_alloc_at _ _ _ _ (by simp)]; rfl
  have HS := Lib.hid hS0
  have HH : Hid (∀ w1, SpW w W0 f o v1 (.slice A2 o.data.length k2) (.slice A3 o.keep.length k3) w1 → ∀ ls : Sp.Bs, ls.length ≤ 2 → (∀ c ∈ ls, c.toNat < 128) → Calls Tryz.prog 142 #[.string (str ls), .pointer (some ⟨w.heap.size + 1, 0, none⟩)] w1 (fun e w2 => e = .returned (.bool (hasB f ls)) ∧ SpW w W0 f o v1 (.slice A2 o.data.length k2) (.slice A3 o.keep.length k3) w2)) := Lib.hid (fun w1 h ls h1 h2 => h.has hfl haf ls h1 h2)
  have HF := Lib.hid hf
  have HKN := Lib.hid hk
  have HB := Lib.hid hB0
  have HOC := Lib.hid (And.intro hoc hcl)
  clear hf haf he hS0 hB0 hoc hcl hr2 hr3
  show Calls Tryz.prog 89 #[.agg #[.int .i64 o.kind, .int .i64 o.a, .int .i64 o.k, .int .i64 o.m, .int .i64 o.x, .int .i64 o.call.op, .int .i64 o.call.h, .int .i64 o.call.h2, .int .i64 o.call.off, .int .i64 o.call.len, .string (str o.call.path), .string (str o.call.name), .string (str o.call.name2), v1, .slice A2 o.data.length k2, .slice A3 o.keep.length k3]] w _
  rw [hk]
  clear hk
  have q1 : (0 : Int) ≤ (n : Int) ∧ (n : Int) < 15 := ⟨by omega, by omega⟩
  obtain ⟨r, hr⟩ : ∃ r, r = Sp.spare o := ⟨_, rfl⟩
  have HR := Lib.hid (hr.trans (spare_eq o f n HKN.out HF.out))
  rw [← hr]
  clear hr
  have hmf : ∀ (fn : Fn) (first cap : Array Value) (w : World), (Instr.makeFunc fn first cap).run Tryz.prog w = .ok (.func fn first cap) w := fun _ _ _ _ => rfl
  go_enter Tryz.func89, Tryz.ntmps89
  go_upto_region 3 with fail
  rw [← hW0]
  obtain ⟨OV, hOV⟩ : ∃ v, v = Value.agg #[.int .i64 n, .int .i64 o.a, .int .i64 o.k, .int .i64 o.m, .int .i64 o.x, .int .i64 o.call.op, .int .i64 o.call.h, .int .i64 o.call.h2, .int .i64 o.call.off, .int .i64 o.call.len, .string (str o.call.path), .string (str o.call.name), .string (str o.call.name2), v1, .slice A2 o.data.length k2, .slice A3 o.keep.length k3] := ⟨_, rfl⟩
  rw [← hOV]
  clear hOV
  clear hW0 hcf q1
  obtain ⟨haj, eaj⟩ : ∃ x, x = hasB f [97, 106] := ⟨_, rfl⟩
  obtain ⟨hk, ek⟩ : ∃ x, x = hasB f [107] := ⟨_, rfl⟩
  obtain ⟨hm, em⟩ : ∃ x, x = hasB f [109] := ⟨_, rfl⟩
  obtain ⟨hx, ex⟩ : ∃ x, x = hasB f [120] := ⟨_, rfl⟩
  obtain ⟨hd, ed⟩ : ∃ x, x = hasB f [100] := ⟨_, rfl⟩
  obtain ⟨hb, eb⟩ : ∃ x, x = hasB f [98] := ⟨_, rfl⟩
  obtain ⟨hc, ec⟩ : ∃ x, x = hasB f [99] := ⟨_, rfl⟩
  have AJ : Hid (∀ w1, SpW w W0 f o v1 (.slice A2 o.data.length k2) (.slice A3 o.keep.length k3) w1 → Calls Tryz.prog 142 #[.string ⟨#[97, 106]⟩, .pointer (some ⟨w.heap.size + 1, 0, none⟩)] w1 (fun e w2 => e = .returned (.bool haj) ∧ SpW w W0 f o v1 (.slice A2 o.data.length k2) (.slice A3 o.keep.length k3) w2)) := Lib.hid (fun w1 h => by rw [eaj]; exact HH.out w1 h [97, 106] (by simp) (by decide))
  have K : Hid (∀ w1, SpW w W0 f o v1 (.slice A2 o.data.length k2) (.slice A3 o.keep.length k3) w1 → Calls Tryz.prog 142 #[.string ⟨#[107]⟩, .pointer (some ⟨w.heap.size + 1, 0, none⟩)] w1 (fun e w2 => e = .returned (.bool hk) ∧ SpW w W0 f o v1 (.slice A2 o.data.length k2) (.slice A3 o.keep.length k3) w2)) := Lib.hid (fun w1 h => by rw [ek]; exact HH.out w1 h [107] (by simp) (by decide))
  have M : Hid (∀ w1, SpW w W0 f o v1 (.slice A2 o.data.length k2) (.slice A3 o.keep.length k3) w1 → Calls Tryz.prog 142 #[.string ⟨#[109]⟩, .pointer (some ⟨w.heap.size + 1, 0, none⟩)] w1 (fun e w2 => e = .returned (.bool hm) ∧ SpW w W0 f o v1 (.slice A2 o.data.length k2) (.slice A3 o.keep.length k3) w2)) := Lib.hid (fun w1 h => by rw [em]; exact HH.out w1 h [109] (by simp) (by decide))
  have X : Hid (∀ w1, SpW w W0 f o v1 (.slice A2 o.data.length k2) (.slice A3 o.keep.length k3) w1 → Calls Tryz.prog 142 #[.string ⟨#[120]⟩, .pointer (some ⟨w.heap.size + 1, 0, none⟩)] w1 (fun e w2 => e = .returned (.bool hx) ∧ SpW w W0 f o v1 (.slice A2 o.data.length k2) (.slice A3 o.keep.length k3) w2)) := Lib.hid (fun w1 h => by rw [ex]; exact HH.out w1 h [120] (by simp) (by decide))
  have D : Hid (∀ w1, SpW w W0 f o v1 (.slice A2 o.data.length k2) (.slice A3 o.keep.length k3) w1 → Calls Tryz.prog 142 #[.string ⟨#[100]⟩, .pointer (some ⟨w.heap.size + 1, 0, none⟩)] w1 (fun e w2 => e = .returned (.bool hd) ∧ SpW w W0 f o v1 (.slice A2 o.data.length k2) (.slice A3 o.keep.length k3) w2)) := Lib.hid (fun w1 h => by rw [ed]; exact HH.out w1 h [100] (by simp) (by decide))
  have Bb : Hid (∀ w1, SpW w W0 f o v1 (.slice A2 o.data.length k2) (.slice A3 o.keep.length k3) w1 → Calls Tryz.prog 142 #[.string ⟨#[98]⟩, .pointer (some ⟨w.heap.size + 1, 0, none⟩)] w1 (fun e w2 => e = .returned (.bool hb) ∧ SpW w W0 f o v1 (.slice A2 o.data.length k2) (.slice A3 o.keep.length k3) w2)) := Lib.hid (fun w1 h => by rw [eb]; exact HH.out w1 h [98] (by simp) (by decide))
  have C : Hid (∀ w1, SpW w W0 f o v1 (.slice A2 o.data.length k2) (.slice A3 o.keep.length k3) w1 → Calls Tryz.prog 142 #[.string ⟨#[99]⟩, .pointer (some ⟨w.heap.size + 1, 0, none⟩)] w1 (fun e w2 => e = .returned (.bool hc) ∧ SpW w W0 f o v1 (.slice A2 o.data.length k2) (.slice A3 o.keep.length k3) w2)) := Lib.hid (fun w1 h => by rw [ec]; exact HH.out w1 h [99] (by simp) (by decide))
  have HE := Lib.hid (And.intro eaj (And.intro ek (And.intro em (And.intro ex (And.intro ed (And.intro eb ec))))))
  clear eaj ek em ex ed eb ec HH
  obtain ⟨nb, hnb⟩ : ∃ x, x = ((!haj && (o.a != 0)) || (!hk && (o.k != 0)) || (!hm && (o.m != 0)) || (!hx && (o.x != 0))) := ⟨_, rfl⟩
  have HNB := Lib.hid hnb
  clear hnb
  go_cut [5] (fun v5 wx => v5 = .bool nb ∧ SpW w W0 f o v1 (.slice A2 o.data.length k2) (.slice A3 o.keep.length k3) wx)
  case first =>
    go_wp2_with (first | (go_at_call 142; (first | refine (AJ.out _ HS.out).mono ?_ | refine (K.out _ hs1).mono ?_ | refine (M.out _ hs1).mono ?_ | refine (X.out _ hs1).mono ?_); rintro e w1 ⟨rfl, hs1⟩; obtain ⟨x0, x1, x2, x3, x4, x5, x6⟩ := op_cells hs1.row))
    all_goals go_meet
    all_goals (refine ⟨?_, hs1⟩; have h := HNB.out; clear HNB AJ K M X D Bb C HE HF HKN HB HOC HR; rw [h]; simp_all)
  case rest =>
    obtain ⟨rfl, hs1⟩ := hcut
    obtain ⟨lb, hlb⟩ : ∃ x, x = ((!hd && decide (0 < (o.data.length : Int))) || (!hb && decide (0 < (o.keep.length : Int)))) := ⟨_, rfl⟩
    have HLB := Lib.hid hlb
    clear hlb AJ K M X HS
    have HS := Lib.hid hs1
    clear hs1
    go_upto_region 4 with fail
    go_cut [6] (fun v6 wx => v6 = .bool lb ∧ SpW w W0 f o v1 (.slice A2 o.data.length k2) (.slice A3 o.keep.length k3) wx)
    case first =>
      go_wp2_with (first | (go_at_call 142; (first | refine (D.out _ HS.out).mono ?_ | refine (Bb.out _ hs1).mono ?_); rintro e w1 ⟨rfl, hs1⟩; obtain ⟨x0, x1, x2, x3, x4, x5, x6⟩ := op_cells hs1.row))
      all_goals go_meet
      all_goals (refine ⟨?_, hs1⟩; have h := HLB.out; clear HLB HNB D Bb C HE HF HKN HB HOC HR; rw [h]; simp_all)
    case rest =>
      obtain ⟨rfl, hs1⟩ := hcut
      obtain ⟨sb, hsb⟩ : ∃ x, x = decide (o.call = {}) := ⟨_, rfl⟩
      have HSM : Hid (∀ w1, SpW w W0 f o v1 (.slice A2 o.data.length k2) (.slice A3 o.keep.length k3) w1 → Calls Tryz.prog 101 #[.agg (callCells o.call v1).toArray, .agg #[.int .i64 0, .int .i64 0, .int .i64 0, .int .i64 0, .int .i64 0, .string ⟨#[]⟩, .string ⟨#[]⟩, .string ⟨#[]⟩, .slice none 0 0]] w1 (fun e w2 => e = .returned (.bool sb) ∧ Below w.heap.size w w2)) := Lib.hid (fun w1 h => by
        have hbw := HB.out.trans (h.below.mono HB.out.size)
        obtain ⟨A1, k1, e1, r1⟩ := HOC.out.1
        rw [hsb]
        exact (playSame_any o.call {} v1 (.slice none 0 0) w1 ⟨A1, k1, e1, r1.below hbw⟩ ⟨none, 0, rfl, rfl, by simp, fun h => absurd h (by simp)⟩ HOC.out.2).mono fun e w2 ⟨q1, q2⟩ => ⟨q1, hbw.trans (q2.mono hbw.size)⟩)
      have HCC : Hid (∀ w1, SpW w W0 f o v1 (.slice A2 o.data.length k2) (.slice A3 o.keep.length k3) w1 → ∀ (j : Nat) (v : Value), (callCells o.call v1)[j]? = some v → w1.cell? ((⟨w.heap.size, 5, none⟩ : Addr).add j) = some v) := Lib.hid (fun w1 h j v hj => by
        have := row_cells h.row (5 + j) v (by
          have hlt : j < 9 := (List.getElem?_eq_some_iff.1 hj).1
          rw [← hj]
          match j, hlt with
          | 0, _ => rfl
          | 1, _ => rfl
          | 2, _ => rfl
          | 3, _ => rfl
          | 4, _ => rfl
          | 5, _ => rfl
          | 6, _ => rfl
          | 7, _ => rfl
          | 8, _ => rfl)
        rw [Lib.add_plain] at this ⊢
        simpa using this)
      have HSB := Lib.hid hsb
      have HS2 := Lib.hid hs1
      have HBW := Lib.hid (HB.out.trans (hs1.below.mono HB.out.size))
      clear hsb hs1 D Bb HS
      cases nb <;> cases lb <;> cases hc
      all_goals (go_wp2_with (first | (go_at_call 142; refine (C.out _ HS2.out).mono ?_; rintro e w1 ⟨rfl, hs1⟩; have HC1 := Lib.hid (HCC.out _ hs1); have HBW1 := Lib.hid (HB.out.trans (hs1.below.mono HB.out.size))) | (refine wpList_load_any_if rfl 51 (.tmp 80) rfl ⟨w.heap.size, 5, none⟩ rfl (callCells o.call v1) _ HC1.out Tryz.underlying51 rfl (by kernel_rfl) ?_) | (go_at_call 101; refine (HSM.out _ hs1).mono ?_; rintro e w2 ⟨rfl, hb2⟩)))
      all_goals go_ret
      all_goals (refine ⟨ret_bool ?_, by first | exact HBW.out | exact HBW1.out | exact hb2⟩; obtain ⟨e1, e2, e3, e4, e5, e6, e7⟩ := HE.out; rw [HR.out, ← e1, ← e2, ← e3, ← e4, ← e5, ← e6, ← e7, ← HNB.out, ← HLB.out, ← HSB.out]; rfl)
end Go.Proofs.YthnhfddlmkhgkaaGreatDoor

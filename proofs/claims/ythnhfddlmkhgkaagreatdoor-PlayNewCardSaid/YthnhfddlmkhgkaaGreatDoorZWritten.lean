/- Walks: what some functions of the play package and its laws compute, as contracts. -/
import Derived.Test.YthnhfddlmkhgkaaGreatDoorZJoinC
set_option linter.unusedVariables false
namespace Go.Proofs.YthnhfddlmkhgkaaGreatDoor
open Go.RowKit Go.Proofs.YthnhfddlmkhgkaaGreatDoorW.PrintWords

/-- a call laid into a box -/
def cbox (w : World) (c : Sp.Call) (v : Value) : World := w.alloc (.cells (callCells c v).toArray 51)
theorem cbox_below (w : World) (c : Sp.Call) (v : Value) : Below w.heap.size w (cbox w c v) := (Below.refl _ _).alloc (Nat.le_refl _) _
theorem cbox_row (w : World) (c : Sp.Call) (v : Value) : (cbox w c v).heap[w.heap.size]? = some (.cells (callCells c v).toArray 51 (0, 0)) := heap_alloc_new w _
/-- the cells of a call's box -/
theorem call_nums {w : World} {g : Nat} {c : Sp.Call} {v : Value} (h : w.heap[g]? = some (.cells (callCells c v).toArray 51 (0, 0))) :
    w.cell? ⟨g, 0, none⟩ = some (.int .i64 c.op) ∧ w.cell? ⟨g, 1, none⟩ = some (.int .i64 c.h) ∧ w.cell? ⟨g, 2, none⟩ = some (.int .i64 c.h2) ∧ w.cell? ⟨g, 3, none⟩ = some (.int .i64 c.off) ∧ w.cell? ⟨g, 4, none⟩ = some (.int .i64 c.len) ∧ ∀ k, 1 ≤ k → k ≤ 4 → w.cell? ⟨g, k, none⟩ = some (.int .i64 (c.getN k)) := by
  refine ⟨?_, ?_, ?_, ?_, ?_, fun k h1 h2 => ?_⟩
  all_goals rw [cell_of_row _ _ _ _ _ _ h]
  · rfl
  · rfl
  · rfl
  · rfl
  · rfl
  · have : k = 1 ∨ k = 2 ∨ k = 3 ∨ k = 4 := by omega
    rcases this with rfl | rfl | rfl | rfl <;> rfl
theorem wstart (w : World) (c : Sp.Call) (op : Nat) (nm f : Sp.Bs) (A : Option Addr) (ka : Nat) (hop : c.op = (op : Int)) (W0 : World)
    (hW : W0 = ((((w.alloc (Obj.cells #[Value.int IntKind.i64 ↑op, Value.int IntKind.i64 c.h, Value.int IntKind.i64 c.h2, Value.int IntKind.i64 c.off, Value.int IntKind.i64 c.len, Value.string (str c.path), Value.string (str c.name), Value.string (str c.name2), Value.slice A (List.length c.data) ka] 51)).alloc (Obj.cells #[Value.string (str nm), Value.string (str f)] 128)).alloc (Obj.cells #[Value.string (str nm)] 9)).alloc (Obj.cells #[Value.int IntKind.i64 ↑op, Value.int IntKind.i64 0, Value.int IntKind.i64 0, Value.int IntKind.i64 0, Value.int IntKind.i64 0, Value.string { data := #[] }, Value.string { data := #[] }, Value.string { data := #[] }, Value.slice none 0 0] 51))) :
    Below w.heap.size w W0 ∧ W0.heap[w.heap.size]? = some (.cells (callCells c (.slice A c.data.length ka)).toArray 51 (0, 0)) ∧ W0.heap[w.heap.size + 1]? = some (.cells #[.string (str nm), .string (str f)] 128 (0, 0)) ∧
    RowS W0 w.heap.size (.slice (some ⟨w.heap.size + 2, 0, none⟩) 1 1) [nm] ∧ CallAt W0 w.heap.size (w.heap.size + 3) { op := (op : Int) } := by
  subst hW
  rw [← hop]
  generalize ho1 : Obj.cells #[Value.int IntKind.i64 c.op, Value.int IntKind.i64 c.h, Value.int IntKind.i64 c.h2, Value.int IntKind.i64 c.off, Value.int IntKind.i64 c.len, Value.string (str c.path), Value.string (str c.name), Value.string (str c.name2), Value.slice A (List.length c.data) ka] 51 = o1
  generalize ho2 : Obj.cells #[Value.string (str nm), Value.string (str f)] 128 = o2
  generalize ho4 : Obj.cells #[Value.int IntKind.i64 c.op, Value.int IntKind.i64 0, Value.int IntKind.i64 0, Value.int IntKind.i64 0, Value.int IntKind.i64 0, Value.string { data := #[] }, Value.string { data := #[] }, Value.string { data := #[] }, Value.slice none 0 0] 51 = o4
  have s1 : (w.alloc o1).heap.size = w.heap.size + 1 := World.size_alloc _ _
  have s2 : ((w.alloc o1).alloc o2).heap.size = w.heap.size + 2 := by rw [World.size_alloc, s1]
  have s3 : (((w.alloc o1).alloc o2).alloc (.cells #[.string (str nm)] 9)).heap.size = w.heap.size + 3 := by rw [World.size_alloc, s2]
  refine ⟨(((((Below.refl _ _).alloc (Nat.le_refl _) _).alloc (by omega) _).alloc (by omega) _).alloc (by omega) _), ?_, ?_, ?_, ?_⟩
  · rw [heap_alloc_old _ _ (by omega), heap_alloc_old _ _ (by omega), heap_alloc_old _ _ (by omega), heap_alloc_new, ← ho1]
    rfl
  · rw [heap_alloc_old _ _ (by omega), heap_alloc_old _ _ (by omega), ← s1, heap_alloc_new, ← ho2]
  · have h := RowS.lit (W := (w.alloc o1).alloc o2) (base := w.heap.size) (cs := [nm]) (cells := [.string (str nm)]) (n := 1) (by omega) rfl (by omega) rfl
    rw [s2] at h
    exact Kd.R_below h ((Below.refl _ _).alloc (Nat.le_refl _) _)
  · refine ⟨.slice none 0 0, ?_, ORow.nil _ _ _, fun k hk => by simp [Value.ownBlock] at hk⟩
    have h := heap_alloc_new (((w.alloc o1).alloc o2).alloc (.cells #[.string (str nm)] 9)) o4
    rw [s3] at h
    rw [h, ← ho4]
    rfl
theorem row_cells {w : World} {g : Nat} {cs : List Value} {t : TypeId} {fr : Nat × Nat} (h : w.heap[g]? = some (.cells cs.toArray t fr)) : ∀ (j : Nat) (v : Value), cs[j]? = some v → w.cell? ((⟨g, 0, none⟩ : Addr).add j) = some v := by
  intro j v hj
  rw [add_plain, cell_of_row _ _ _ _ _ _ h]
  simpa using hj
/-- a row of strings, where no block of strings has turned -/
theorem RowS.keep {w w1 : World} {base : Nat} {v : Value} {l : List Sp.Bs} (h : RowS w base v l) (hm : ∀ k : Nat, (∃ (cells : Array Value) (fr : Nat × Nat), w.heap[k]? = some (Obj.cells cells 9 fr)) → w1.heap[k]? = w.heap[k]?) : RowS w1 base v l := by
  have h3 := Kd.R_bound h
  refine Kd.R_mono (Kd.R_step h3 (fun k hk _ => hm k ?_)) (fun _ _ => trivial)
  obtain ⟨_, _, _, q, hq, cells2, hh⟩ := hk
  have : q = 9 := by simpa [Kd.string, Kd.scalar] using hq
  subst this
  exact ⟨cells2, _, hh⟩
theorem nums_index (a b c d : Int) : ∀ (j : Nat) (h : j < [a, b, c, d].length) (w : World), (Instr.index 154 (.agg #[Value.int .i64 a, .int .i64 b, .int .i64 c, .int .i64 d]) (.int .i64 (j : Int))).run Tryz.prog w = .ok (.int .i64 ([a, b, c, d][j]'h)) w
  | 0, _, _ => by kernel_rfl
  | 1, _, _ => by kernel_rfl
  | 2, _, _ => by kernel_rfl
  | 3, _, _ => by kernel_rfl
  | n + 4, h, _ => absurd h (by simp)
def W2 (w : World) (r : Sp.Bs × Nat) (e : Ending) (w' : World) : Prop := e = .returned (.tuple #[.string (str r.1), .int .i64 (r.2 : Int)]) ∧ Below w.heap.size w w'
set_option maxHeartbeats 4000000 in
set_option maxRecDepth 100000 in
theorem written_any (c : Sp.Call) (va : Value) (w : World) (he : Env w) (hc : CallV w c va) (hb : CallB c) :
    Calls Tryz.prog 53 #[.agg (callCells c va).toArray] w (W2 w (Sp.written c)) := by
  obtain ⟨A, ka, rfl, hra⟩ := hc
  by_cases hop : c.op < 1
  · have HSP : Hid (Sp.written c = ([], 212)) := Lib.hid (by unfold Sp.written; rw [if_pos (.inl hop)])
    have T : decide (c.op < 1) = true := decide_eq_true hop
    clear hop hra hb he
    show Calls Tryz.prog 53 #[.agg #[.int .i64 c.op, .int .i64 c.h, .int .i64 c.h2, .int .i64 c.off, .int .i64 c.len, .string (str c.path), .string (str c.name), .string (str c.name2), .slice A c.data.length ka]] w _
    go_enter Tryz.func53, Tryz.ntmps53
    go_wp2
    go_ret2
    rw [HSP.out]
    exact ⟨rfl, (Below.refl _ _).alloc (Nat.le_refl _) _⟩
  have T1 : decide (c.op < 1) = false := decide_eq_false hop
  by_cases hop2 : 11 ≤ c.op
  · have HSP : Hid (Sp.written c = ([], 212)) := Lib.hid (by unfold Sp.written; rw [if_pos (.inr hop2)])
    have T : decide (11 ≤ c.op) = true := decide_eq_true hop2
    clear hop hop2 hra hb he
    show Calls Tryz.prog 53 #[.agg #[.int .i64 c.op, .int .i64 c.h, .int .i64 c.h2, .int .i64 c.off, .int .i64 c.len, .string (str c.path), .string (str c.name), .string (str c.name2), .slice A c.data.length ka]] w _
    go_enter Tryz.func53, Tryz.ntmps53
    go_wp2
    go_ret2
    rw [HSP.out]
    exact ⟨rfl, (Below.refl _ _).alloc (Nat.le_refl _) _⟩
  have T2 : decide (11 ≤ c.op) = false := decide_eq_false hop2
  obtain ⟨op, hopn⟩ : ∃ n : Nat, c.op = n := ⟨c.op.toNat, by omega⟩
  have h0 : 0 < op := by omega
  have h11 : op < 11 := by omega
  obtain ⟨f, hf⟩ : ∃ f, f = (Sp.callRows.getD op ([], [])).2 := ⟨_, rfl⟩
  obtain ⟨nm, hnm⟩ : ∃ f, f = (Sp.callRows.getD op ([], [])).1 := ⟨_, rfl⟩
  have hfl : f.length ≤ 4 := by rw [hf]; exact lenCall_le op
  have hnl : nm.length ≤ 10 := by
    have : ∀ j, j < 11 → (Sp.callRows.getD j ([], [])).1.length ≤ 10 := by decide
    rw [hnm]; exact this op h11
  have hfs : (str f).size = f.length := str_size f
  have HL : Hid (∀ w, Env w → ∀ (j : Nat) (v : Value), [Value.string (str nm), .string (str f)][j]? = some v → w.cell? ((⟨3, op * 2, none⟩ : Addr).add j) = some v) := Lib.hid (fun w h j v hj => by
    have ht := table_cell gCalls h.calls op h11
    rw [← hf, ← hnm] at ht
    match j with
    | 0 => simp at hj; subst hj; exact ht.1
    | 1 => simp at hj; subst hj; exact ht.2
    | j + 2 => simp at hj)
  have h3 : 3 < w.heap.size := var_lt gCalls he.calls
  have HE := Lib.hid he
  have HB := Lib.hid hb
  have HR := Lib.hid hra
  have HSP : Hid (Sp.written c = if c ≠ Sp.bareC c f { op := (op : Int) } then ([], 218) else if Sp.small c = false then ([], 213) else (Sp.join (nm :: f.map (Sp.wordC c)), 0)) := Lib.hid (by
    unfold Sp.written
    rw [if_neg (by omega)]
    simp only
    rw [show c.op.toNat = op by omega, hopn, ← hf, ← hnm])
  have HOP := Lib.hid hopn
  rw [hopn] at T1 T2
  clear hf hnm he hb hra hop hop2
  show Calls Tryz.prog 53 #[.agg #[.int .i64 c.op, .int .i64 c.h, .int .i64 c.h2, .int .i64 c.off, .int .i64 c.len, .string (str c.path), .string (str c.name), .string (str c.name2), .slice A c.data.length ka]] w _
  rw [hopn]
  clear hopn
  have q1 : (0 : Int) ≤ (op : Int) ∧ (op : Int) < 11 := ⟨by omega, by omega⟩
  go_enter Tryz.func53, Tryz.ntmps53
  go_wp2_with (refine wpList_load_any rfl 128 (.tmp 23) rfl ⟨3, op * 2, none⟩ rfl [.string (str nm), .string (str f)] _ (HL.out _ (HE.out.below ((Below.refl _ _).alloc (Nat.le_refl _) _))) Tryz.underlying128 rfl (by kernel_rfl) ?_)
  obtain ⟨W0, hW0⟩ : ∃ W0, W0 = ((((w.alloc (Obj.cells #[Value.int IntKind.i64 ↑op, Value.int IntKind.i64 c.h, Value.int IntKind.i64 c.h2, Value.int IntKind.i64 c.off, Value.int IntKind.i64 c.len, Value.string (str c.path), Value.string (str c.name), Value.string (str c.name2), Value.slice A (List.length c.data) ka] 51)).alloc (Obj.cells #[Value.string (str nm), Value.string (str f)] 128)).alloc (Obj.cells #[Value.string (str nm)] 9)).alloc (Obj.cells #[Value.int IntKind.i64 ↑op, Value.int IntKind.i64 0, Value.int IntKind.i64 0, Value.int IntKind.i64 0, Value.int IntKind.i64 0, Value.string { data := #[] }, Value.string { data := #[] }, Value.string { data := #[] }, Value.slice none 0 0] 51)) := ⟨_, rfl⟩
  obtain ⟨hB0, hX0, hT0, hO0, hC0⟩ := wstart w c op nm f A ka HOP.out W0 hW0
  rw [← hW0]
  clear hW0
  have e2 : w.heap.size + 1 + 1 = w.heap.size + 2 := by omega
  have e3 : w.heap.size + 1 + 1 + 1 = w.heap.size + 3 := by omega
  rw [e3, e2]
  clear e2 e3
  have HTC : Hid (∀ w1 : World, w1.heap[w.heap.size + 1]? = some (.cells #[.string (str nm), .string (str f)] 128 (0, 0)) → w1.cell? ⟨w.heap.size + 1, 1, none⟩ = some (.string (str f))) := Lib.hid (fun w1 h => by rw [cell_of_row _ _ _ _ _ _ h]; rfl)
  go_loopw [5, 34] (fun v5 v34 wr => ∃ (i : Nat) (b : Sp.Call), v34 = .int .i64 (i : Int) ∧ i ≤ f.length ∧ RowS wr w.heap.size v5 (nm :: (f.take i).map (Sp.wordC c)) ∧ CallAt wr w.heap.size (w.heap.size + 3) b ∧ Hid (wr.heap[w.heap.size]? = some (.cells (callCells c (.slice A c.data.length ka)).toArray 51 (0, 0))) ∧ Hid (wr.heap[w.heap.size + 1]? = some (.cells #[.string (str nm), .string (str f)] 128 (0, 0))) ∧ Hid (Sp.bareC c f { op := (op : Int) } = Sp.bareC c (f.drop i) b) ∧ Below w.heap.size w wr) (fun _ v34 _ => f.length - (intOf v34).toNat)
  case atStart => exact ⟨0, _, rfl, Nat.zero_le _, hO0, hC0, Lib.hid hX0, Lib.hid hT0, Lib.hid rfl, hB0⟩
  case round =>
    obtain ⟨i, b, rfl, hi, HO, HC, HX, HT, HQ, HBr⟩ := hrel
    clear hC0 hO0 hX0 hT0 hB0
    by_cases hlt : i < f.length
    · have ht1 := HTC.out wr HT.out
      have q2 : (0 : Int) ≤ (i : Int) ∧ (i : Int) < (f.length : Int) := ⟨by omega, by omega⟩
      obtain ⟨L, hL⟩ : ∃ L : Int, L = ((f[i]'hlt).toNat : Int) := ⟨_, rfl⟩
      have hx : ∀ h : i < (str f).size, (((str f)[i]'h).toNat : Int) = L := fun h => by rw [hL]; rfl
      obtain ⟨l, hl⟩ : ∃ l, l = f[i]'hlt := ⟨_, rfl⟩
      rw [← hl] at hL
      have HL2 := Lib.hid hL
      have hL0 : 0 ≤ L := by omega
      have hL1 : L ≤ 255 := by have := l.toNat_lt; omega
      have HQ2 : Hid (Sp.bareC c f { op := (op : Int) } = Sp.bareC c (l :: f.drop (i + 1)) b) := Lib.hid (by rw [HQ.out, List.drop_eq_getElem_cons hlt, ← hl])
      have HTK : Hid ((f.take (i + 1)).map (Sp.wordC c) = (f.take i).map (Sp.wordC c) ++ [Sp.wordC c l]) := Lib.hid (by rw [List.take_succ_eq_append_getElem hlt, ← hl, List.map_append]; rfl)
      have HNL : Hid ((nm :: (f.take i).map (Sp.wordC c)).length + 1 ≤ 140737488355328 / 16) := Lib.hid (by simp; omega)
      clear hl hL HQ
      cases hcl : Sp.cell l with
      | some k =>
        have hk := cell_rng hcl
        have hck := (call_nums HX.out).2.2.2.2.2 k hk.1 hk.2
        have HCL := Lib.hid hcl
        clear hcl
        have HW : Hid (Sp.wordC c l = Lib.itoa (c.getN k)) := Lib.hid (by simp only [Sp.wordC, HCL.out])
        have HI := Lib.hid (HB.out.num k)
        go_wp2_with (first | (go_at_call 97; refine (cell_some HL2.out HCL.out _).mono ?_; rintro e w1 ⟨rfl, rfl⟩) | (go_at_call 50; refine (itoa_any (c.getN k) _ (HE.out.below HBr) HI.out.1 HI.out.2).mono ?_; rintro e w2 ⟨rfl, hb2⟩; have HB2 := Lib.hid (And.intro hb2 (HBr.trans (hb2.mono HBr.size))); clear hb2) | (at_builtin; refine ap_s (W := w2) (base := w.heap.size) (w0 := w) (v := u5) (l := nm :: (f.take i).map (Sp.wordC c)) (c := Lib.itoa (c.getN k)) rfl rfl rfl rfl rfl (Kd.R_below HO HB2.out.1) HB2.out.2 HB2.out.2.size HNL.out ?_; intro v1 w3 HO3 HB3 hg3 j2; clear j2))
        have hty := RowS.typed (Kd.R_below HO HB2.out.1)
        have hX3 := (grown_far hg3 hty ((HB2.out.1.block _ (row_lt HX.out)).trans HX.out) (by decide)).trans ((HB2.out.1.block _ (row_lt HX.out)).trans HX.out)
        have hT3 := (grown_far hg3 hty ((HB2.out.1.block _ (row_lt HT.out)).trans HT.out) (by decide)).trans ((HB2.out.1.block _ (row_lt HT.out)).trans HT.out)
        have hC3 : CallAt w3 w.heap.size (w.heap.size + 3) b := (HC.below HB2.out.1).grown hg3 hty
        have HX3 := Lib.hid hX3
        have HT3 := Lib.hid hT3
        clear hX3 hT3 hg3 hty hck ht1
        have htd : w3.drew.cell? ⟨w.heap.size + 1, 1, none⟩ = some (.string (str f)) := HTC.out w3 HT3.out
        have hckd : w3.drew.cell? ⟨w.heap.size, k, none⟩ = some (.int .i64 (c.getN k)) := (call_nums HX3.out).2.2.2.2.2 k hk.1 hk.2
        refine region_mix [] [0, 1, 2, 3, 4, 5, 6, 7] [8, 9] mixed (by kernel_rfl) (fun _ _ _ _ _ h => h) ?_
        simp only [pick, List.getElem?_cons_zero, List.getElem?_cons_succ]
        refine wpPre_nil ?_
        still_step
        still_step
        still_step
        still_step
        still_call (SRet.still (cell_some HL2.out HCL.out _))
        still_step
        still_step
        still_step
        refine wpStill_nil ?_
        have HB4 : Below w.heap.size w w3.drew := HB3.drew
        have HC4 : CallAt w3.drew w.heap.size (w.heap.size + 3) b := hC3.below ((Below.refl _ _).drew)
        have HO4 : RowS w3.drew w.heap.size v1 (nm :: (f.take i).map (Sp.wordC c) ++ [Lib.itoa (c.getN k)]) := RowS.keep HO3 (fun _ _ => rfl)
        have HX4 : Hid (w3.drew.heap[w.heap.size]? = some (.cells (callCells c (.slice A c.data.length ka)).toArray 51 (0, 0))) := HX3
        have HT4 : Hid (w3.drew.heap[w.heap.size + 1]? = some (.cells #[.string (str nm), .string (str f)] 128 (0, 0))) := HT3
        clear htd hckd hC3 HO3 HX3 HT3 HB3
        generalize hW4 : w3.drew = W4 at *
        clear hW4
        obtain ⟨hcc, hcf⟩ := HC4.num k hk.1 hk.2
        go_wp2
        go_roundw
        case rel =>
          obtain ⟨y, hy1, hy2, hy3⟩ := HC4
          refine ⟨i + 1, b.setN k (c.getN k), by go_num, by omega, ?_, CallAt.putN ⟨y, hy1, hy2, hy3⟩ k _ hk.1 hk.2, Lib.hid ((Below.heap_setCell W4 ⟨w.heap.size + 3, k, none⟩ _ w.heap.size (by simp only; omega)).trans HX4.out), Lib.hid ((Below.heap_setCell W4 ⟨w.heap.size + 3, k, none⟩ _ (w.heap.size + 1) (by simp only; omega)).trans HT4.out), Lib.hid (by rw [HQ2.out]; simp only [Sp.bareC, HCL.out]), HB4.setCell (by simp only; omega) _⟩
          rw [HTK.out, HW.out]
          refine RowS.keep HO4 (fun j ⟨cells, fr, hj⟩ => Below.heap_setCell W4 ⟨w.heap.size + 3, k, none⟩ _ j ?_)
          rintro rfl
          rw [hy1] at hj
          injection hj with hj
          injection hj with _ hj _
          exact absurd hj (by decide)
        case measure => simp [intOf]; omega
      | none =>
        have HCL := Lib.hid hcl
        clear hcl
        have HW : Hid (Sp.wordC c l = Sp.text (c.getT l)) := Lib.hid (by simp only [Sp.wordC, HCL.out])
        have HTX := Lib.hid (HB.out.txt l)
        go_wp2_with (go_at_call 97; refine (cell_none HL2.out HCL.out _).mono ?_; rintro e w1 ⟨rfl, rfl⟩)
        have htd : wr.drew.cell? ⟨w.heap.size + 1, 1, none⟩ = some (.string (str f)) := HTC.out wr HT.out
        have HBC := Lib.hid (row_cells (w := wr.drew) HX.out)
        refine region_mix [] [0, 1, 2, 3, 4] [5, 6] mixed (by kernel_rfl) (fun _ _ _ _ _ h => h) ?_
        simp only [pick, List.getElem?_cons_zero, List.getElem?_cons_succ]
        refine wpPre_nil ?_
        refine still_load_any rfl 51 _ rfl ⟨w.heap.size, 0, none⟩ rfl _ _ HBC.out Tryz.underlying51 rfl (by kernel_rfl) ?_
        still_step
        still_step
        still_step
        still_step
        refine wpStill_nil ?_
        have HB4 : Below w.heap.size w wr.drew := HBr.drew
        have HC4 : CallAt wr.drew w.heap.size (w.heap.size + 3) b := HC.below ((Below.refl _ _).drew)
        have HO4 : RowS wr.drew w.heap.size u5 (nm :: (f.take i).map (Sp.wordC c)) := RowS.keep HO (fun _ _ => rfl)
        have HX4 : Hid (wr.drew.heap[w.heap.size]? = some (.cells (callCells c (.slice A c.data.length ka)).toArray 51 (0, 0))) := HX
        have HT4 : Hid (wr.drew.heap[w.heap.size + 1]? = some (.cells #[.string (str nm), .string (str f)] 128 (0, 0))) := HT
        clear htd HBC HC HO HX HT HBr ht1
        generalize hW4 : wr.drew = W4 at *
        clear hW4
        have HTD : Hid (Calls Tryz.prog 98 #[.agg (callCells c (.slice A c.data.length ka)).toArray, .int .u8 L] W4 (BRet W4 (.string (str (c.getT l))))) := Lib.hid (told_any c _ l L HL2.out W4 ⟨A, ka, rfl, HR.out.below HB4⟩)
        go_wp2_with (first | (go_at_call 98; refine HTD.out.mono ?_; rintro e w1 ⟨rfl, hb1⟩; have HB1 := Lib.hid (And.intro hb1 (HB4.trans (hb1.mono HB4.size))); clear hb1) | (go_at_call 99; refine (text_any (str (c.getT l)) _ (by rw [str_size]; have := HTX.out; omega)).mono ?_; rintro e w2 ⟨rfl, hb2⟩; have HB2 := Lib.hid (And.intro (HB1.out.1.trans (hb2.mono HB1.out.1.size)) (HB1.out.2.trans (hb2.mono HB1.out.2.size))); clear hb2) | (at_builtin; refine ap_s (W := w2) (base := w.heap.size) (w0 := w) (v := u5) (l := nm :: (f.take i).map (Sp.wordC c)) (c := Sp.text (c.getT l)) rfl rfl rfl rfl rfl (Kd.R_below HO4 HB2.out.1) HB2.out.2 HB2.out.2.size HNL.out ?_; intro v1 w3 HO3 HB3 hg3 j2; have hty := RowS.typed (Kd.R_below HO4 HB2.out.1); have HX3 := Lib.hid ((grown_far hg3 hty ((HB2.out.1.block _ (row_lt HX4.out)).trans HX4.out) (by decide)).trans ((HB2.out.1.block _ (row_lt HX4.out)).trans HX4.out)); have HT3 := Lib.hid ((grown_far hg3 hty ((HB2.out.1.block _ (row_lt HT4.out)).trans HT4.out) (by decide)).trans ((HB2.out.1.block _ (row_lt HT4.out)).trans HT4.out)); have HC3 := Lib.hid ((HC4.below HB2.out.1).grown hg3 hty); have ht3 := HTC.out w3 HT3.out; have HO3 := Lib.hid HO3; have HB3 := Lib.hid HB3; clear j2 hg3 hty) | (go_at_call 100; refine (put_any (w.heap.size + 3) w.heap.size l L HL2.out (c.getT l) b w w3 (by have := HTX.out; omega) (by omega) HB3.out HC3.out).mono ?_; rintro e w5 ⟨rfl, HC5, HB5, HK5⟩; have HK5 := Lib.hid HK5))
        go_roundw
        case rel =>
          obtain ⟨y, hy1, hy2, hy3⟩ := HC3.out
          refine ⟨i + 1, b.setT l (c.getT l), by go_num, by omega, ?_, HC5, Lib.hid ((HK5.out _ (row_lt HX3.out) (by omega)).trans HX3.out), Lib.hid ((HK5.out _ (row_lt HT3.out) (by omega)).trans HT3.out), Lib.hid (by rw [HQ2.out]; simp only [Sp.bareC, HCL.out]), HB5⟩
          rw [HTK.out, HW.out]
          refine RowS.keep HO3.out (fun j ⟨cells, fr, hj⟩ => HK5.out j (row_lt hj) ?_)
          rintro rfl
          rw [hy1] at hj
          injection hj with hj
          injection hj with _ hj _
          exact absurd hj (by decide)
        case measure => simp [intOf]; omega
    · have HQB : Hid (b = Sp.bareC c f { op := (op : Int) }) := Lib.hid (by rw [HQ.out, show i = f.length by omega, List.drop_length]; rfl)
      have hfi : (f.take i).map (Sp.wordC c) = f.map (Sp.wordC c) := by rw [List.take_of_length_le (by omega)]
      rw [hfi] at HO
      have hq := call_nums HX.out
      obtain ⟨x0, x1, x2, x3, x4, _⟩ := hq
      have HTC2 := HTC
      clear hfi HQ HTC HL
      go_wp2
      obtain ⟨PV, hPV⟩ : ∃ PV, PV = #[Value.int .i64 c.h, .int .i64 c.h2, .int .i64 c.off, .int .i64 c.len] := ⟨_, rfl⟩
      rw [← hPV]
      obtain ⟨NS, hNS⟩ : ∃ NS, NS = [c.h, c.h2, c.off, c.len] := ⟨_, rfl⟩
      have HIX : Hid (∀ (j : Nat) (h : j < NS.length) w', (Instr.index 154 (.agg PV) (.int .i64 (j : Int))).run Tryz.prog w' = .ok (.int .i64 (NS[j]'h)) w') := Lib.hid (by subst hPV hNS; exact nums_index _ _ _ _)
      have HNS : Hid (NS.length = 4 ∧ Sp.numsOk NS = Sp.small c) := Lib.hid (by rw [hNS]; exact ⟨rfl, rfl⟩)
      clear hPV hNS x0 x1 x2 x3 x4
      go_loopw [7, 87] (fun v7 v87 wr2 => ∃ (j : Nat), v87 = .int .i64 (j : Int) ∧ j ≤ 4 ∧ v7 = .bool (Sp.numsOk (NS.take j)) ∧ wr2 = wr) (fun _ v87 _ => 4 - (intOf v87).toNat)
      case atStart => exact ⟨0, rfl, by omega, rfl, rfl⟩
      case round =>
        obtain ⟨j, rfl, hj, rfl, rfl⟩ := hrel
        by_cases hlt2 : j < 4
        · have hjl : j < NS.length := by have := HNS.out.1; omega
          have hix := HIX.out j hjl
          obtain ⟨x, hxx⟩ : ∃ x, x = NS[j]'hjl := ⟨_, rfl⟩
          rw [← hxx] at hix
          obtain ⟨ob, hob⟩ : ∃ x, x = Sp.numsOk (NS.take j) := ⟨_, rfl⟩
          obtain ⟨p, hp⟩ : ∃ y, y = decide (0 ≤ x) := ⟨_, rfl⟩
          obtain ⟨q, hq⟩ : ∃ y, y = decide (x ≤ 1073741824) := ⟨_, rfl⟩
          have HS : Hid (Sp.numsOk (NS.take (j + 1)) = (ob && (p && q))) := Lib.hid (by
            rw [List.take_succ_eq_append_getElem hjl, ← hxx, Sp.numsOk, List.all_append, ← Sp.numsOk, ← hob, hp, hq]
            show (ob && (decide (0 ≤ x ∧ x ≤ 1073741824) && true)) = _
            rw [Bool.decide_and, Bool.and_true])
          have T3 : decide (0 ≤ x) = p := hp.symm
          have T4 : decide (x ≤ 1073741824) = q := hq.symm
          rw [← hob]
          clear hob hp hq hxx hjl
          cases ob <;> cases p <;> cases q
          all_goals
            go_wp2
            go_roundw
            case rel => exact ⟨j + 1, by go_num, by omega, by rw [HS.out]; rfl, trivial⟩
            case measure => simp [intOf]; omega
        · obtain ⟨sm, hsm⟩ : ∃ x, x = Sp.numsOk (NS.take j) := ⟨_, rfl⟩
          rw [← hsm]
          have HSM : Hid (sm = Sp.small c) := Lib.hid (by rw [hsm, List.take_of_length_le (by have := HNS.out.1; omega)]; exact HNS.out.2)
          obtain ⟨sb, hsb⟩ : ∃ x, x = decide (c = b) := ⟨_, rfl⟩
          have HSB : Hid (sb = decide (c = b)) := Lib.hid hsb
          obtain ⟨y, hy1, hy2, hy3⟩ := HC
          have HC101 : Hid (Calls Tryz.prog 101 #[.agg (callCells c (.slice A c.data.length ka)).toArray, .agg (callCells b y).toArray] wr (BRet wr (.bool sb))) := Lib.hid (by
            rw [hsb]
            obtain ⟨A2, k2, e2, _, r2⟩ := hy2.reads
            exact playSame_any c b _ y wr ⟨A, ka, rfl, HR.out.below HBr⟩ ⟨A2, k2, e2, r2⟩ (by have := HB.out.data; omega))
          have HX2 := HX.out
          clear hsm hsb HNS HIX
          cases sb with
          | false =>
            go_wp2_with (first | (refine wpList_load_row rfl 51 (.tmp 1) rfl w.heap.size rfl 51 (callCells c (.slice A c.data.length ka)).toArray _ _ HX2 Tryz.underlying51 rfl (by kernel_rfl) ?_) | (refine wpList_load_row rfl 51 (.tmp 6) rfl (w.heap.size + 3) rfl 51 (callCells b y).toArray _ _ hy1 Tryz.underlying51 rfl (by kernel_rfl) ?_) | (go_at_call 101; refine HC101.out.mono ?_; rintro e w6 ⟨rfl, hb6⟩))
            go_ret2
            rw [HSP.out, if_pos (by rw [← HQB.out]; exact of_decide_eq_false HSB.out.symm)]
            exact ⟨rfl, HBr.trans (hb6.mono HBr.size)⟩
          | true =>
            have HEQ : Hid (¬ c ≠ Sp.bareC c f { op := (op : Int) }) := Lib.hid (by rw [← HQB.out]; exact Classical.not_not.2 (of_decide_eq_true HSB.out.symm))
            cases sm with
            | false =>
              go_wp2_with (first | (refine wpList_load_row rfl 51 (.tmp 1) rfl w.heap.size rfl 51 (callCells c (.slice A c.data.length ka)).toArray _ _ HX2 Tryz.underlying51 rfl (by kernel_rfl) ?_) | (refine wpList_load_row rfl 51 (.tmp 6) rfl (w.heap.size + 3) rfl 51 (callCells b y).toArray _ _ hy1 Tryz.underlying51 rfl (by kernel_rfl) ?_) | (go_at_call 101; refine HC101.out.mono ?_; rintro e w6 ⟨rfl, hb6⟩))
              go_ret2
              rw [HSP.out, if_neg HEQ.out, if_pos HSM.out.symm]
              exact ⟨rfl, HBr.trans (hb6.mono HBr.size)⟩
            | true =>
              have HJ : Hid (∀ w6, Below wr.heap.size wr w6 → Calls Tryz.prog 92 #[u5, .string ⟨#[32]⟩] w6 (BRet w6 (.string (str (Sp.join (nm :: f.map (Sp.wordC c))))))) := Lib.hid (fun w6 hb6 => by
                refine join_any _ w.heap.size u5 w6 (Kd.R_below HO hb6) (by simp) (by simp; omega) ?_
                have := join_len (nm :: f.map (Sp.wordC c)) 4194306 (fun x hx => by
                  rcases List.mem_cons.1 hx with rfl | hx
                  · omega
                  · obtain ⟨l, _, rfl⟩ := List.mem_map.1 hx
                    exact HB.out.word l)
                simp only [List.length_cons, List.length_map] at this
                have h5 : (f.length + 1) * (4194306 + 1) ≤ 5 * (4194306 + 1) := Nat.mul_le_mul_right _ (by omega)
                omega)
              go_wp2_with (first | (refine wpList_load_row rfl 51 (.tmp 1) rfl w.heap.size rfl 51 (callCells c (.slice A c.data.length ka)).toArray _ _ HX2 Tryz.underlying51 rfl (by kernel_rfl) ?_) | (refine wpList_load_row rfl 51 (.tmp 6) rfl (w.heap.size + 3) rfl 51 (callCells b y).toArray _ _ hy1 Tryz.underlying51 rfl (by kernel_rfl) ?_) | (go_at_call 101; refine HC101.out.mono ?_; rintro e w6 ⟨rfl, hb6⟩) | (go_at_call 92; refine (HJ.out _ hb6).mono ?_; rintro e w7 ⟨rfl, hb7⟩))
              go_ret2
              rw [HSP.out, if_neg HEQ.out, if_neg (by rw [← HSM.out]; simp)]
              exact ⟨rfl, (HBr.trans (hb6.mono HBr.size)).trans (hb7.mono (Nat.le_trans HBr.size hb6.size))⟩
end Go.Proofs.YthnhfddlmkhgkaaGreatDoor

/- Walks: what some functions of the play package and its laws compute, as contracts. -/
import Derived.Test.YthnhfddlmkhgkaaGreatDoorZLawH
import Derived.Test.YthnhfddlmkhgkaaGreatDoorZCallsC
import Derived.Test.YthnhfddlmkhgkaaGreatDoorZRoundC
import Derived.Deep.RegionHeld3
import Derived.Laws.MakeOwn
set_option linter.unusedVariables false
namespace Go.Proofs.YthnhfddlmkhgkaaGreatDoor
open Go.RowKit Go.Proofs.YthnhfddlmkhgkaaGreatDoorW.PrintWords

theorem alloc3 (w : World) (o1 o2 o3 : Obj) : (((w.alloc o1).alloc o2).alloc o3).drew.heap[w.heap.size]? = some o1 ∧ (((w.alloc o1).alloc o2).alloc o3).drew.heap[w.heap.size + 1]? = some o2 ∧ (((w.alloc o1).alloc o2).alloc o3).drew.heap[w.heap.size + 1 + 1]? = some o3 ∧ Below w.heap.size w (((w.alloc o1).alloc o2).alloc o3).drew := by
  have s1 : (w.alloc o1).heap.size = w.heap.size + 1 := World.size_alloc _ _
  have s2 : ((w.alloc o1).alloc o2).heap.size = w.heap.size + 1 + 1 := by rw [World.size_alloc, s1]
  refine ⟨?_, ?_, ?_, ((((Below.refl _ _).alloc (Nat.le_refl _) _).alloc (by omega) _).alloc (by omega) _).drew⟩
  · show (((w.alloc o1).alloc o2).alloc o3).heap[w.heap.size]? = _
    rw [heap_alloc_old _ _ (by omega), heap_alloc_old _ _ (by omega), heap_alloc_new]
  · show (((w.alloc o1).alloc o2).alloc o3).heap[w.heap.size + 1]? = _
    rw [heap_alloc_old _ _ (by omega), ← s1, heap_alloc_new]
  · show (((w.alloc o1).alloc o2).alloc o3).heap[w.heap.size + 1 + 1]? = _
    rw [← s2, heap_alloc_new]
def nils : Value := .slice none 0 0
/-- the law's call and play as they lie: blocks for the call, the flags, the steps, the play -/
def Lay (w : World) (gc gk go gp : Nat) (v : Value) (n : Nat) (K : List Bool) : Prop :=
  w.heap[gc]? = some (.cells (callCells (Sp.spotC []) v).toArray 51 (0, 0)) ∧ w.heap[gk]? = some (.cells (K.map Value.bool).toArray 4 (0, 0)) ∧
  w.heap[go]? = some (.cells (opCells (Sp.spot1 []) v nils nils ++ opCells (Sp.spot2 []) nils v nils ++ opCells (Sp.spot3 []) nils nils (.slice (some ⟨gk, 0, none⟩) n n)).toArray 80 (0, 0)) ∧
  w.heap[gp]? = some (.cells (playCells zeros (.slice (some ⟨go, 0, none⟩) 3 3)).toArray 28 (0, 0))
theorem Lay.below {w w1 : World} {gc gk go gp n : Nat} {v : Value} {K : List Bool} (h : Lay w gc gk go gp v n K) (hb : Below w.heap.size w w1) : Lay w1 gc gk go gp v n K :=
  ⟨(hb.block _ (row_lt h.1)).trans h.1, (hb.block _ (row_lt h.2.1)).trans h.2.1, (hb.block _ (row_lt h.2.2.1)).trans h.2.2.1, (hb.block _ (row_lt h.2.2.2)).trans h.2.2.2⟩
theorem far_block (w : World) (g i k : Nat) (u : Value) (h : g ≠ k) : (w.setCell ⟨g, i, none⟩ u).heap[k]? = w.heap[k]? := Below.heap_setCell w ⟨g, i, none⟩ u k (fun e => h e.symm)
theorem Lay.far {w : World} {gc gk go gp n : Nat} {v : Value} {K : List Bool} (h : Lay w gc gk go gp v n K) {g : Nat} (i : Nat) (u : Value) (h1 : g ≠ gc) (h2 : g ≠ gk) (h3 : g ≠ go) (h4 : g ≠ gp) : Lay (w.setCell ⟨g, i, none⟩ u) gc gk go gp v n K :=
  ⟨(far_block w g i gc u h1).trans h.1, (far_block w g i gk u h2).trans h.2.1, (far_block w g i go u h3).trans h.2.2.1, (far_block w g i gp u h4).trans h.2.2.2⟩
theorem Lay.flag {w : World} {gc gk go gp n : Nat} {v : Value} {K : List Bool} (h : Lay w gc gk go gp v n K) (i : Nat) (b : Bool) (h1 : gk ≠ gc) (h3 : gk ≠ go) (h4 : gk ≠ gp) : Lay (w.setCell ⟨gk, i, none⟩ (.bool b)) gc gk go gp v n (K.set i b) := by
  refine ⟨(far_block w gk i gc _ h1).trans h.1, ?_, (far_block w gk i go _ h3).trans h.2.2.1, (far_block w gk i gp _ h4).trans h.2.2.2⟩
  rw [row_set h.2.1]
  simp [List.map_set]
theorem flags_read {w : World} {gk : Nat} {K : List Bool} (h : w.heap[gk]? = some (.cells (K.map Value.bool).toArray 4 (0, 0))) (hl : K.length ≤ 65536) : ReadB w (some ⟨gk, 0, none⟩) K := by
  have hb : OB w 0 (.slice (some ⟨gk, 0, none⟩) K.length K.length) K := .inr ⟨gk, (K.map Value.bool).toArray, (0, 0), by simp [encs], Nat.zero_le _, row_lt h, h, fun i hi => by simp, by simp [encs], by simp [maxLen]; omega, by simp only [encs, List.length_map]; exact List.take_of_length_le (by simp)⟩
  obtain ⟨A, c, e, _, r⟩ := OB.reads hb
  injection e with e _ _
  subst e
  exact r
theorem Lay.call {w : World} {gc gk go gp n : Nat} {A : Option Addr} {k : Nat} {l : Sp.Bs} {K : List Bool} (h : Lay w gc gk go gp (.slice A l.length k) n K) (hr : ReadU w A l) : CallV w (Sp.spotC l) (.slice A l.length k) := ⟨A, k, rfl, hr⟩
theorem Lay.play {w : World} {gc gk go gp : Nat} {A : Option Addr} {k : Nat} {l : Sp.Bs} {K : List Bool} (h : Lay w gc gk go gp (.slice A l.length k) K.length K) (hr : ReadU w A l) (hk : l.length ≤ k) (hl : l.length ≤ 65536) (hK : K.length ≤ 65536) :
    PlayV w (Sp.spot l K) (.slice (some ⟨go, 0, none⟩) 3 3) := by
  obtain ⟨c0, c1, c2⟩ := row3_cells h.2.2.1 rfl rfl rfl
  have rk := flags_read h.2.1 hK
  refine ⟨rfl, _, 3, rfl, ⟨rfl, by simp [Sp.spot], fun _ => ⟨_, rfl, fun j p hj => ?_⟩⟩, by simp [Sp.spot], fun o ho => ?_⟩
  · match j, hj with
    | 0, hj =>
      injection hj with hj
      subst hj
      exact ⟨_, rfl, ko_mk w (Sp.spot1 l) (c1 := k) (c2 := 0) (c3 := 0) hk hr (Nat.le_refl _) (readU_nil w) (Nat.le_refl _) (readB_nil w), c0⟩
    | 1, hj =>
      injection hj with hj
      subst hj
      exact ⟨_, rfl, ko_mk w (Sp.spot2 l) (c1 := 0) (c2 := k) (c3 := 0) (Nat.le_refl _) (readU_nil w) hk hr (Nat.le_refl _) (readB_nil w), c1⟩
    | 2, hj =>
      injection hj with hj
      subst hj
      exact ⟨_, rfl, ko_mk w (Sp.spot3 K) (c1 := 0) (c2 := 0) (c3 := K.length) (Nat.le_refl _) (readU_nil w) (Nat.le_refl _) (readU_nil w) (Nat.le_refl _) rk, c2⟩
    | n + 3, hj => simp [Sp.spot] at hj
  · simp only [Sp.spot, List.mem_cons, List.not_mem_nil, or_false] at ho
    rcases ho with rfl | rfl | rfl
    all_goals (simp only [Sp.spot1, Sp.spot2, Sp.spot3, Sp.spotC, List.length_nil]; omega)
theorem spotC_B {l : Sp.Bs} (h : l.length ≤ 65536) : CallB (Sp.spotC l) := by
  constructor <;> first | (unfold i64; simp [Sp.spotC]; done) | (simp [Sp.spotC]; done) | (simp only [Sp.spotC]; omega)
theorem spot_B {l : Sp.Bs} {K : List Bool} (h : l.length ≤ 65536) (hK : K.length ≤ 65536) : PlayB (Sp.spot l K) := by
  refine ⟨fun x hx => ?_, fun o ho => ?_⟩
  · have : ∀ x ∈ zeros, -9223372036854775808 ≤ x ∧ x ≤ 9223372036854775807 := by decide
    exact this x hx
  · have hc := spotC_B h
    have h0 : CallB {} := by constructor <;> first | (unfold i64; decide) | decide
    simp only [Sp.spot, List.mem_cons, List.not_mem_nil, or_false] at ho
    rcases ho with rfl | rfl | rfl
    all_goals (constructor <;> first | exact hc | exact h0 | (unfold i64; simp [Sp.spot1, Sp.spot2, Sp.spot3]; done) | (simp [Sp.spot1, Sp.spot2, Sp.spot3]; done) | (simp only [Sp.spot2]; omega) | (simp only [Sp.spot3]; omega))
/-- the state of the law's walk: how all lies, the row that is mine, what was there is as it was -/
def PlSt (w0 : World) (base gc gk go gp n : Nat) (v : Value) (w : World) (l : Sp.Bs) (K : List Bool) : Prop :=
  Lay w gc gk go gp v n K ∧ RowU w base v l ∧ Below w0.heap.size w0 w
theorem PlSt.below {w0 : World} {base gc gk go gp n : Nat} {v : Value} {w w1 : World} {l : Sp.Bs} {K : List Bool} (h : PlSt w0 base gc gk go gp n v w l K) (hb : Below w.heap.size w w1) : PlSt w0 base gc gk go gp n v w1 l K :=
  ⟨h.1.below hb, Kd.R_below h.2.1 hb, h.2.2.trans (hb.mono h.2.2.size)⟩
theorem PlSt.drew {w0 : World} {base gc gk go gp n : Nat} {v : Value} {w : World} {l : Sp.Bs} {K : List Bool} (h : PlSt w0 base gc gk go gp n v w l K) : PlSt w0 base gc gk go gp n v w.drew l K := h.below (Below.refl _ _).drew
theorem row_reads {w : World} {base n k : Nat} {A : Option Addr} {l : Sp.Bs} (h : RowU w base (.slice A n k) l) : n = l.length ∧ l.length ≤ k ∧ ReadU w A l := by
  obtain ⟨A', k', e, hk, hr⟩ := (RowU.o h).reads
  injection e with e1 e2 e3
  subst e1 e3
  exact ⟨e2, hk, hr⟩
theorem PlSt.call {w0 : World} {base gc gk go gp n dn k : Nat} {A : Option Addr} {w : World} {l : Sp.Bs} {K : List Bool} (h : PlSt w0 base gc gk go gp n (.slice A dn k) w l K) : CallV w (Sp.spotC l) (.slice A dn k) := by
  obtain ⟨e, _, hr⟩ := row_reads h.2.1
  subst e
  exact h.1.call hr
theorem PlSt.play {w0 : World} {base gc gk go gp dn k : Nat} {A : Option Addr} {w : World} {l : Sp.Bs} {K : List Bool} {n : Nat} (h : PlSt w0 base gc gk go gp n (.slice A dn k) w l K) (hn : n = K.length) (hl : l.length ≤ 65536) (hK : K.length ≤ 65536) : PlayV w (Sp.spot l K) (.slice (some ⟨go, 0, none⟩) 3 3) := by
  obtain ⟨e, hk, hr⟩ := row_reads h.2.1
  subst e hn
  exact h.1.play hr hk hl hK
theorem PlSt.c25 {w0 : World} {base gc gk go gp n dn k : Nat} {A : Option Addr} {w : World} {l : Sp.Bs} {K : List Bool} {t : Sp.Bs} (h : PlSt w0 base gc gk go gp n (.slice A dn k) w l K) (he : Env w0) (hl : l.length ≤ 65536) (hp : Sp.printCall (Sp.spotC l) = (t, 0)) :
    Calls Tryz.prog 25 #[.agg (callCells (Sp.spotC []) (.slice A dn k)).toArray] w (W2 w (t, 0)) := by
  rw [← hp]
  exact printCall_any (Sp.spotC l) _ w (he.below h.2.2) h.call (spotC_B hl)
theorem PlSt.c19 {w0 : World} {base gc gk go gp n dn k : Nat} {A : Option Addr} {w : World} {l : Sp.Bs} {K : List Bool} {t : Sp.Bs} (h : PlSt w0 base gc gk go gp n (.slice A dn k) w l K) (he : Env w0) (hn : n = K.length) (hl : l.length ≤ 65536) (hK : K.length ≤ 65536) (hp : Sp.print (Sp.spot l K) = (t, 0)) :
    Calls Tryz.prog 19 #[.agg (playCells zeros (.slice (some ⟨go, 0, none⟩) 3 3)).toArray] w (W2 w (t, 0)) := by
  rw [← hp]
  exact print_any (Sp.spot l K) _ w (he.below h.2.2) (h.play hn hl hK) (spot_B hl hK)
theorem PlSt.put {w0 : World} {base gc gk go gp n dn k g : Nat} {w : World} {l : Sp.Bs} {K : List Bool} (h : PlSt w0 base gc gk go gp n (.slice (some ⟨g, 0, none⟩) dn k) w l K) (hg : w0.heap.size ≤ g) (i : Nat) (c : UInt8) {X : Int} (hx : X = (c.toNat : Int)) (h0 : g < gc) (h1 : gc < gk) (h2 : gc < go) (h3 : gc < gp) :
    PlSt w0 base gc gk go gp n (.slice (some ⟨g, 0, none⟩) dn k) (w.setCell ⟨g, i, none⟩ (.int .u8 X)) (l.set i c) K :=
  ⟨h.1.far i _ (by omega) (by omega) (by omega) (by omega), h.2.1.put i c hx, h.2.2.setCell (p := ⟨g, i, none⟩) hg _⟩
theorem row_far {w : World} {base g i : Nat} {v : Value} {l : Sp.Bs} {cells : Array Value} (h : RowU w base v l) (u : Value) (hb : w.heap[g]? = some (.cells cells 4 (0, 0))) : RowU (w.setCell ⟨g, i, none⟩ u) base v l :=
  Kd.R_mono (Kd.R_far (p := ⟨g, i, none⟩) (Kd.R_types h hb (by
    intro q hq
    have hq' : q = 5 := by simpa [Kd.int, Kd.scalar] using hq
    rw [hq']
    decide)) (fun k hk => hk.2) u) (fun _ _ => trivial)
theorem PlSt.flag {w0 : World} {base gc gk go gp n : Nat} {v : Value} {w : World} {l : Sp.Bs} {K : List Bool} (h : PlSt w0 base gc gk go gp n v w l K) (hg : w0.heap.size ≤ gk) (i : Nat) (b : Bool) (h1 : gk ≠ gc) (h3 : gk ≠ go) (h4 : gk ≠ gp) :
    PlSt w0 base gc gk go gp n v (w.setCell ⟨gk, i, none⟩ (.bool b)) l (K.set i b) :=
  ⟨h.1.flag i b h1 h3 h4, row_far h.2.1 _ h.1.2.1, h.2.2.setCell (p := ⟨gk, i, none⟩) hg _⟩
theorem set_midB {A R : List Bool} {x y : Bool} {i : Nat} (h : A.length = i) : (A ++ x :: R).set i y = A ++ y :: R := by
  subst h; simp
theorem make_flags (n : Nat) (h : n ≤ 65536) (w : World) : (Instr.makeSlice 78 (.int .i64 (n : Int)) (.int .i64 (n : Int))).run Tryz.prog w = .ok (.slice (some ⟨w.heap.size, 0, none⟩) n n) (w.alloc (.cells (List.replicate n (Value.bool false)).toArray 4)) := by
  obtain ⟨i, hi, hz, hsz, hby⟩ : ∃ i, Tryz.prog.info? 4 = some i ∧ i.zero = some (.bool false) ∧ i.size = 1 ∧ i.bytes = 1 := by
    have h := info4
    cases hq : Tryz.prog.info? 4 with
    | none => rw [hq] at h; cases h
    | some i =>
      rw [hq] at h
      simp only [Option.map_some, Option.some.injEq, Prod.mk.injEq] at h
      exact ⟨i, rfl, h.1, h.2.1, h.2.2⟩
  have := run_makeSlice (w := w) 78 4 i (.bool false) Tryz.underlying78 hi hz .i64 .i64 (n : Int) (n : Int) (by omega) (by omega) (by rw [hsz]; omega) (by rw [hby]; omega) (by omega)
  rw [this, hsz]
  simp [madeCells, Value.cells]
  have e : Array.map (fun x => [Value.bool false][x % 1]?.getD default) (Array.range n) = Array.replicate n (Value.bool false) := by
    apply Array.ext (by simp)
    intro i h1 h2
    simp [Nat.mod_one]
  rw [e]
set_option maxHeartbeats 8000000 in
set_option maxRecDepth 100000 in
/-- the walk of PlayPlace -/
theorem placeLaw_any (data other : Sp.Bs) (keep : List Bool) (A1 A2 A3 : Option Addr) (k1 k2 k3 : Nat) (w : World) (he : Env w) (h1 : ReadU w A1 data) (h2 : ReadU w A2 other) (h3 : ReadB w A3 keep) :
    Calls Tryz.prog 13 #[.slice A1 data.length k1, .slice A2 other.length k2, .slice A3 keep.length k3] w (BRet w (.bool true)) := by
  have HE := Lib.hid he
  have HD := Lib.hid (And.intro h1 (And.intro h2 h3))
  clear he h1 h2 h3
  have H18 : Hid (∀ w, Env w → Calls Tryz.prog 18 #[] w (BRet w (.bool true))) := Lib.hid first_any
  by_cases c1 : 65536 < data.length
  case pos =>
    have Tc1 : decide (65536 < (data.length : Int)) = true := decide_eq_true (by omega)
    clear c1
    go_enter Tryz.func13, Tryz.ntmps13
    go_wp2_with (first | (go_at_call 18; refine (H18.out _ HE.out).mono ?_; rintro e w1 ⟨rfl, hb⟩; have HB1 := Lib.hid hb; clear hb))
    go_ret
    exact ⟨rfl, HB1.out⟩
  have Tc1 : decide (65536 < (data.length : Int)) = false := decide_eq_false (by omega)
  by_cases c2 : 65536 < other.length
  case pos =>
    have Tc2 : decide (65536 < (other.length : Int)) = true := decide_eq_true (by omega)
    clear c2
    go_enter Tryz.func13, Tryz.ntmps13
    go_wp2_with (first | (go_at_call 18; refine (H18.out _ HE.out).mono ?_; rintro e w1 ⟨rfl, hb⟩; have HB1 := Lib.hid hb; clear hb))
    go_ret
    exact ⟨rfl, HB1.out⟩
  have Tc2 : decide (65536 < (other.length : Int)) = false := decide_eq_false (by omega)
  by_cases c3 : 65536 < keep.length
  case pos =>
    have Tc3 : decide (65536 < (keep.length : Int)) = true := decide_eq_true (by omega)
    clear c3
    go_enter Tryz.func13, Tryz.ntmps13
    go_wp2_with (first | (go_at_call 18; refine (H18.out _ HE.out).mono ?_; rintro e w1 ⟨rfl, hb⟩; have HB1 := Lib.hid hb; clear hb))
    go_ret
    exact ⟨rfl, HB1.out⟩
  have Tc3 : decide (65536 < (keep.length : Int)) = false := decide_eq_false (by omega)
  go_enter Tryz.func13, Tryz.ntmps13
  go_upto_region 6 with (first | (go_at_call 18; refine (H18.out _ HE.out).mono ?_; rintro e w1 ⟨rfl, hb⟩; have HB1 := Lib.hid hb; clear hb) | (go_at_call 24; refine (bytes_any A1 data k1 _ (HD.out.1.below HB1.out) (by omega)).mono ?_; rintro e w2 ⟨v, rfl, hm, hb2⟩; obtain ⟨A, k, rfl, hk, _⟩ := (RowU.o hm).reads; have HM := Lib.hid hm; have HB2 := Lib.hid hb2; clear hm hb2))
  generalize hW3 : w2.alloc _ = W3
  have hrow : W3.heap[w2.heap.size]? = some (.cells (callCells (Sp.spotC data) (.slice A data.length k)).toArray 51 (0, 0)) := by
    rw [← hW3]
    exact heap_alloc_new _ _
  have hb3 : Below w2.heap.size w2 W3 := by rw [← hW3]; exact (Below.refl _ _).alloc (Nat.le_refl _) _
  have HB3 := Lib.hid (HB2.out.trans (hb3.mono HB2.out.size))
  have HM3 : Hid (RowU W3 w1.heap.size (.slice A data.length k) data) := Lib.hid (Kd.R_below HM.out hb3)
  have HRW := Lib.hid hrow
  have HGC : Hid (w.heap.size ≤ w2.heap.size) := Lib.hid (Nat.le_trans HB1.out.size HB2.out.size)
  have HML : Hid (∀ g, (Value.slice A data.length k).ownBlock = some g → g < w2.heap.size) := Lib.hid (fun g hg => ((RowU.o HM.out).lt g hg).2)
  generalize w2.heap.size = gc at hrow HRW HML HGC ⊢
  have HKS : Hid (∀ w' : World, Below W3.heap.size W3 w' → w'.cell? ⟨gc, 0, none⟩ = some (.int .i64 (Sp.spotC data).op) ∧ w'.cell? ⟨gc, 1, none⟩ = some (.int .i64 (Sp.spotC data).h) ∧ w'.cell? ⟨gc, 2, none⟩ = some (.int .i64 (Sp.spotC data).h2) ∧ w'.cell? ⟨gc, 3, none⟩ = some (.int .i64 (Sp.spotC data).off) ∧ w'.cell? ⟨gc, 4, none⟩ = some (.int .i64 (Sp.spotC data).len) ∧ w'.cell? ⟨gc, 5, none⟩ = some (.string (str (Sp.spotC data).path)) ∧ w'.cell? ⟨gc, 6, none⟩ = some (.string (str (Sp.spotC data).name)) ∧ w'.cell? ⟨gc, 7, none⟩ = some (.string (str (Sp.spotC data).name2)) ∧ w'.cell? ⟨gc, 8, none⟩ = some (.slice A data.length k)) := Lib.hid (fun w' hb => by
    have := call_cells ((hb.block _ (row_lt hrow)).trans hrow)
    exact this)
  obtain ⟨q0, q1, q2, q3, q4, q5, q6, q7, q8⟩ := call_cells hrow
  have hne := World.new_ne W3 _ q0
  have hlt := Lib.hid (row_lt hrow)
  clear hW3 hb3 hrow HM
  obtain ⟨KC, hKC⟩ : ∃ KC, KC = (List.replicate keep.length (Value.bool false)).toArray := ⟨_, rfl⟩
  have hmk : ∀ w', (Instr.makeSlice 78 (.int .i64 (keep.length : Int)) (.int .i64 (keep.length : Int))).run Tryz.prog w' = .ok (.slice (some ⟨w'.heap.size, 0, none⟩) keep.length keep.length) (w'.alloc (.cells KC 4)) := fun w' => by
    rw [hKC]; exact make_flags keep.length (by omega) w'
  have HKC := Lib.hid hKC
  clear hKC
  have hml : Hid (∀ g, (Value.slice A data.length k).ownBlock = some g → g < gc) := HML
  clear HML
  go_cut [10] (fun v10 wx => ∃ gp gk go, v10 = .pointer (some ⟨gp, 0, none⟩) ∧ gc < gk ∧ gc < go ∧ gc < gp ∧ gk ≠ go ∧ gk ≠ gp ∧ Lay wx gc gk go gp (.slice A data.length k) keep.length (List.replicate keep.length false) ∧ Below W3.heap.size W3 wx)
  case first =>
    go_region_held3 (fun w' => w'.cell? ⟨gc, 0, none⟩ = some (.int .i64 (Sp.spotC data).op) ∧ w'.cell? ⟨gc, 1, none⟩ = some (.int .i64 (Sp.spotC data).h) ∧ w'.cell? ⟨gc, 2, none⟩ = some (.int .i64 (Sp.spotC data).h2) ∧ w'.cell? ⟨gc, 3, none⟩ = some (.int .i64 (Sp.spotC data).off) ∧ w'.cell? ⟨gc, 4, none⟩ = some (.int .i64 (Sp.spotC data).len) ∧ w'.cell? ⟨gc, 5, none⟩ = some (.string (str (Sp.spotC data).path)) ∧ w'.cell? ⟨gc, 6, none⟩ = some (.string (str (Sp.spotC data).name)) ∧ w'.cell? ⟨gc, 7, none⟩ = some (.string (str (Sp.spotC data).name2)) ∧ w'.cell? ⟨gc, 8, none⟩ = some (.slice A data.length k)) ((refine HKS.out _ ?_; repeat' (first | exact Below.refl _ _ | apply Below.drew | refine Below.alloc ?_ (by first | (simp; done) | (simp; omega) | omega) _ | refine Below.setCell ?_ (by first | (simp; done) | (simp; omega) | omega) _))) (fail)
    all_goals (go_wp2_with fail; go_meet)
    · refine ⟨W3.heap.size + 1 + 1, W3.heap.size, W3.heap.size + 1, rfl, hlt.out, Nat.lt_succ_of_lt hlt.out, Nat.lt_succ_of_lt (Nat.lt_succ_of_lt hlt.out), by omega, by omega, ⟨(((alloc3 W3 _ _ _).2.2.2.block _ hlt.out).trans HRW.out), ?_, (alloc3 W3 _ _ _).2.1, (alloc3 W3 _ _ _).2.2.1⟩, (alloc3 W3 _ _ _).2.2.2⟩
      rw [(alloc3 W3 _ _ _).1, HKC.out, List.map_replicate]
    · refine ⟨W3.heap.size + 1, W3.heap.size, W3.heap.size + 1 + 1, rfl, hlt.out, Nat.lt_succ_of_lt (Nat.lt_succ_of_lt hlt.out), Nat.lt_succ_of_lt hlt.out, by omega, by omega, ⟨(((alloc3 W3 _ _ _).2.2.2.block _ hlt.out).trans HRW.out), ?_, (alloc3 W3 _ _ _).2.2.1, (alloc3 W3 _ _ _).2.1⟩, (alloc3 W3 _ _ _).2.2.2⟩
      rw [(alloc3 W3 _ _ _).1, HKC.out, List.map_replicate]
    · refine ⟨W3.heap.size, W3.heap.size + 1, W3.heap.size + 1 + 1, rfl, Nat.lt_succ_of_lt hlt.out, Nat.lt_succ_of_lt (Nat.lt_succ_of_lt hlt.out), hlt.out, by omega, by omega, ⟨(((alloc3 W3 _ _ _).2.2.2.block _ hlt.out).trans HRW.out), ?_, (alloc3 W3 _ _ _).2.2.1, (alloc3 W3 _ _ _).1⟩, (alloc3 W3 _ _ _).2.2.2⟩
      rw [(alloc3 W3 _ _ _).2.1, HKC.out, List.map_replicate]
  case rest =>
    obtain ⟨gp, gk, go, rfl, g1, g2, g3, g4, g5, HL, HBx⟩ := hcut
    have HS0 : Hid (PlSt w w1.heap.size gc gk go gp keep.length (.slice A data.length k) wc data (List.replicate keep.length false)) := Lib.hid ⟨HL, Kd.R_below HM3.out HBx, (HB1.out.trans (HB3.out.mono HB1.out.size)).trans (HBx.mono (HB1.out.trans (HB3.out.mono HB1.out.size)).size)⟩
    have hgc : w.heap.size ≤ gc := HGC.out
    clear HL HBx HM3 HB3 HB2 hmk HKC hlt HRW HKS q0 q1 q2 q3 q4 q5 q6 q7 q8 hne
    obtain ⟨ta, hpa, hna, _, _⟩ := Sp.spotC_back (l := data) (by omega)
    obtain ⟨tx, hpx, hnx, _, _⟩ := Sp.spot_back (l := data) (K := List.replicate keep.length false) (by omega) (by simp; omega)
    have HNA := str_ne hna
    have HNX := str_ne hnx
    have H25 : Hid (∀ w', PlSt w w1.heap.size gc gk go gp keep.length (.slice A data.length k) w' data (List.replicate keep.length false) → Calls Tryz.prog 25 #[.agg (callCells (Sp.spotC []) (.slice A data.length k)).toArray] w' (W2 w' (ta, 0))) := Lib.hid (fun w' h => h.c25 HE.out (by omega) hpa)
    have H19 : Hid (∀ w', PlSt w w1.heap.size gc gk go gp keep.length (.slice A data.length k) w' data (List.replicate keep.length false) → Calls Tryz.prog 19 #[.agg (playCells zeros (.slice (some ⟨go, 0, none⟩) 3 3)).toArray] w' (W2 w' (tx, 0))) := Lib.hid (fun w' h => h.c19 HE.out (by simp) (by omega) (by simp; omega) hpx)
    clear hpa hna hpx hnx
    go_wp2_with (first
      | (go_at_call 19; refine (H19.out _ HS1.out).mono ?_; rintro e wb ⟨rfl, hb⟩; have HS2 := Lib.hid (HS1.out.below hb); clear hb)
      | (go_at_call 25; refine (H25.out _ HS0.out).mono ?_; rintro e wa ⟨rfl, hb⟩; have HS1 := Lib.hid (HS0.out.below hb); clear hb)
      | (refine wpList_load_row rfl 28 (.tmp 10) rfl gp rfl 28 (playCells zeros (.slice (some ⟨go, 0, none⟩) 3 3)).toArray _ _ HS1.out.1.2.2.2 Tryz.underlying28 rfl (by kernel_rfl) ?_)
      | (refine wpList_load_row rfl 51 (.tmp 9) rfl gc rfl 51 (callCells (Sp.spotC []) (.slice A data.length k)).toArray _ _ HS0.out.1.1 Tryz.underlying51 rfl (by kernel_rfl) ?_))
    clear H25 H19 HS0 HS1
    go_loopw [15] (fun v15 wr => ∃ (i : Nat), v15 = .int .i64 (i : Int) ∧ i ≤ data.length ∧ i ≤ other.length ∧ Hid (PlSt w w1.heap.size gc gk go gp keep.length (.slice A data.length k) wr (other.take i ++ data.drop i) (List.replicate keep.length false))) (fun v15 _ => data.length - (intOf v15).toNat)
    case atStart => exact ⟨0, rfl, Nat.zero_le _, Nat.zero_le _, HS2⟩
    case round =>
      obtain ⟨i, rfl, hi, hi2, HR⟩ := hrel
      clear HS2
      by_cases hboth : i < data.length ∧ i < other.length
      · obtain ⟨hlt, hlt2⟩ := hboth
        obtain ⟨g, cap, e, hg1, hg2⟩ := HR.out.2.1.form (by simp; omega)
        have hlen : (other.take i ++ data.drop i).length = data.length := by simp; omega
        rw [hlen] at e
        injection e with e1 e2 e3
        subst e1 e3
        have hgg := hml.out g (by simp [Value.ownBlock])
        obtain ⟨ad2, hA2, hcell⟩ := (HD.out.2.1.below HR.out.2.2).at_ i hlt2
        subst hA2
        obtain ⟨x, hx⟩ : ∃ x, x = other[i]'hlt2 := ⟨_, rfl⟩
        rw [← hx] at hcell
        obtain ⟨X, hX⟩ : ∃ X : Int, X = (x.toNat : Int) := ⟨_, rfl⟩
        rw [← hX] at hcell
        obtain ⟨hc0, hf0⟩ := HR.out.2.1.cell i (by rw [hlen]; exact hlt)
        have hset : (other.take i ++ data.drop i).set i x = other.take (i + 1) ++ data.drop (i + 1) := by
          rw [List.drop_eq_getElem_cons hlt, set_mid (by simp; omega), List.take_succ_eq_append_getElem hlt2, ← hx]
          simp
        have HN : Hid (PlSt w w1.heap.size gc gk go gp keep.length (.slice (some ⟨g, 0, none⟩) data.length k) (wr.setCell ⟨g, i, none⟩ (.int .u8 X)) (other.take (i + 1) ++ data.drop (i + 1)) (List.replicate keep.length false)) := Lib.hid (by
          rw [← hset]
          exact HR.out.put (Nat.le_trans HB1.out.size hg1) i x hX hgg g1 g2 g3)
        obtain ⟨V0, x0⟩ : ∃ V, wr.cell? ⟨g, i, none⟩ = some V := ⟨_, hc0⟩
        have q1 : (0 : Int) ≤ (i : Int) ∧ (i : Int) < (data.length : Int) := ⟨by omega, by omega⟩
        have q2 : (0 : Int) ≤ (i : Int) ∧ (i : Int) < (other.length : Int) := ⟨by omega, by omega⟩
        clear hc0 hset hX hx hlen HR
        go_wp2
        go_roundw
        case rel => exact ⟨i + 1, by go_num, by omega, by omega, HN⟩
        case measure => simp [intOf]; omega
      · have hcases : (i < data.length ∧ ¬ i < other.length) ∨ ¬ i < data.length := by omega
        obtain ⟨l1, hl1⟩ : ∃ l1, l1 = other.take i ++ data.drop i := ⟨_, rfl⟩
        rw [← hl1] at HR
        have hll : l1.length = data.length := by rw [hl1]; simp; omega
        clear hl1 hboth
        rcases hcases with ⟨ha, ha2⟩ | ha
        all_goals
          go_wp2
          go_loopw [16] (fun v16 wr => ∃ (j : Nat), v16 = .int .i64 (j : Int) ∧ j ≤ keep.length ∧ Hid (PlSt w w1.heap.size gc gk go gp keep.length (.slice A data.length k) wr l1 (keep.take j ++ List.replicate (keep.length - j) false))) (fun v16 _ => keep.length - (intOf v16).toNat)
          case atStart => exact ⟨0, rfl, Nat.zero_le _, by simpa using HR⟩
          case round =>
            obtain ⟨j, rfl, hj, HQ⟩ := hrel
            clear HR
            by_cases hltj : j < keep.length
            · obtain ⟨ad3, hA3, hcell⟩ := (HD.out.2.2.below HQ.out.drew.2.2).at_ j hltj
              subst hA3
              obtain ⟨b, hb⟩ : ∃ b, b = keep[j]'hltj := ⟨_, rfl⟩
              rw [← hb] at hcell
              have hset : (keep.take j ++ List.replicate (keep.length - j) false).set j b = keep.take (j + 1) ++ List.replicate (keep.length - (j + 1)) false := by
                rw [show keep.length - j = (keep.length - (j + 1)) + 1 by omega, List.replicate_succ, set_midB (by simp; omega), List.take_succ_eq_append_getElem hltj, ← hb]
                simp
              have HN : Hid (PlSt w w1.heap.size gc gk go gp keep.length (.slice A data.length k) (wr.drew.setCell ⟨gk, j, none⟩ (.bool b)) l1 (keep.take (j + 1) ++ List.replicate (keep.length - (j + 1)) false)) := Lib.hid (by
                rw [← hset]
                exact HQ.out.drew.flag (by omega) j b (by omega) g4 g5)
              have hcp : wr.drew.cell? ⟨gp, 11, none⟩ = some (.slice (some ⟨go, 0, none⟩) 3 3) := by rw [cell_of_row _ _ _ _ _ _ HQ.out.drew.1.2.2.2]; rfl
              have hco : wr.drew.cell? ⟨go, 47, none⟩ = some (.slice (some ⟨gk, 0, none⟩) keep.length keep.length) := by rw [cell_of_row _ _ _ _ _ _ HQ.out.drew.1.2.2.1]; rfl
              obtain ⟨V0, x0⟩ : ∃ V, wr.drew.cell? ⟨gk, j, none⟩ = some V := by
                rw [cell_of_row _ _ _ _ _ _ HQ.out.drew.1.2.1]
                refine ⟨_, Array.getElem?_eq_getElem ?_⟩
                simp
                omega
              have f0 : wr.drew.frozen? ⟨gk, j, none⟩ = false := row_frozen HQ.out.drew.1.2.1 j
              have q1 : (0 : Int) ≤ (j : Int) ∧ (j : Int) < (keep.length : Int) := ⟨by omega, by omega⟩
              clear hset hb HQ
              go_wp2
              refine region_mix [] [0, 1, 2, 3, 4, 5, 6, 7, 8, 9, 10] [11] mixed (by kernel_rfl) (fun _ _ _ _ _ h => h) ?_
              simp only [pick, List.getElem?_cons_zero, List.getElem?_cons_succ]
              refine wpPre_nil ?_
              still_step
              still_step
              still_step
              still_step
              still_step
              still_step
              still_step
              still_step
              still_step
              still_step
              still_step
              refine wpStill_nil ?_
              go_wp2
              go_roundw
              case rel => exact ⟨j + 1, by go_num, by omega, HN⟩
              case measure => simp [intOf]; omega
            · have hjk : j = keep.length := by omega
              have HS : Hid (PlSt w w1.heap.size gc gk go gp keep.length (.slice A data.length k) wr l1 keep) := Lib.hid (by
                have h := HQ.out
                rw [hjk, List.take_length, Nat.sub_self, List.replicate_zero, List.append_nil] at h
                exact h)
              clear HQ hjk
              obtain ⟨tb, hpb, hnb, hlb, hqb⟩ := Sp.spotC_back (l := l1) (by omega)
              obtain ⟨ty, hpy, hny, hly, hqy⟩ := Sp.spot_back (l := l1) (K := keep) (by omega) (by omega)
              have H25 : Hid (∀ w', PlSt w w1.heap.size gc gk go gp keep.length (.slice A data.length k) w' l1 keep → Calls Tryz.prog 25 #[.agg (callCells (Sp.spotC []) (.slice A data.length k)).toArray] w' (W2 w' (tb, 0))) := Lib.hid (fun w' h => h.c25 HE.out (by omega) hpb)
              have H19 : Hid (∀ w', PlSt w w1.heap.size gc gk go gp keep.length (.slice A data.length k) w' l1 keep → Calls Tryz.prog 19 #[.agg (playCells zeros (.slice (some ⟨go, 0, none⟩) 3 3)).toArray] w' (W2 w' (ty, 0))) := Lib.hid (fun w' h => h.c19 HE.out rfl (by omega) (by omega) hpy)
              have H28 : Hid (∀ w', PlSt w w1.heap.size gc gk go gp keep.length (.slice A data.length k) w' l1 keep → Calls Tryz.prog 28 #[.string (str tb)] w' (P28 (Sp.spotC l1) w')) := Lib.hid (fun w' h => call28 hqb w' (HE.out.below h.2.2) (by omega))
              have H14 : Hid (∀ w', PlSt w w1.heap.size gc gk go gp keep.length (.slice A data.length k) w' l1 keep → Calls Tryz.prog 14 #[.string (str ty)] w' (P14 (Sp.spot l1 keep) 0 0 0 0 0 0 0 0 0 0 0 0 0 w')) := Lib.hid (fun w' h => play14 ty (Sp.spot l1 keep) 0 0 hqy 0 0 0 0 0 0 0 0 0 0 0 rfl w' (HE.out.below h.2.2) (by omega))
              have H35 : Hid (∀ B j w', CallV w' (Sp.spotC l1) (.slice B (Sp.spotC l1).data.length j) → PlSt w w1.heap.size gc gk go gp keep.length (.slice A data.length k) w' l1 keep → Calls Tryz.prog 35 #[.slice B (Sp.spotC l1).data.length j, .slice A data.length k] w' (BRet w' (.bool true))) := Lib.hid (fun B j w' h1 h2 => by
                obtain ⟨e, _, hr⟩ := row_reads h2.2.1
                obtain ⟨B', j', e2, hr2⟩ := h1
                injection e2 with e3 e4 e5
                subst e3 e5
                have h := sameBytes_any B A l1 l1 j k w' hr2 hr (by omega)
                rw [decide_eq_true rfl, ← e] at h
                show Calls Tryz.prog 35 #[.slice B l1.length j, .slice A data.length k] w' _
                rw [← e]
                exact h)
              have H16 : Hid (∀ B j w', PlayV w' (Sp.spot l1 keep) (.slice B (Sp.spot l1 keep).ops.length j) → PlSt w w1.heap.size gc gk go gp keep.length (.slice A data.length k) w' l1 keep → Calls Tryz.prog 16 #[.agg #[.int .i64 0, .int .i64 0, .int .i64 0, .int .i64 0, .int .i64 0, .int .i64 0, .int .i64 0, .int .i64 0, .int .i64 0, .int .i64 0, .int .i64 0, .slice B (Sp.spot l1 keep).ops.length j], .agg (playCells zeros (.slice (some ⟨go, 0, none⟩) 3 3)).toArray] w' (BRet w' (.bool true))) := Lib.hid (fun B j w' h1 h2 => by
                have h := same_any (Sp.spot l1 keep) (Sp.spot l1 keep) _ _ w' h1 (h2.play rfl (by omega) (by omega))
                rw [decide_eq_true rfl] at h
                exact h)
              have HIN := Lib.hid (fun w' (h : PlSt w w1.heap.size gc gk go gp keep.length (.slice A data.length k) w' l1 keep) => h.2.2)
              clear hpb hnb hlb hqb hpy hny hly hqy
              go_wp2_with (first
                | (go_at_call 16; refine (H16.out B2 j2 _ R4.out.1 S6.out).mono ?_; rintro e wf ⟨rfl, hb⟩; have S7 := Lib.hid (S6.out.below hb); clear hb)
                | (refine wpList_load_row rfl 28 (.tmp 23) rfl wd.heap.size rfl 28 _ _ _ R4.out.2 Tryz.underlying28 rfl (by kernel_rfl) ?_)
                | (refine wpList_load_row rfl 28 (.tmp 10) rfl gp rfl 28 (playCells zeros (.slice (some ⟨go, 0, none⟩) 3 3)).toArray _ _ S6.out.1.2.2.2 Tryz.underlying28 rfl (by kernel_rfl) ?_)
                | (go_at_call 35; refine (H35.out B j _ R3.out.1 S5.out).mono ?_; rintro e we ⟨rfl, hb⟩; have S6 := Lib.hid (S5.out.below hb); have R4 := Lib.hid (And.intro (R3.out.2.1.below hb) ((hb.block _ (row_lt R3.out.2.2)).trans R3.out.2.2)); clear hb)
                | (go_at_call 14; refine (H14.out _ S4.out).mono ?_; rintro e wd ⟨B2, j2, rfl, hv, hb⟩; have hb2 : Below wd.heap.size wd (wd.alloc (.cells #[.int .i64 0, .int .i64 0, .int .i64 0, .int .i64 0, .int .i64 0, .int .i64 0, .int .i64 0, .int .i64 0, .int .i64 0, .int .i64 0, .int .i64 0, .slice B2 (Sp.spot l1 keep).ops.length j2] 28)) := (Below.refl _ _).alloc (Nat.le_refl _) _; have S5 := Lib.hid ((S4.out.below hb).below hb2); have R3 := Lib.hid (And.intro ((R2.out.1.under hb).under hb2) (And.intro (hv.below hb2) (heap_alloc_new wd (.cells #[.int .i64 0, .int .i64 0, .int .i64 0, .int .i64 0, .int .i64 0, .int .i64 0, .int .i64 0, .int .i64 0, .int .i64 0, .int .i64 0, .int .i64 0, .slice B2 (Sp.spot l1 keep).ops.length j2] 28)))); have hc8 := below_read hb2 (below_read hb R2.out.2); clear hb hb2 hv)
                | (go_at_call 28; refine (H28.out _ S3.out).mono ?_; rintro e wc ⟨B, j, rfl, hv, hb⟩; have hb2 : Below wc.heap.size wc (wc.alloc (.cells #[.int .i64 (Sp.spotC l1).op, .int .i64 (Sp.spotC l1).h, .int .i64 (Sp.spotC l1).h2, .int .i64 (Sp.spotC l1).off, .int .i64 (Sp.spotC l1).len, .string (str (Sp.spotC l1).path), .string (str (Sp.spotC l1).name), .string (str (Sp.spotC l1).name2), .slice B (Sp.spotC l1).data.length j] 51)) := (Below.refl _ _).alloc (Nat.le_refl _) _; have S4 := Lib.hid ((S3.out.below hb).below hb2); have R2 := Lib.hid (And.intro (hv.under hb2) (show (wc.alloc (.cells #[.int .i64 (Sp.spotC l1).op, .int .i64 (Sp.spotC l1).h, .int .i64 (Sp.spotC l1).h2, .int .i64 (Sp.spotC l1).off, .int .i64 (Sp.spotC l1).len, .string (str (Sp.spotC l1).path), .string (str (Sp.spotC l1).name), .string (str (Sp.spotC l1).name2), .slice B (Sp.spotC l1).data.length j] 51)).cell? ⟨wc.heap.size, 8, none⟩ = some (.slice B (Sp.spotC l1).data.length j) from by rw [cell_of_row _ _ _ _ _ _ (heap_alloc_new wc (.cells #[.int .i64 (Sp.spotC l1).op, .int .i64 (Sp.spotC l1).h, .int .i64 (Sp.spotC l1).h2, .int .i64 (Sp.spotC l1).off, .int .i64 (Sp.spotC l1).len, .string (str (Sp.spotC l1).path), .string (str (Sp.spotC l1).name), .string (str (Sp.spotC l1).name2), .slice B (Sp.spotC l1).data.length j] 51))]; rfl)); clear hb hb2 hv)
                | (go_at_call 19; refine (H19.out _ S2.out).mono ?_; rintro e wb ⟨rfl, hb⟩; have S3 := Lib.hid (S2.out.below hb); clear hb)
                | (refine wpList_load_row rfl 28 (.tmp 10) rfl gp rfl 28 (playCells zeros (.slice (some ⟨go, 0, none⟩) 3 3)).toArray _ _ S2.out.1.2.2.2 Tryz.underlying28 rfl (by kernel_rfl) ?_)
                | (go_at_call 25; refine (H25.out _ HS.out).mono ?_; rintro e wa ⟨rfl, hb⟩; have S2 := Lib.hid (HS.out.below hb); clear hb)
                | (refine wpList_load_row rfl 51 (.tmp 9) rfl gc rfl 51 (callCells (Sp.spotC []) (.slice A data.length k)).toArray _ _ HS.out.1.1 Tryz.underlying51 rfl (by kernel_rfl) ?_)
                | (go_at_call 17; refine (num_any _ _).mono ?_; rintro e w7 ⟨rfl, rfl⟩))
              go_ret
              exact ⟨rfl, S7.out.2.2⟩
end Go.Proofs.YthnhfddlmkhgkaaGreatDoor

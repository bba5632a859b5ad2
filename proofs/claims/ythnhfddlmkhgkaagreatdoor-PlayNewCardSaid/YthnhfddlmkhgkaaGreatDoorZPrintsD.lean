/- Walks: what some functions of the play package and its laws compute, as contracts. -/
import Derived.Test.YthnhfddlmkhgkaaGreatDoorZPrintP
import Derived.Test.YthnhfddlmkhgkaaGreatDoorZParse
import Derived.Test.YthnhfddlmkhgkaaGreatDoorZToldAll
set_option linter.unusedVariables false
namespace Go.Proofs.YthnhfddlmkhgkaaGreatDoor
open Go.RowKit Go.Proofs.YthnhfddlmkhgkaaGreatDoorW.PrintWords

section
variable {ops : Array Oper} {rest : List Oper} {o : Oper} {a : Act} {Q : Exit → Act → World → Prop}
/-- append(v, o) of one step, to a longer row -/
theorem ap_op2 {W : World} {base : Nat} {w0 : World} {s x : Operand} {v : Value} {os : List Sp.Op} {p : Sp.Op} {v1 v2 v3 : Value}
    (hgd : o.guard = none)
    (ho : o.op = .call { callee := .builtin .append, args := #[s, x], argTypes := #[26, 26] })
    (hs : a.eval s = v) (hx : a.eval x = .slice (some ⟨W.heap.size, 0, none⟩) 1 1)
    {ts : List V3} (h1 : OpList W base os ts) (h2 : kraw.R 80 W base (fun _ => True) v ((os.zip ts).map rawOf)) (HP : OpRows W base p v1 v2 v3) (hfr : ∀ u ∈ ts, ∀ k, u.has k → ¬ V3.has (v1, v2, v3) k)
    (HB : Below base w0 W) (hbase : base ≤ W.heap.size) (hl : os.length + 1 ≤ 2000000)
    (h : ∀ v4 w1, OpsRow w1 base v4 (os ++ [p]) → Below base w0 w1 → W.grownBy w1 v.ownBlock → (∀ k, v.ownBlock = some k → ∃ cells, W.heap[k]? = some (.cells cells 80 (0, 0))) → wpList Tryz.prog ops Q rest (a.put o.dst v4) w1) :
    wpList Tryz.prog ops Q (o :: rest) a (W.alloc (.cells (opCells p v1 v2 v3).toArray 80)) := by
  have hone := opCells_one p HP.1.one HP.2.1.one HP.2.2.1.one
  have hty := Kd.R_typed h2
  refine Kd.R_append kraw (w0 := w0) base hgd s x 26 80 _ 200 ho Tryz.underlying26 info80 rfl (by decide) (by omega) v ((os.zip ts).map rawOf) (opCells p v1 v2 v3) (opCells p v1 v2 v3) (fun _ => True) (fun _ => False) hs hx ⟨rfl, rfl, hone⟩ (fun _ hk => hk.elim) (fun _ _ => trivial) h2 HB hbase (by rw [List.length_map, List.length_zip, ← h1.len, Nat.min_self]; omega) ?_
  intro v4 w1 g1 g2 g3 g4
  refine h v4 w1 ⟨ts ++ [(v1, v2, v3)], ?_, ?_⟩ g2 g3 hty
  · have hsz := g3.size
    have hne : ∀ k, (∃ cells e fr, W.heap[k]? = some (.cells cells e fr) ∧ (e = 5 ∨ e = 4)) → some k ≠ v.ownBlock := by
      rintro k ⟨c, e, fr, hh, he⟩ heq
      obtain ⟨c2, hh2⟩ := hty k heq.symm
      rw [hh] at hh2
      injection hh2 with hh2
      injection hh2 with _ hh2 _
      rcases he with rfl | rfl <;> exact absurd hh2 (by decide)
    refine .snoc (h1.step hsz (fun t ht k hk => g3.block k (h1.lt t ht k hk).2 (hne k (h1.typed t ht k hk)))) (HP.step hsz (fun k hk => g3.block k (HP.lt k hk).2 (hne k (HP.typed k hk)))) hfr
  · rw [List.zip_append h1.len, List.map_append]
    exact g1
end
theorem op_put14 (o : Sp.Op) (v1 v2 v3 u : Value) : (opCells o v1 v2 v3).toArray.setIfInBounds 14 u = (opCells o v1 u v3).toArray := rfl
theorem op_put13 (o : Sp.Op) (v1 v2 v3 u : Value) : (opCells o v1 v2 v3).toArray.setIfInBounds 13 u = (opCells o u v2 v3).toArray := rfl
theorem op_put15 (o : Sp.Op) (v1 v2 v3 u : Value) : (opCells o v1 v2 v3).toArray.setIfInBounds 15 u = (opCells o v1 v2 u).toArray := rfl
/-- the walk of twin: the play's box, the result's cells, the play that is built -/
def TwinAt (w wr : World) (N : List Int) (A : Option Addr) (ka n : Nat) (Av : Option Addr) (cv : Nat) (os : List Sp.Op) : Prop :=
  wr.heap[w.heap.size]? = some (.cells (playCells N (.slice A n ka)).toArray 28 (0, 0)) ∧ ZeroPlay wr (w.heap.size + 1) ∧ wr.heap[w.heap.size + 2]? = some (.cells (playCells N (.slice Av os.length cv)).toArray 28 (0, 0)) ∧ OpsRow wr w.heap.size (.slice Av os.length cv) os ∧ Below w.heap.size w wr
/-- the bytes of a list, laid anew -/
def NewU (w : World) (l : Sp.Bs) (e : Ending) (w' : World) : Prop := ∃ B k, e = .returned (.slice B l.length k) ∧ OU w' w.heap.size (.slice B l.length k) l ∧ Below w.heap.size w w'
theorem new_bytes (A : Option Addr) (l : Sp.Bs) (c : Nat) (w : World) (h : ReadU w A l) (hl : l.length ≤ 1048576) : Calls Tryz.prog 24 #[.slice A l.length c] w (NewU w l) := by
  refine (bytes_any A l c w h (by omega)).mono ?_
  rintro e w1 ⟨v, rfl, hv, hb⟩
  obtain ⟨B, k, rfl, _, _⟩ := OU.reads (RowU.o hv)
  exact ⟨B, k, rfl, RowU.o hv, hb⟩
set_option maxHeartbeats 8000000 in
set_option maxRecDepth 100000 in
/-- the same play in new memory -/
theorem twin_any (p : Sp.Play) (vp : Value) (w : World) (hp : PlayV w p vp) (hb : ∀ o ∈ p.ops, o.data.length ≤ 1048576 ∧ o.keep.length ≤ 1048576 ∧ o.call.data.length ≤ 1048576) (hn : p.ops.length ≤ 1048576) :
    Calls Tryz.prog 20 #[.agg (playCells p.nums vp).toArray] w (fun e w' => ∃ v, e = .returned (.agg (playCells p.nums v).toArray) ∧ OpsRow w' w.heap.size v p.ops ∧ Below w.heap.size w w') := by
  obtain ⟨na, A, ka, rfl, hra, hla, hoa⟩ := hp
  obtain ⟨N, hN⟩ : ∃ N, N = p.nums := ⟨_, rfl⟩
  rw [← hN]
  rw [← hN] at na
  have HRO := Lib.hid hra
  have HOB := Lib.hid hb
  obtain ⟨a0, a1, a2, a3, a4, a5, a6, a7, a8, a9, a10, ea⟩ := list11 na
  have HEA := Lib.hid ea
  have hx0 := pbox_row w N (.slice A p.ops.length ka)
  rw [ea]
  clear hN hra hoa hb
  show Calls Tryz.prog 20 #[.agg #[.int .i64 a0, .int .i64 a1, .int .i64 a2, .int .i64 a3, .int .i64 a4, .int .i64 a5, .int .i64 a6, .int .i64 a7, .int .i64 a8, .int .i64 a9, .int .i64 a10, .slice A p.ops.length ka]] w _
  go_enter Tryz.func20, Tryz.ntmps20
  go_upto_region 1 with fail
  obtain ⟨W0, hW0⟩ : ∃ W0, W0 = (w.alloc (.cells #[.int .i64 a0, .int .i64 a1, .int .i64 a2, .int .i64 a3, .int .i64 a4, .int .i64 a5, .int .i64 a6, .int .i64 a7, .int .i64 a8, .int .i64 a9, .int .i64 a10, .slice A p.ops.length ka] 28)).alloc (.cells #[.int .i64 0, .int .i64 0, .int .i64 0, .int .i64 0, .int .i64 0, .int .i64 0, .int .i64 0, .int .i64 0, .int .i64 0, .int .i64 0, .int .i64 0, .slice none 0 0] 28) := ⟨_, rfl⟩
  rw [← hW0]
  have hs0 : W0.heap.size = w.heap.size + 2 := by rw [hW0, World.size_alloc, World.size_alloc]
  have hr0 : W0.heap[w.heap.size]? = some (.cells #[.int .i64 a0, .int .i64 a1, .int .i64 a2, .int .i64 a3, .int .i64 a4, .int .i64 a5, .int .i64 a6, .int .i64 a7, .int .i64 a8, .int .i64 a9, .int .i64 a10, .slice A p.ops.length ka] 28 (0, 0)) := by
    have h := heap_alloc_new w (.cells #[.int .i64 a0, .int .i64 a1, .int .i64 a2, .int .i64 a3, .int .i64 a4, .int .i64 a5, .int .i64 a6, .int .i64 a7, .int .i64 a8, .int .i64 a9, .int .i64 a10, .slice A p.ops.length ka] 28)
    rw [hW0, heap_alloc_old _ _ (row_lt h)]; exact h
  have hz0 : ZeroPlay W0 (w.heap.size + 1) := by
    have h := heap_alloc_new (w.alloc (.cells #[.int .i64 a0, .int .i64 a1, .int .i64 a2, .int .i64 a3, .int .i64 a4, .int .i64 a5, .int .i64 a6, .int .i64 a7, .int .i64 a8, .int .i64 a9, .int .i64 a10, .slice A p.ops.length ka] 28)) (.cells #[.int .i64 0, .int .i64 0, .int .i64 0, .int .i64 0, .int .i64 0, .int .i64 0, .int .i64 0, .int .i64 0, .int .i64 0, .int .i64 0, .int .i64 0, .slice none 0 0] 28)
    rw [World.size_alloc] at h
    rw [hW0]; exact h
  have hb0 : Below w.heap.size w W0 := by rw [hW0]; exact ((Below.refl _ _).alloc (Nat.le_refl _) _).alloc (by simp) _
  have HC8 : Hid (∀ (j : Nat) (v : Value), [Value.int .i64 a0, .int .i64 a1, .int .i64 a2, .int .i64 a3, .int .i64 a4, .int .i64 a5, .int .i64 a6, .int .i64 a7][j]? = some v → W0.cell? ((⟨w.heap.size, 0, none⟩ : Addr).add j) = some v) := Lib.hid (fun j v hj => by
    rw [add_plain, cell_of_row _ _ _ _ _ _ hr0]
    have hlt : j < 8 := (List.getElem?_eq_some_iff.1 hj).1
    rw [← hj]
    match j, hlt with
    | 0, _ => rfl
    | 1, _ => rfl
    | 2, _ => rfl
    | 3, _ => rfl
    | 4, _ => rfl
    | 5, _ => rfl
    | 6, _ => rfl
    | 7, _ => rfl)
  have HC3 : Hid (∀ (j : Nat) (v : Value), [Value.int .i64 a8, .int .i64 a9, .int .i64 a10][j]? = some v → W0.cell? ((⟨w.heap.size, 8, none⟩ : Addr).add j) = some v) := Lib.hid (fun j v hj => by
    rw [Lib.add_plain, cell_of_row _ _ _ _ _ _ hr0]
    have hlt : j < 3 := (List.getElem?_eq_some_iff.1 hj).1
    rw [← hj]
    match j, hlt with
    | 0, _ => rfl
    | 1, _ => rfl
    | 2, _ => rfl)
  clear hW0
  go_upto_region 2 with (first | (refine wpList_load_any rfl 23 (.tmp 8) rfl ⟨w.heap.size, 0, none⟩ rfl [.int .i64 a0, .int .i64 a1, .int .i64 a2, .int .i64 a3, .int .i64 a4, .int .i64 a5, .int .i64 a6, .int .i64 a7] _ HC8.out Tryz.underlying23 rfl (by kernel_rfl) ?_) | (refine wpList_load_any rfl 25 (.tmp 10) rfl ⟨w.heap.size, 8, none⟩ rfl [.int .i64 a8, .int .i64 a9, .int .i64 a10] _ HC3.out Tryz.underlying25 rfl (by kernel_rfl) ?_))
  obtain ⟨W1, hW1⟩ : ∃ W1, W1 = W0.alloc (.cells #[.int .i64 a0, .int .i64 a1, .int .i64 a2, .int .i64 a3, .int .i64 a4, .int .i64 a5, .int .i64 a6, .int .i64 a7, .int .i64 a8, .int .i64 a9, .int .i64 a10, .slice none 0 0] 28) := ⟨_, rfl⟩
  rw [← hW1]
  have HT : Hid (TwinAt w W1 N A ka p.ops.length none 0 []) := Lib.hid (by
    have hb1 : Below W0.heap.size W0 W1 := by rw [hW1]; exact (Below.refl _ _).alloc (Nat.le_refl _) _
    refine ⟨?_, (hb1.block _ (row_lt hz0)).trans hz0, ?_, OpsRow.nil _ _, hb0.trans (hb1.mono hb0.size)⟩
    · rw [hb1.block _ (row_lt hr0), hr0, HEA.out]; rfl
    · rw [hW1, HEA.out, ← hs0]; exact heap_alloc_new W0 _)
  have hx11 := (show W1.cell? ⟨w.heap.size, 11, none⟩ = some (.slice A p.ops.length ka) by rw [cell_of_row _ _ _ _ _ _ HT.out.1]; exact play_last na _)
  clear hW1 hr0 hz0 hb0 HC8 HC3 hx0
  have hnl : (p.ops.length : Int) ≤ 1048576 := by omega
  go_wp2
  go_loopw [4] (fun v4 wr => ∃ (i : Nat) (Av : Option Addr) (cv : Nat), v4 = .int .i64 (i : Int) ∧ i ≤ p.ops.length ∧ Hid (TwinAt w wr N A ka p.ops.length Av cv (p.ops.take i))) (fun v4 _ => p.ops.length - (intOf v4).toNat)
  case atStart => exact ⟨0, none, 0, rfl, by omega, HT⟩
  case round =>
    obtain ⟨i, Av, cv, rfl, hi, HTr⟩ := hrel
    clear HT hx11
    obtain ⟨W3, rfl⟩ : ∃ W3, W3 = wr := ⟨_, rfl⟩
    have hx11 := (show W3.cell? ⟨w.heap.size, 11, none⟩ = some (.slice A p.ops.length ka) by rw [cell_of_row _ _ _ _ _ _ HTr.out.1]; exact play_last na _)
    by_cases hlt : i < p.ops.length
    · obtain ⟨ad, s1, s2, s3, hA, hOV, hCC⟩ := (HRO.out.below HTr.out.2.2.2.2).at_ i hlt
      obtain ⟨o, ho⟩ : ∃ o, o = p.ops[i]'hlt := ⟨_, rfl⟩
      rw [← ho] at hOV hCC
      have HBO := Lib.hid (HOB.out o (by rw [ho]; exact List.getElem_mem _))
      obtain ⟨OT, hOT⟩ : ∃ x, x = p.ops.take i := ⟨_, rfl⟩
      have HTK : Hid (p.ops.take (i + 1) = OT ++ [o]) := Lib.hid (by rw [List.take_succ_eq_append_getElem hlt, ho, hOT])
      have HTL : Hid (OT.length = i) := Lib.hid (by rw [hOT, List.length_take]; omega)
      rw [← hOT] at HTr
      clear hOT
      obtain ⟨⟨A1, k1, rfl, hr1⟩, ⟨A2, k2, rfl, hr2⟩, A3, k3, rfl, hr3⟩ := hOV
      have HR1 := Lib.hid hr1
      have HR2 := Lib.hid hr2
      have HR3 := Lib.hid hr3
      have HCC := Lib.hid hCC
      clear ho hCC hr1 hr2 hr3
      subst hA
      have q2 : (0 : Int) ≤ (i : Int) ∧ (i : Int) < (p.ops.length : Int) := ⟨by omega, by omega⟩
      have hone2 : ((opCells o (.slice A1 o.call.data.length k1) (.slice A2 o.data.length k2) (.slice A3 o.keep.length k3)).toArray.all (·.oneCell')) = true := by rw [List.all_toArray]; exact List.all_eq_true.2 (opCells_one o rfl rfl rfl)
      go_upto_region 6 with (first | (refine wpList_load_any rfl 80 (.tmp 23) rfl (ad.add (i * 16)) rfl (opCells o (.slice A1 o.call.data.length k1) (.slice A2 o.data.length k2) (.slice A3 o.keep.length k3)) _ HCC.out Tryz.underlying80 rfl (by kernel_rfl) ?_) | (refine wpList_store_row rfl 80 (.tmp 5) (.tmp 24) rfl W3.heap.size (opCells o (.slice A1 o.call.data.length k1) (.slice A2 o.data.length k2) (.slice A3 o.keep.length k3)).toArray rfl rfl 80 _ (heap_alloc_new W3 _) (by kernel_rfl) rfl hone2 ?_; rw [World.setRow_alloc_new]))
      obtain ⟨W5, hW5⟩ : ∃ W5, W5 = W3.alloc (.cells (opCells o (.slice A1 o.call.data.length k1) (.slice A2 o.data.length k2) (.slice A3 o.keep.length k3)).toArray 80) := ⟨_, rfl⟩
      rw [← hW5]
      have hr5 : W5.heap[W3.heap.size]? = some (.cells (opCells o (.slice A1 o.call.data.length k1) (.slice A2 o.data.length k2) (.slice A3 o.keep.length k3)).toArray 80 (0, 0)) := by rw [hW5]; exact heap_alloc_new W3 _
      have HB5 : Hid (Below W3.heap.size W3 W5) := Lib.hid (by rw [hW5]; exact (Below.refl _ _).alloc (Nat.le_refl _) _)
      have H24 : Hid (∀ w1, Below W3.heap.size W3 w1 → Calls Tryz.prog 24 #[.slice A2 o.data.length k2] w1 (NewU w1 o.data)) := Lib.hid (fun w1 h => new_bytes A2 o.data k2 w1 (HR2.out.below h) HBO.out.1)
      have H24b : Hid (∀ w1, Below W3.heap.size W3 w1 → Calls Tryz.prog 24 #[.slice A1 o.call.data.length k1] w1 (NewU w1 o.call.data)) := Lib.hid (fun w1 h => new_bytes A1 o.call.data k1 w1 (HR1.out.below h) HBO.out.2.2)
      have y14 : W5.cell? ⟨W3.heap.size, 14, none⟩ = some (.slice A2 o.data.length k2) := by rw [cell_of_row _ _ _ _ _ _ hr5]; rfl
      clear hW5 hone2
      have HR5 := Lib.hid hr5
      clear hr5
      go_upto_region 7 with (go_at_call 24; refine (H24.out _ HB5.out).mono ?_; rintro e w6 ⟨B2, c2, rfl, hv2, hb6⟩; have hr6 := (hb6.block _ (row_lt HR5.out)).trans HR5.out; have y14b := (show w6.cell? ⟨W3.heap.size, 14, none⟩ = some (.slice A2 o.data.length k2) by rw [cell_of_row _ _ _ _ _ _ hr6]; rfl); have f14 := row_frozen hr6 14; have HV2 := Lib.hid (And.intro hv2 (And.intro hb6 hr6)); clear hv2 hb6 hr6 y14)
      obtain ⟨W6, hW6⟩ : ∃ W6, W6 = w6.setCell ⟨W3.heap.size, 14, none⟩ (.slice B2 o.data.length c2) := ⟨_, rfl⟩
      rw [← hW6]
      have HR6 : Hid (W6.heap[W3.heap.size]? = some (.cells (opCells o (.slice A1 o.call.data.length k1) (.slice B2 o.data.length c2) (.slice A3 o.keep.length k3)).toArray 80 (0, 0)) ∧ Below W3.heap.size W3 W6 ∧ OU W6 W5.heap.size (.slice B2 o.data.length c2) o.data ∧ W5.heap.size ≤ W6.heap.size) := Lib.hid (by
        obtain ⟨hv, hb, hr⟩ := HV2.out
        have hlt5 := row_lt HR5.out
        refine ⟨by rw [hW6, row_set hr, op_put14], by rw [hW6]; exact (HB5.out.trans (hb.mono HB5.out.size)).setCell (Nat.le_refl _) _, ?_, by rw [hW6]; simpa [World.setCell] using hb.size⟩
        rw [hW6]
        refine hv.far (fun k hk e2 => ?_) _
        have := (hv.lt k hk).1
        simp only at e2
        omega)
      clear hW6 f14 y14b HV2
      have y13 : W6.cell? ⟨W3.heap.size, 13, none⟩ = some (.slice A1 o.call.data.length k1) := by rw [cell_of_row _ _ _ _ _ _ HR6.out.1]; rfl
      go_upto_region 8 with (go_at_call 24; refine (H24b.out _ HR6.out.2.1).mono ?_; rintro e w7 ⟨B1, c1, rfl, hv1, hb7⟩; have hr7 := (hb7.block _ (row_lt HR6.out.1)).trans HR6.out.1; have y13b := (show w7.cell? ⟨W3.heap.size, 13, none⟩ = some (.slice A1 o.call.data.length k1) by rw [cell_of_row _ _ _ _ _ _ hr7]; rfl); have f13 := row_frozen hr7 13; have HV1 := Lib.hid (And.intro hv1 (And.intro hb7 hr7)); clear hv1 hb7 hr7 y13)
      obtain ⟨W7, hW7⟩ : ∃ W7, W7 = w7.setCell ⟨W3.heap.size, 13, none⟩ (.slice B1 o.call.data.length c1) := ⟨_, rfl⟩
      rw [← hW7]
      have HR7 : Hid (W7.heap[W3.heap.size]? = some (.cells (opCells o (.slice B1 o.call.data.length c1) (.slice B2 o.data.length c2) (.slice A3 o.keep.length k3)).toArray 80 (0, 0)) ∧ Below W3.heap.size W3 W7 ∧ OU W7 W5.heap.size (.slice B2 o.data.length c2) o.data ∧ OU W7 W6.heap.size (.slice B1 o.call.data.length c1) o.call.data ∧ W6.heap.size ≤ W7.heap.size) := Lib.hid (by
        obtain ⟨hv, hb, hr⟩ := HV1.out
        obtain ⟨g1, g2, g3, g4⟩ := HR6.out
        have hlt5 := row_lt HR5.out
        have hlt6 := row_lt g1
        refine ⟨by rw [hW7, row_set hr, op_put13], by rw [hW7]; exact (g2.trans (hb.mono g2.size)).setCell (Nat.le_refl _) _, ?_, ?_, by rw [hW7]; simpa [World.setCell] using hb.size⟩
        · rw [hW7]
          refine (g3.below hb).far (fun k hk e2 => ?_) _
          have := (g3.lt k hk).1
          simp only at e2
          omega
        · rw [hW7]
          refine hv.far (fun k hk e2 => ?_) _
          have := (hv.lt k hk).1
          simp only at e2
          omega)
      clear hW7 f13 y13b HV1
      have hkl : (o.keep.length : Int) ≤ 1048576 := by have := HBO.out.2.1; omega
      go_wp2
      go_loopw [6, 7] (fun v6 v7 wr => ∃ (j : Nat), v7 = .int .i64 (j : Int) ∧ j ≤ o.keep.length ∧ RowB wr W7.heap.size v6 (o.keep.take j) ∧ Below W7.heap.size W7 wr) (fun _ v7 _ => o.keep.length - (intOf v7).toNat)
      case atStart => exact ⟨0, rfl, by omega, Kd.R_nil _ _ _ _ _, Below.refl _ _⟩
      case round =>
        obtain ⟨j, rfl, hj, HO, HBk⟩ := hrel
        have hrk := (HBk.block _ (row_lt HR7.out.1)).trans HR7.out.1
        have y15 : wr.cell? ⟨W3.heap.size, 15, none⟩ = some (.slice A3 o.keep.length k3) := by rw [cell_of_row _ _ _ _ _ _ hrk]; rfl
        by_cases hltj : j < o.keep.length
        · obtain ⟨ad3, hA3, hcell⟩ := (HR3.out.below (HR7.out.2.1.trans (HBk.mono HR7.out.2.1.size))).at_ j hltj
          obtain ⟨b, hbb⟩ : ∃ b, b = o.keep[j]'hltj := ⟨_, rfl⟩
          rw [← hbb] at hcell
          have HTB : Hid (o.keep.take (j + 1) = o.keep.take j ++ [b]) := Lib.hid (by rw [List.take_succ_eq_append_getElem hltj, ← hbb])
          clear hbb hrk
          subst hA3
          have q3 : (0 : Int) ≤ (j : Int) ∧ (j : Int) < (o.keep.length : Int) := ⟨by omega, by omega⟩
          go_wp2_with (at_builtin; refine ap_b (W := wr) (base := W7.heap.size) (w0 := W7) (v := u6) (l := o.keep.take j) (c := b) rfl rfl rfl rfl HO HBk HBk.size (by rw [List.length_take]; omega) ?_; intro v1 w1 HO1 HB1 j1 j2; clear j1 j2)
          go_roundw
          case rel => exact ⟨j + 1, by go_num, by omega, by rw [HTB.out]; exact HO1, HB1⟩
          case measure => simp [intOf]; omega
        · rw [List.take_of_length_le (by omega)] at HO
          obtain ⟨A6, c6, hv6, _, _⟩ := OB.reads (RowB.o HO)
          subst hv6
          have f15 := row_frozen hrk 15
          have Tj : decide ((j : Int) < (o.keep.length : Int)) = false := decide_eq_false (by omega)
          go_upto_region 14 with fail
          obtain ⟨W8, hW8⟩ : ∃ W8, W8 = wr.setCell ⟨W3.heap.size, 15, none⟩ (.slice A6 o.keep.length c6) := ⟨_, rfl⟩
          rw [← hW8]
          have HR8 : Hid (W8.heap[W3.heap.size]? = some (.cells (opCells o (.slice B1 o.call.data.length c1) (.slice B2 o.data.length c2) (.slice A6 o.keep.length c6)).toArray 80 (0, 0)) ∧ Below W3.heap.size W3 W8 ∧ OpRows W8 W5.heap.size o (.slice B1 o.call.data.length c1) (.slice B2 o.data.length c2) (.slice A6 o.keep.length c6)) := Lib.hid (by
            obtain ⟨g1, g2, g3, g4, g5⟩ := HR7.out
            obtain ⟨m1, m2, m3, m4⟩ := HR6.out
            have hlt5 := row_lt HR5.out
            refine ⟨by rw [hW8, row_set hrk, op_put15], by rw [hW8]; exact (g2.trans (HBk.mono g2.size)).setCell (Nat.le_refl _) _, ?_, ?_, ?_, ?_⟩
            · rw [hW8]
              refine ((g4.below HBk).lower m4).far (fun k hk e2 => ?_) _
              have := (g4.lt k hk).1
              simp only at e2
              omega
            · rw [hW8]
              refine (g3.below HBk).far (fun k hk e2 => ?_) _
              have := (g3.lt k hk).1
              simp only at e2
              omega
            · rw [hW8]
              refine ((RowB.o HO).lower (Nat.le_trans m4 g5)).far (fun k hk e2 => ?_) _
              have := ((RowB.o HO).lt k hk).1
              simp only at e2
              omega
            · intro k hk hk2
              have h1 := (g4.lt k hk).1
              have h2 := (m3.lt k hk2).2
              omega)
          clear hW8 f15 y15 hrk HO HBk
          have hlt5 : W3.heap.size < W5.heap.size := row_lt HR5.out
          have HH : Hid (∃ ts, OpList W8 w.heap.size OT ts ∧ kraw.R 80 W8 w.heap.size (fun _ => True) (.slice Av OT.length cv) ((OT.zip ts).map rawOf) ∧ OpRows W8 w.heap.size o (.slice B1 o.call.data.length c1) (.slice B2 o.data.length c2) (.slice A6 o.keep.length c6) ∧ (∀ u ∈ ts, ∀ k, u.has k → ¬ V3.has ((.slice B1 o.call.data.length c1), (.slice B2 o.data.length c2), (.slice A6 o.keep.length c6)) k) ∧ Below w.heap.size w W8 ∧ W8.heap[w.heap.size]? = some (.cells (playCells N (.slice (some ad) p.ops.length ka)).toArray 28 (0, 0)) ∧ ZeroPlay W8 (w.heap.size + 1) ∧ W8.heap[w.heap.size + 2]? = some (.cells (playCells N (.slice Av OT.length cv)).toArray 28 (0, 0))) := Lib.hid (by
            obtain ⟨r1, r2, r3, r4, r5⟩ := HTr.out
            obtain ⟨g1, g2, g3⟩ := HR8.out
            obtain ⟨ts, h1, h2⟩ := r4
            have h3w : w.heap.size ≤ W5.heap.size := Nat.le_trans r5.size (by omega)
            refine ⟨ts, h1.under g2, Kd.R_below h2 g2, g3.lower h3w, ?_, r5.trans (g2.mono r5.size), (g2.block _ (row_lt r1)).trans r1, (g2.block _ (row_lt r2)).trans r2, (g2.block _ (row_lt r3)).trans r3⟩
            intro u hu k hk hk2
            have := (h1.lt u hu k hk).2
            have := (g3.lt k hk2).1
            omega)
          obtain ⟨ts, t1, t2, t3, t4, t5, t6, t7, t8⟩ := HH.out
          have HT1 := Lib.hid t1
          have HT2 := Lib.hid t2
          have HT3 := Lib.hid t3
          have HT4 := Lib.hid t4
          have HT5 := Lib.hid t5
          have hc12 : W8.cell? ⟨w.heap.size + 2, 11, none⟩ = some (.slice Av OT.length cv) := by rw [cell_of_row _ _ _ _ _ _ t8]; exact play_last na _
          have HT678 := Lib.hid (And.intro t6 (And.intro t7 t8))
          clear t1 t2 t3 t4 t5 t6 t7 t8 HH HR6 HR7 HR5 HB5 H24 H24b hx11
          have tk2 := trivial
          go_wp2_with (first | (have tq := tk2; refine wpList_load_row rfl 80 (.tmp 5) rfl W3.heap.size rfl 80 (opCells o (.slice B1 o.call.data.length c1) (.slice B2 o.data.length c2) (.slice A6 o.keep.length c6)).toArray _ _ HR8.out.1 Tryz.underlying80 rfl (by kernel_rfl) ?_; clear tk2 tq; have tk3 := trivial) | (have tq := tk3; refine wpList_build_op (W := W8) (x := .tmp 54) (p := o) (v1 := .slice B1 o.call.data.length c1) (v2 := .slice B2 o.data.length c2) (v3 := .slice A6 o.keep.length c6) rfl rfl rfl ?_; clear tk3 tq; have tk4 := trivial) | (have tq := tk4; at_builtin; refine ap_op2 (W := W8) (base := w.heap.size) (w0 := w) (v := .slice Av OT.length cv) (os := OT) (p := o) (v1 := .slice B1 o.call.data.length c1) (v2 := .slice B2 o.data.length c2) (v3 := .slice A6 o.keep.length c6) (ts := ts) rfl rfl rfl rfl HT1.out HT2.out HT3.out HT4.out HT5.out HT5.out.size (by rw [HTL.out]; omega) ?_; clear tk4 tq; intro v4 w9 a1 a2 a3 a4; obtain ⟨A9, c9, hv9, hc9⟩ := a1.len; subst hv9; have hr9 := grown_keeps a3 a4 HT678.out.2.2 (by decide); have hz9 : ZeroPlay w9 (w.heap.size + 1) := grown_keeps a3 a4 HT678.out.2.1 (by decide); have hp9 := grown_keeps a3 a4 HT678.out.1 (by decide); have hc13 : w9.cell? ⟨w.heap.size + 2, 11, none⟩ = some (.slice Av OT.length cv) := (by rw [cell_of_row _ _ _ _ _ _ hr9]; exact play_last na _); have hf13 := row_frozen hr9 11; have HA := Lib.hid (And.intro a1 (And.intro a2 (And.intro hr9 (And.intro hz9 hp9)))); clear a1 a2 a3 a4 hr9 hz9 hp9 hc12))
          go_roundw
          case rel =>
            obtain ⟨a1, a2, hr9, hz9, hp9⟩ := HA.out
            refine ⟨i + 1, A9, c9, by go_num, by omega, Lib.hid ?_⟩
            rw [HTK.out]
            refine ⟨(Below.heap_setCell w9 ⟨w.heap.size + 2, 11, none⟩ _ w.heap.size (by simp only; omega)).trans hp9, (Below.heap_setCell w9 ⟨w.heap.size + 2, 11, none⟩ _ (w.heap.size + 1) (by simp only; omega)).trans hz9, by rw [row_set hr9, play_set_last na, List.length_append]; rfl, a1.far hr9 (by simp [World.setCell]) (fun k hk => Below.heap_setCell w9 ⟨w.heap.size + 2, 11, none⟩ _ k hk), a2.setCell (by simp) _⟩
          case measure => simp [intOf]; omega
    · have HTE := HTr
      rw [List.take_of_length_le (by omega)] at HTE
      have Ti : decide ((i : Int) < (p.ops.length : Int)) = false := decide_eq_false (by omega)
      have hsz12 : (playCells N (.slice Av p.ops.length cv)).toArray.size = 12 := by simp [playCells, na]
      go_wp2_with (first | (refine wpList_load_row rfl 28 (.tmp 3) rfl (w.heap.size + 2) rfl 28 (playCells N (.slice Av p.ops.length cv)).toArray _ _ HTE.out.2.2.1 Tryz.underlying28 rfl (by rw [hsz12]; kernel_rfl) ?_) | (refine wpList_store_row rfl 28 (.tmp 2) (.tmp 58) rfl (w.heap.size + 1) (playCells N (.slice Av p.ops.length cv)).toArray rfl rfl 28 _ HTE.out.2.1 (by rw [hsz12]; kernel_rfl) (by simp [playCells, na, zeros]) (play_one _ rfl) ?_))
      obtain ⟨r1, r2, r3, r4, r5⟩ := HTE.out
      refine bodyPost_ret (results_cell_row rfl _ _ (w.heap.size + 1) 28 (playCells N (.slice Av p.ops.length cv)).toArray (0, 0) _ rfl (setRow_heap _ _ _ _ _ _ r2) Tryz.underlying28 rfl (by rw [hsz12]; kernel_rfl)) rfl ?_
      refine ⟨.slice Av p.ops.length cv, by rw [HEA.out], r4.far r2 (by simp) (fun k hk => setRow_other _ hk), setRow_below r5 (by omega) _⟩
end Go.Proofs.YthnhfddlmkhgkaaGreatDoor

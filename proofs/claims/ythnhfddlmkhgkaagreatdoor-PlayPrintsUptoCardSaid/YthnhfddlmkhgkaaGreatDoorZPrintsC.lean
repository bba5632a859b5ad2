/- Walks: what some functions of the play package and its laws compute, as contracts. -/
import Derived.Test.YthnhfddlmkhgkaaGreatDoorZPrintsB3
set_option linter.unusedVariables false
namespace Go.Proofs.YthnhfddlmkhgkaaGreatDoor
open Go.RowKit Go.Proofs.YthnhfddlmkhgkaaGreatDoorW.PrintWords

theorem op_cellsAll {w : World} {g : Nat} {o : Sp.Op} {v1 v2 v3 : Value} (h : w.heap[g]? = some (.cells (opCells o v1 v2 v3).toArray 80 (0, 0))) : w.cell? ⟨g, 0, none⟩ = some (.int .i64 o.kind) ∧ w.cell? ⟨g, 1, none⟩ = some (.int .i64 o.a) ∧ w.cell? ⟨g, 2, none⟩ = some (.int .i64 o.k) ∧ w.cell? ⟨g, 3, none⟩ = some (.int .i64 o.m) ∧ w.cell? ⟨g, 4, none⟩ = some (.int .i64 o.x) ∧ w.cell? ⟨g, 5, none⟩ = some (.int .i64 o.call.op) ∧ w.cell? ⟨g, 6, none⟩ = some (.int .i64 o.call.h) ∧ w.cell? ⟨g, 7, none⟩ = some (.int .i64 o.call.h2) ∧ w.cell? ⟨g, 8, none⟩ = some (.int .i64 o.call.off) ∧ w.cell? ⟨g, 9, none⟩ = some (.int .i64 o.call.len) ∧ w.cell? ⟨g, 10, none⟩ = some (.string (str o.call.path)) ∧ w.cell? ⟨g, 11, none⟩ = some (.string (str o.call.name)) ∧ w.cell? ⟨g, 12, none⟩ = some (.string (str o.call.name2)) ∧ w.cell? ⟨g, 13, none⟩ = some (v1) ∧ w.cell? ⟨g, 14, none⟩ = some (v2) ∧ w.cell? ⟨g, 15, none⟩ = some (v3) := by
  refine ⟨?_, ?_, ?_, ?_, ?_, ?_, ?_, ?_, ?_, ?_, ?_, ?_, ?_, ?_, ?_, ?_⟩ <;> (rw [cell_of_row _ _ _ _ _ _ h]; rfl)
theorem letters7 (n : Nat) (h : n < 15) : ∀ l ∈ Sp.formsR.getD n [], l = 65 ∨ l = 84 ∨ l = 75 ∨ l = 77 ∨ l = 88 ∨ l = 68 ∨ l = 66 := by
  have : ∀ k, k < 15 → ∀ l ∈ Sp.formsR.getD k [], l = 65 ∨ l = 84 ∨ l = 75 ∨ l = 77 ∨ l = 88 ∨ l = 68 ∨ l = 66 := by decide
  exact this n h
theorem wordR_len {o : Sp.Op} (h : OpB o) (l : UInt8) : (Sp.wordR o l).length ≤ 20971535 := by
  have hi : ∀ x, i64 x → (Lib.itoa x).length ≤ 20971535 := fun x hx => by have := Lib.itoa_length_le _ hx.1 hx.2; omega
  unfold Sp.wordR
  repeat' split
  · exact hi _ h.a
  · decide
  · exact hi _ h.a
  · exact hi _ h.k
  · exact hi _ h.m
  · exact hi _ h.x
  · have := hexed_len o.data; have := h.data; omega
  · have := flagged_len o.keep; have := h.keep; omega
theorem textC_len {c : Sp.Call} (h : CallB c) : (Sp.textC c).length ≤ 20971535 := by
  have h11 : (Sp.callRows.getD c.op.toNat ([], [])).1.length ≤ 10 ∧ (Sp.callRows.getD c.op.toNat ([], [])).2.length ≤ 4 := by
    by_cases q : c.op.toNat < 11
    · have : ∀ j, j < 11 → (Sp.callRows.getD j ([], [])).1.length ≤ 10 ∧ (Sp.callRows.getD j ([], [])).2.length ≤ 4 := by decide
      exact this _ q
    · have e : Sp.callRows.getD c.op.toNat ([], []) = ([], []) := by
        rw [List.getD_eq_getElem?_getD, List.getElem?_eq_none (by have : Sp.callRows.length = 11 := rfl; omega)]; rfl
      rw [e]; decide
  have := join_len ((Sp.callRows.getD c.op.toNat ([], [])).1 :: (Sp.callRows.getD c.op.toNat ([], [])).2.map (Sp.wordC c)) 4194306 (fun x hx => by
    rcases List.mem_cons.1 hx with rfl | hx
    · omega
    · obtain ⟨l, _, rfl⟩ := List.mem_map.1 hx
      exact h.word l)
  simp only [List.length_cons, List.length_map] at this
  have h5 : ((Sp.callRows.getD c.op.toNat ([], [])).2.length + 1) * (4194306 + 1) ≤ 5 * (4194306 + 1) := Nat.mul_le_mul_right _ (by omega)
  unfold Sp.textC
  omega
set_option maxHeartbeats 16000000 in
set_option maxRecDepth 100000 in
theorem ropText_any (o : Sp.Op) (v1 v2 v3 : Value) (w : World) (he : EnvP w) (ho : OpV w o v1 v2 v3) (hb : OpB o) (h1 : 0 < o.kind) (h2 : o.kind < 15) (hcl : o.kind = 1 → 0 < o.call.op ∧ o.call.op < 11) :
    Calls Tryz.prog 52 #[.agg (opCells o v1 v2 v3).toArray] w (BRet w (.string (str (Sp.lineR o)))) := by
  obtain ⟨hoc, ⟨A2, k2, rfl, hr2⟩, A3, k3, rfl, hr3⟩ := ho
  obtain ⟨W0, hW0⟩ : ∃ W0, W0 = w.alloc (.cells #[.int .i64 o.kind, .int .i64 o.a, .int .i64 o.k, .int .i64 o.m, .int .i64 o.x, .int .i64 o.call.op, .int .i64 o.call.h, .int .i64 o.call.h2, .int .i64 o.call.off, .int .i64 o.call.len, .string (str o.call.path), .string (str o.call.name), .string (str o.call.name2), v1, .slice A2 o.data.length k2, .slice A3 o.keep.length k3] 80) := ⟨_, rfl⟩
  have hB0 : Below w.heap.size w W0 := by rw [hW0]; exact (Below.refl _ _).alloc (Nat.le_refl _) _
  have hX0 : W0.heap[w.heap.size]? = some (.cells (opCells o v1 (.slice A2 o.data.length k2) (.slice A3 o.keep.length k3)).toArray 80 (0, 0)) := by rw [hW0]; exact heap_alloc_new w _
  have HB := Lib.hid hB0
  have HXW : Hid (∀ w1, Below W0.heap.size W0 w1 → w1.heap[w.heap.size]? = some (.cells (opCells o v1 (.slice A2 o.data.length k2) (.slice A3 o.keep.length k3)).toArray 80 (0, 0))) := Lib.hid (fun w1 h => (h.block _ (row_lt hX0)).trans hX0)
  have H50 : Hid (∀ (x : Int) (w1 : World), i64 x → Below W0.heap.size W0 w1 → Calls Tryz.prog 50 #[.int .i64 x] w1 (BRet w1 (.string (str (Lib.itoa x))))) := Lib.hid (fun x w1 hx h => itoa_any x w1 (he.r.env.below (HB.out.trans (h.mono HB.out.size))) hx.1 hx.2)
  obtain ⟨n, hkn⟩ : ∃ n : Nat, o.kind = n := ⟨o.kind.toNat, by omega⟩
  have h0 : 0 < n := by omega
  have h15 : n < 15 := by omega
  obtain ⟨nm, hnm⟩ : ∃ f, f = (Sp.stepRows.getD n ([], [])).1 := ⟨_, rfl⟩
  have hnl : nm.length ≤ 10 := by
    have : ∀ j, j < 15 → (Sp.stepRows.getD j ([], [])).1.length ≤ 10 := by decide
    rw [hnm]; exact this n h15
  have hcn : W0.cell? ⟨2, n, none⟩ = some (.string (str nm)) := by
    have h := col_cell gNames (he.below hB0).names n (by have : Sp.namesR.length = 15 := rfl; omega)
    rw [show Sp.namesR.getD n [] = (Sp.stepRows.getD n ([], [])).1 from row_get n h15, ← hnm] at h
    exact h
  obtain ⟨x0, x1, x2, x3, x4, x5, x6⟩ := op_cells hX0
  rw [hkn] at x0
  have q1 : (0 : Int) ≤ (n : Int) ∧ (n : Int) < 15 := ⟨by omega, by omega⟩
  have HBO := Lib.hid hb
  show Calls Tryz.prog 52 #[.agg #[.int .i64 o.kind, .int .i64 o.a, .int .i64 o.k, .int .i64 o.m, .int .i64 o.x, .int .i64 o.call.op, .int .i64 o.call.h, .int .i64 o.call.h2, .int .i64 o.call.off, .int .i64 o.call.len, .string (str o.call.path), .string (str o.call.name), .string (str o.call.name2), v1, .slice A2 o.data.length k2, .slice A3 o.keep.length k3]] w _
  by_cases hn1 : n = 1
  · have hk1 : o.kind = 1 := by omega
    have hop := hcl hk1
    have H55 : Hid (∀ w1, Below W0.heap.size W0 w1 → Calls Tryz.prog 55 #[.agg (callCells o.call v1).toArray] w1 (BRet w1 (.string (str (Sp.textC o.call))))) := Lib.hid (fun w1 h => by
      have hbw := HB.out.trans (h.mono HB.out.size)
      obtain ⟨A1, k1, e1, r1⟩ := hoc
      exact rcallText_any o.call v1 w1 (he.r.below hbw) ⟨A1, k1, e1, r1.below hbw⟩ HBO.out.call hop.1 hop.2)
    have HF : Hid (Sp.lineR o = [99, 97, 108, 108] ++ 32 :: (Lib.itoa o.a ++ 32 :: Sp.textC o.call)) := Lib.hid (by unfold Sp.lineR; rw [if_pos hk1])
    have hI : (str (Lib.itoa o.a)).size = (Lib.itoa o.a).length := str_size _
    have hIl : (Lib.itoa o.a).length ≤ 20971535 := by have := Lib.itoa_length_le _ hb.a.1 hb.a.2; omega
    have hTs : (str (Sp.textC o.call)).size = (Sp.textC o.call).length := str_size _
    have hTl := textC_len hb.call
    have hnme : nm = [99, 97, 108, 108] := by rw [hnm, hn1]; rfl
    obtain ⟨S0, hS0⟩ : ∃ s : Sp.Bs, s = nm ++ [32] := ⟨_, rfl⟩
    obtain ⟨S1, hS1⟩ : ∃ s, s = S0 ++ Lib.itoa o.a := ⟨_, rfl⟩
    obtain ⟨S2, hS2⟩ : ∃ s, s = S1 ++ [32] := ⟨_, rfl⟩
    obtain ⟨S3, hS3⟩ : ∃ s, s = S2 ++ Sp.textC o.call := ⟨_, rfl⟩
    have a1 : str nm ++ (⟨#[32]⟩ : ByteArray) = str S0 := by rw [hS0]; exact str_cat nm [32]
    have a2 : str S0 ++ str (Lib.itoa o.a) = str S1 := by rw [hS1]; exact str_cat _ _
    have a3 : str S1 ++ (⟨#[32]⟩ : ByteArray) = str S2 := by rw [hS2]; exact str_cat _ [32]
    have a4 : str S2 ++ str (Sp.textC o.call) = str S3 := by rw [hS3]; exact str_cat _ _
    have z0 : (str nm).size = 4 := by rw [hnme]; rfl
    have z1 : (str S0).size = 5 := by rw [hS0, hnme]; rfl
    have z2 : (str S1).size = (Lib.itoa o.a).length + 5 := by rw [str_size, hS1, List.length_append, ← str_size S0, z1]; omega
    have z3 : (str S2).size = (Lib.itoa o.a).length + 6 := by rw [str_size, hS2, List.length_append, ← str_size S1, z2]; rfl
    have n1 : ¬ 9223372036854775807 < (str nm).size + 1 := by omega
    have n2 : ¬ 9223372036854775807 < (str S0).size + (str (Lib.itoa o.a)).size := by omega
    have n6 : ¬ 9223372036854775807 < (str S1).size + 1 := by omega
    have n10 : ¬ 9223372036854775807 < (str S2).size + (str (Sp.textC o.call)).size := by omega
    clear z0 z1 z2 z3 hI hIl hTs hTl
    have HFS : Hid (S3 = Sp.lineR o) := Lib.hid (by rw [HF.out, hS3, hS2, hS1, hS0, hnme]; simp)
    have T1 : ((n : Int) == 1) = true := by rw [beq_iff_eq]; omega
    have HCC : Hid (∀ w1, Below W0.heap.size W0 w1 → ∀ (j : Nat) (v : Value), (callCells o.call v1)[j]? = some v → w1.cell? ((⟨w.heap.size, 5, none⟩ : Addr).add j) = some v) := Lib.hid (fun w1 h => op_call (HXW.out w1 h))
    obtain ⟨y0, y1, y2, y3, y4, y5, y6, y7, y8, y9, y10, y11, y12, y13, _⟩ := op_cellsAll hX0
    have HKS : Hid (∀ w', Below W0.heap.size W0 w' → w'.cell? ⟨w.heap.size, 1, none⟩ = some (.int .i64 o.a) ∧ w'.cell? ⟨w.heap.size, 5, none⟩ = some (.int .i64 o.call.op) ∧ w'.cell? ⟨w.heap.size, 6, none⟩ = some (.int .i64 o.call.h) ∧ w'.cell? ⟨w.heap.size, 7, none⟩ = some (.int .i64 o.call.h2) ∧ w'.cell? ⟨w.heap.size, 8, none⟩ = some (.int .i64 o.call.off) ∧ w'.cell? ⟨w.heap.size, 9, none⟩ = some (.int .i64 o.call.len) ∧ w'.cell? ⟨w.heap.size, 10, none⟩ = some (.string (str o.call.path)) ∧ w'.cell? ⟨w.heap.size, 11, none⟩ = some (.string (str o.call.name)) ∧ w'.cell? ⟨w.heap.size, 12, none⟩ = some (.string (str o.call.name2)) ∧ w'.cell? ⟨w.heap.size, 13, none⟩ = some v1) := Lib.hid (fun w' h => by
      obtain ⟨z0, z1, z2, z3, z4, z5, z6, z7, z8, z9, z10, z11, z12, z13, _⟩ := op_cellsAll (HXW.out w' h)
      exact ⟨z1, z5, z6, z7, z8, z9, z10, z11, z12, z13⟩)
    have HIA : Hid (i64 o.a) := Lib.hid hb.a
    rw [hkn] at hW0
    rw [hkn]
    clear hnm hb hoc he hB0 hX0 h1 h2 hcl hkn hop hk1 hn1 hr2 hr3 hS0 hS1 hS2 hS3 hnme x2 x3 x4 x5 x6 y0 y2 y3 y4
    go_enter Tryz.func52, Tryz.ntmps52
    go_upto_region 1 with fail
    rw [← hW0]
    clear hW0
    go_upto_region 3 with fail
    go_cut [2] (fun v2 wx => v2 = .string (str S3) ∧ Below W0.heap.size W0 wx)
    case first =>
      go_region_held3 (fun w' => w'.cell? ⟨w.heap.size, 1, none⟩ = some (.int .i64 o.a) ∧ w'.cell? ⟨w.heap.size, 5, none⟩ = some (.int .i64 o.call.op) ∧ w'.cell? ⟨w.heap.size, 6, none⟩ = some (.int .i64 o.call.h) ∧ w'.cell? ⟨w.heap.size, 7, none⟩ = some (.int .i64 o.call.h2) ∧ w'.cell? ⟨w.heap.size, 8, none⟩ = some (.int .i64 o.call.off) ∧ w'.cell? ⟨w.heap.size, 9, none⟩ = some (.int .i64 o.call.len) ∧ w'.cell? ⟨w.heap.size, 10, none⟩ = some (.string (str o.call.path)) ∧ w'.cell? ⟨w.heap.size, 11, none⟩ = some (.string (str o.call.name)) ∧ w'.cell? ⟨w.heap.size, 12, none⟩ = some (.string (str o.call.name2)) ∧ w'.cell? ⟨w.heap.size, 13, none⟩ = some v1) ((refine HKS.out _ ?_; (repeat' (first | exact Below.refl _ _ | apply Below.drew | refine below_step ?_ (by assumption))))) (first | (go_at_call 50; refine (H50.out _ _ HIA.out (by (repeat' (first | exact Below.refl _ _ | apply Below.drew | refine below_step ?_ (by assumption))))).mono ?_; rintro e w1 ⟨rfl, hb1⟩) | (go_at_call 55; refine (H55.out _ (by (repeat' (first | exact Below.refl _ _ | apply Below.drew | refine below_step ?_ (by assumption))))).mono ?_; rintro e w2 ⟨rfl, hb2⟩))
      all_goals (go_wp2_with fail; go_meet)
      all_goals exact ⟨rfl, (by (repeat' (first | exact Below.refl _ _ | apply Below.drew | refine below_step ?_ (by assumption))))⟩
    case rest =>
      obtain ⟨rfl, hbx⟩ := hcut
      go_wp2
      go_ret
      exact ⟨by rw [HFS.out]; rfl, HB.out.trans (hbx.mono HB.out.size)⟩
  · obtain ⟨f, hf⟩ : ∃ f, f = Sp.formsR.getD n [] := ⟨_, rfl⟩
    have hfl : f.length ≤ 3 := by rw [hf]; exact rforms_len n h15
    have hfs : (str f).size = f.length := str_size f
    have hcf : W0.cell? ⟨1, n, none⟩ = some (.string (str f)) := by rw [hf]; exact col_cell gForms (he.below hB0).forms n (by have : Sp.formsR.length = 15 := rfl; omega)
    have HLEN : Hid (∀ k, k ≤ f.length → (Sp.join (nm :: (f.take k).map (Sp.wordR o))).length ≤ 104857680) := Lib.hid (fun k hk => join_small nm _ hnl (by rw [List.length_map, List.length_take]; omega) (fun x hx => by
      obtain ⟨l, _, rfl⟩ := List.mem_map.1 hx
      exact wordR_len hb l))
    have HM : Hid (∀ l ∈ f, l = 65 ∨ l = 84 ∨ l = 75 ∨ l = 77 ∨ l = 88 ∨ l = 68 ∨ l = 66) := Lib.hid (by rw [hf]; exact letters7 n h15)
    obtain ⟨X, hX⟩ : ∃ X, X = Sp.lineR o := ⟨_, rfl⟩
    rw [← hX]
    have HX : Hid (Sp.join (nm :: f.map (Sp.wordR o)) = X) := Lib.hid (by rw [hX, Sp.lineR, if_neg (by omega), show o.kind.toNat = n by omega, ← hf, ← hnm])
    have T1 : ((n : Int) == 1) = false := beq_eq_false_iff_ne.2 (by omega)
    have HD : Hid (∀ w1, Below W0.heap.size W0 w1 → Calls Tryz.prog 95 #[.slice A2 o.data.length k2] w1 (BRet w1 (.string (str (Sp.hexed o.data))))) := Lib.hid (fun w1 h => rhexed_any _ _ _ w1 (hr2.below (HB.out.trans (h.mono HB.out.size))) (by have := hb.data; omega))
    have HK : Hid (∀ w1, Below W0.heap.size W0 w1 → Calls Tryz.prog 96 #[.slice A3 o.keep.length k3] w1 (BRet w1 (.string (str (Sp.flagged o.keep))))) := Lib.hid (fun w1 h => rkeep_any _ _ _ w1 (hr3.below (HB.out.trans (h.mono HB.out.size))) (by have := hb.keep; omega))
    rw [hkn] at hW0
    rw [hkn]
    clear hnm hb hoc he hB0 hX0 h1 h2 hcl hkn hr2 hr3 hf hX hn1 x1 x2 x3 x4 x5 x6
    go_enter Tryz.func52, Tryz.ntmps52
    go_upto_region 1 with fail
    rw [← hW0]
    clear hW0
    go_wp2
    go_loopw [3, 5] (fun v3 v5 wr => ∃ (i : Nat), v3 = .string (str (Sp.join (nm :: (f.take i).map (Sp.wordR o)))) ∧ v5 = .int .i64 (i : Int) ∧ i ≤ f.length ∧ Below W0.heap.size W0 wr) (fun _ v5 _ => f.length - (intOf v5).toNat)
    case atStart => exact ⟨0, rfl, rfl, Nat.zero_le _, Below.refl _ _⟩
    case round =>
      obtain ⟨i, rfl, rfl, hi, HBr⟩ := hrel
      clear x0
      obtain ⟨S, hS⟩ : ∃ S, S = Sp.join (nm :: (f.take i).map (Sp.wordR o)) := ⟨_, rfl⟩
      rw [← hS]
      have hSs : (str S).size = S.length := str_size S
      have hSl : S.length ≤ 104857680 := by rw [hS]; exact HLEN.out i hi
      have HS := Lib.hid hS
      clear hS
      by_cases hlt : i < f.length
      · obtain ⟨l, hl⟩ : ∃ l, l = f[i]'hlt := ⟨_, rfl⟩
        have hm := HM.out l (by rw [hl]; exact List.getElem_mem _)
        obtain ⟨C, hC⟩ : ∃ C : Int, C = (l.toNat : Int) := ⟨_, rfl⟩
        have hx : ∀ h : i < (str f).size, (((str f)[i]'h).toNat : Int) = C := fun h => by rw [hC, hl]; rfl
        have HN : Hid (Sp.join (nm :: (f.take (i + 1)).map (Sp.wordR o)) = S ++ 32 :: Sp.wordR o l) := Lib.hid (by
          rw [List.take_succ_eq_append_getElem hlt, ← hl, List.map_append, HS.out]
          exact Sp.join_snoc _ _ _)
        have hwl := wordR_len HBO.out l
        clear hl
        obtain ⟨x0, x1, x2, x3, x4, x5, x6⟩ := op_cells (HXW.out _ HBr)
        have hadd1 : str S ++ (⟨#[32]⟩ : ByteArray) = str (S ++ [32]) := str_cat S [32]
        have hs1 : (str (S ++ [32])).size = S.length + 1 := by rw [str_size, List.length_append]; rfl
        rcases hm with rfl | rfl | rfl | rfl | rfl | rfl | rfl
        · have hc1 : C = 65 := hC.trans rfl
          subst hc1
          have hw : Sp.wordR o 65 = Lib.itoa o.a := rfl
          rw [hw] at HN hwl
          have hws : (str (Lib.itoa o.a)).size = (Lib.itoa o.a).length := str_size _
          have hadd2 : str (S ++ [32]) ++ str (Lib.itoa o.a) = str (S ++ 32 :: Lib.itoa o.a) := by rw [str_cat]; congr 1; simp
          clear hC hw
          go_wp2_with (go_at_call 50; refine (H50.out _ _ HBO.out.a HBr).mono ?_; rintro e w1 ⟨rfl, hb1⟩)
          go_roundw
          case rel => exact ⟨i + 1, by rw [HN.out], by go_num, by omega, HBr.trans (hb1.mono HBr.size)⟩
          case measure => simp [intOf]; omega
        · have hc1 : C = 84 := hC.trans rfl
          subst hc1
          have hIs : (str (Lib.itoa o.a)).size = (Lib.itoa o.a).length := str_size _
          by_cases hs : o.a = -1
          · have hw : Sp.wordR o 84 = Sp.server := by unfold Sp.wordR; rw [if_neg (by decide), if_pos rfl, if_pos hs]
            rw [hw] at HN hwl
            have TS : (o.a == -1) = true := by rw [beq_iff_eq]; exact hs
            have HI := Lib.hid (HBO.out.a)
            have hadd2 : str (S ++ [32]) ++ (⟨#[115, 101, 114, 118, 101, 114]⟩ : ByteArray) = str (S ++ 32 :: Sp.server) := by rw [show (⟨#[115, 101, 114, 118, 101, 114]⟩ : ByteArray) = str Sp.server from rfl, str_cat]; congr 1; simp
            clear hC hw hs
            go_wp2_with (go_at_call 50; refine (H50.out _ _ HI.out HBr).mono ?_; rintro e w1 ⟨rfl, hb1⟩; obtain ⟨x0, x1, x2, x3, x4, x5, x6⟩ := op_cells (HXW.out _ (HBr.trans (hb1.mono HBr.size))))
            go_roundw
            case rel => exact ⟨i + 1, by rw [HN.out], by go_num, by omega, HBr.trans (hb1.mono HBr.size)⟩
            case measure => simp [intOf]; omega
          · have hw : Sp.wordR o 84 = Lib.itoa o.a := by unfold Sp.wordR; rw [if_neg (by decide), if_pos rfl, if_neg hs]
            rw [hw] at HN hwl
            have TS : (o.a == -1) = false := by rw [beq_eq_false_iff_ne]; exact hs
            have HI := Lib.hid (HBO.out.a)
            clear hs hIs
            have hws : (str (Lib.itoa o.a)).size = (Lib.itoa o.a).length := str_size _
            have hadd2 : str (S ++ [32]) ++ str (Lib.itoa o.a) = str (S ++ 32 :: Lib.itoa o.a) := by rw [str_cat]; congr 1; simp
            clear hC hw
            go_wp2_with (go_at_call 50; refine (H50.out _ _ HI.out HBr).mono ?_; rintro e w1 ⟨rfl, hb1⟩; obtain ⟨x0, x1, x2, x3, x4, x5, x6⟩ := op_cells (HXW.out _ (HBr.trans (hb1.mono HBr.size))))
            go_roundw
            case rel => exact ⟨i + 1, by rw [HN.out], by go_num, by omega, HBr.trans (hb1.mono HBr.size)⟩
            case measure => simp [intOf]; omega
        · have hc1 : C = 75 := hC.trans rfl
          subst hc1
          have hw : Sp.wordR o 75 = Lib.itoa o.k := rfl
          rw [hw] at HN hwl
          have hws : (str (Lib.itoa o.k)).size = (Lib.itoa o.k).length := str_size _
          have hadd2 : str (S ++ [32]) ++ str (Lib.itoa o.k) = str (S ++ 32 :: Lib.itoa o.k) := by rw [str_cat]; congr 1; simp
          clear hC hw
          go_wp2_with (go_at_call 50; refine (H50.out _ _ HBO.out.k HBr).mono ?_; rintro e w1 ⟨rfl, hb1⟩)
          go_roundw
          case rel => exact ⟨i + 1, by rw [HN.out], by go_num, by omega, HBr.trans (hb1.mono HBr.size)⟩
          case measure => simp [intOf]; omega
        · have hc1 : C = 77 := hC.trans rfl
          subst hc1
          have hw : Sp.wordR o 77 = Lib.itoa o.m := rfl
          rw [hw] at HN hwl
          have hws : (str (Lib.itoa o.m)).size = (Lib.itoa o.m).length := str_size _
          have hadd2 : str (S ++ [32]) ++ str (Lib.itoa o.m) = str (S ++ 32 :: Lib.itoa o.m) := by rw [str_cat]; congr 1; simp
          clear hC hw
          go_wp2_with (go_at_call 50; refine (H50.out _ _ HBO.out.m HBr).mono ?_; rintro e w1 ⟨rfl, hb1⟩)
          go_roundw
          case rel => exact ⟨i + 1, by rw [HN.out], by go_num, by omega, HBr.trans (hb1.mono HBr.size)⟩
          case measure => simp [intOf]; omega
        · have hc1 : C = 88 := hC.trans rfl
          subst hc1
          have hw : Sp.wordR o 88 = Lib.itoa o.x := rfl
          rw [hw] at HN hwl
          have hws : (str (Lib.itoa o.x)).size = (Lib.itoa o.x).length := str_size _
          have hadd2 : str (S ++ [32]) ++ str (Lib.itoa o.x) = str (S ++ 32 :: Lib.itoa o.x) := by rw [str_cat]; congr 1; simp
          clear hC hw
          go_wp2_with (go_at_call 50; refine (H50.out _ _ HBO.out.x HBr).mono ?_; rintro e w1 ⟨rfl, hb1⟩)
          go_roundw
          case rel => exact ⟨i + 1, by rw [HN.out], by go_num, by omega, HBr.trans (hb1.mono HBr.size)⟩
          case measure => simp [intOf]; omega
        · have hc1 : C = 68 := hC.trans rfl
          subst hc1
          have hw : Sp.wordR o 68 = Sp.hexed o.data := rfl
          rw [hw] at HN hwl
          have hws : (str (Sp.hexed o.data)).size = (Sp.hexed o.data).length := str_size _
          have hadd2 : str (S ++ [32]) ++ str (Sp.hexed o.data) = str (S ++ 32 :: Sp.hexed o.data) := by rw [str_cat]; congr 1; simp
          clear hC hw
          go_wp2_with (go_at_call 95; refine (HD.out _ HBr).mono ?_; rintro e w1 ⟨rfl, hb1⟩)
          go_roundw
          case rel => exact ⟨i + 1, by rw [HN.out], by go_num, by omega, HBr.trans (hb1.mono HBr.size)⟩
          case measure => simp [intOf]; omega
        · have hc1 : C = 66 := hC.trans rfl
          subst hc1
          have hw : Sp.wordR o 66 = Sp.flagged o.keep := rfl
          rw [hw] at HN hwl
          have hws : (str (Sp.flagged o.keep)).size = (Sp.flagged o.keep).length := str_size _
          have hadd2 : str (S ++ [32]) ++ str (Sp.flagged o.keep) = str (S ++ 32 :: Sp.flagged o.keep) := by rw [str_cat]; congr 1; simp
          clear hC hw
          go_wp2_with (go_at_call 96; refine (HK.out _ HBr).mono ?_; rintro e w1 ⟨rfl, hb1⟩)
          go_roundw
          case rel => exact ⟨i + 1, by rw [HN.out], by go_num, by omega, HBr.trans (hb1.mono HBr.size)⟩
          case measure => simp [intOf]; omega
      · have hfi : S = X := by rw [HS.out, List.take_of_length_le (by omega), HX.out]
        go_wp2
        go_ret
        exact ⟨by rw [hfi]; rfl, HB.out.trans (HBr.mono HB.out.size)⟩
end Go.Proofs.YthnhfddlmkhgkaaGreatDoor

/- Walks: what some functions of the play package and its laws compute, as contracts. -/
import Derived.Test.YthnhfddlmkhgkaaGreatDoorZPrintsB2
set_option linter.unusedVariables false
namespace Go.Proofs.YthnhfddlmkhgkaaGreatDoor
open Go.RowKit Go.Proofs.YthnhfddlmkhgkaaGreatDoorW.PrintWords

set_option maxHeartbeats 16000000 in
set_option maxRecDepth 100000 in
theorem ropErr_b1 (o : Sp.Op) (v1 v2 v3 : Value) (w : World) (he : EnvP w) (ho : OpV w o v1 v2 v3) (hb : OpB o) (hop : ¬ (o.kind < 1 ∨ 15 ≤ o.kind)) (hm : o.kind = 1) :
    Calls Tryz.prog 51 #[.agg (opCells o v1 v2 v3).toArray] w (BRet w (.int .i64 (Sp.errO o : Nat))) := by
  obtain ⟨hoc, ⟨A2, k2, rfl, hr2⟩, A3, k3, rfl, hr3⟩ := ho
  clear hr2 hr3
  obtain ⟨W0, hW0⟩ : ∃ W0, W0 = w.alloc (.cells #[.int .i64 o.kind, .int .i64 o.a, .int .i64 o.k, .int .i64 o.m, .int .i64 o.x, .int .i64 o.call.op, .int .i64 o.call.h, .int .i64 o.call.h2, .int .i64 o.call.off, .int .i64 o.call.len, .string (str o.call.path), .string (str o.call.name), .string (str o.call.name2), v1, .slice A2 o.data.length k2, .slice A3 o.keep.length k3] 80) := ⟨_, rfl⟩
  have hB0 : Below w.heap.size w W0 := by rw [hW0]; exact (Below.refl _ _).alloc (Nat.le_refl _) _
  have hX0 : W0.heap[w.heap.size]? = some (.cells (opCells o v1 (.slice A2 o.data.length k2) (.slice A3 o.keep.length k3)).toArray 80 (0, 0)) := by rw [hW0]; exact heap_alloc_new w _
  have HB := Lib.hid hB0
  have HXW : Hid (∀ w1, Below W0.heap.size W0 w1 → w1.heap[w.heap.size]? = some (.cells (opCells o v1 (.slice A2 o.data.length k2) (.slice A3 o.keep.length k3)).toArray 80 (0, 0))) := Lib.hid (fun w1 h => (h.block _ (row_lt hX0)).trans hX0)
  show Calls Tryz.prog 51 #[.agg #[.int .i64 o.kind, .int .i64 o.a, .int .i64 o.k, .int .i64 o.m, .int .i64 o.x, .int .i64 o.call.op, .int .i64 o.call.h, .int .i64 o.call.h2, .int .i64 o.call.off, .int .i64 o.call.len, .string (str o.call.path), .string (str o.call.name), .string (str o.call.name2), v1, .slice A2 o.data.length k2, .slice A3 o.keep.length k3]] w _

  obtain ⟨n, hkn⟩ : ∃ n : Nat, o.kind = n := ⟨o.kind.toNat, by omega⟩
  have h0 : 0 < n := by omega
  have h15 : n < 15 := by omega
  obtain ⟨f, hf⟩ : ∃ f, f = Sp.formsR.getD n [] := ⟨_, rfl⟩
  have hfl : f.length ≤ 3 := by rw [hf]; exact rforms_len n h15
  have hcf : W0.cell? ⟨1, n, none⟩ = some (.string (str f)) := by rw [hf]; exact col_cell gForms (he.below hB0).forms n (by have : Sp.formsR.length = 15 := rfl; omega)
  have HA : Hid (∀ (l : UInt8) (L : Int) (W : World), L = (l.toNat : Int) → Calls Tryz.prog 94 #[.string (str f), .int .u8 L] W (SRet W (.bool (f.contains l)))) := Lib.hid (fun l L W h => rasked_any f l L h W (by omega))
  obtain ⟨e, hee⟩ : ∃ e, e = Sp.errC o.call := ⟨_, rfl⟩
  obtain ⟨sb, hsb⟩ : ∃ x, x = decide (o.call = {}) := ⟨_, rfl⟩
  obtain ⟨ic, hic⟩ : ∃ x, x = decide (n = 1) := ⟨_, rfl⟩
  obtain ⟨ze, hze⟩ : ∃ x, x = decide (e ≠ 0) := ⟨_, rfl⟩
  obtain ⟨R, hR⟩ : ∃ R : Nat, R = Sp.errO o := ⟨_, rfl⟩
  rw [← hR]
  unfold Sp.errO at hR
  rw [if_neg hop, show o.kind.toNat = n by omega, ← hf, ← hee] at hR
  have e2 : (o.kind = 1 ∧ e ≠ 0) ↔ (ic && ze) = true := by
    rw [hic, hze, Bool.and_eq_true, decide_eq_true_iff, decide_eq_true_iff, hkn]
    exact ⟨fun q => ⟨by omega, q.2⟩, fun q => ⟨by omega, q.2⟩⟩
  simp only [e2] at hR

  unfold Sp.okO Sp.numO Sp.okN at hR
  rw [← hic, ← hsb] at hR
  have Tic : ((n : Int) == 1) = ic := by rw [hic, Bool.eq_iff_iff, beq_iff_eq, decide_eq_true_iff]; omega
  have Tze : ((e : Int) != 0) = ze := by rw [hze, Bool.eq_iff_iff, bne_iff_ne, decide_eq_true_iff]; omega
  have H27 : Hid (∀ w1, Below W0.heap.size W0 w1 → Calls Tryz.prog 27 #[.agg (callCells o.call v1).toArray, .agg #[.int .i64 0, .int .i64 0, .int .i64 0, .int .i64 0, .int .i64 0, .string ⟨#[]⟩, .string ⟨#[]⟩, .string ⟨#[]⟩, .slice none 0 0]] w1 (BRet w1 (.bool sb))) := Lib.hid (fun w1 h => by
    have hbw := HB.out.trans (h.mono HB.out.size)
    obtain ⟨A1, k1, e1, r1⟩ := hoc
    rw [hsb]
    exact sameCall_any o.call {} v1 (.slice none 0 0) w1 ⟨A1, k1, e1, r1.below hbw⟩ ⟨none, 0, rfl, rfl, by simp, fun h => absurd h (by simp)⟩ (by have := hb.call.data; omega))
  have H54 : Hid (∀ w1, Below W0.heap.size W0 w1 → Calls Tryz.prog 54 #[.agg (callCells o.call v1).toArray] w1 (BRet w1 (.int .i64 (e : Nat)))) := Lib.hid (fun w1 h => by
    have hbw := HB.out.trans (h.mono HB.out.size)
    obtain ⟨A1, k1, e1, r1⟩ := hoc
    rw [hee]
    exact rcallErr_any o.call v1 w1 (he.r.below hbw) ⟨A1, k1, e1, r1.below hbw⟩)
  have HCC : Hid (∀ w1, Below W0.heap.size W0 w1 → ∀ (j : Nat) (v : Value), (callCells o.call v1)[j]? = some v → w1.cell? ((⟨w.heap.size, 5, none⟩ : Addr).add j) = some v) := Lib.hid (fun w1 h => op_call (HXW.out w1 h))
  have HN : Hid (∀ (x : Int) (W : World), Calls Tryz.prog 49 #[.int .i64 x] W (SRet W (.bool (decide (0 ≤ x ∧ x ≤ 1073741824))))) := Lib.hid rnumOk_any
  obtain ⟨x0, x1, x2, x3, x4, x5, x6⟩ := op_cells hX0
  rw [hkn] at x0
  obtain ⟨aA, haA⟩ : ∃ a, a = f.contains 65 := ⟨_, rfl⟩
  have HAA : Hid (∀ W, Calls Tryz.prog 94 #[.string (str f), .int .u8 65] W (SRet W (.bool aA))) := Lib.hid (fun W => by rw [haA]; exact HA.out 65 65 W rfl)
  obtain ⟨aT, haT⟩ : ∃ a, a = f.contains 84 := ⟨_, rfl⟩
  have HAT : Hid (∀ W, Calls Tryz.prog 94 #[.string (str f), .int .u8 84] W (SRet W (.bool aT))) := Lib.hid (fun W => by rw [haT]; exact HA.out 84 84 W rfl)
  obtain ⟨zA, hzA⟩ : ∃ a, a = decide (o.a = 0) := ⟨_, rfl⟩
  have TA : (o.a == 0) = zA := by rw [hzA]; exact int_dec _
  obtain ⟨PA, hPA⟩ : ∃ a, a = (ic || (aA || (aT || zA))) := ⟨_, rfl⟩
  rw [← haA, ← haT, ← hzA, ← hPA] at hR
  have HPA := Lib.hid hPA
  obtain ⟨aK, haK⟩ : ∃ a, a = f.contains 75 := ⟨_, rfl⟩
  have HAK : Hid (∀ W, Calls Tryz.prog 94 #[.string (str f), .int .u8 75] W (SRet W (.bool aK))) := Lib.hid (fun W => by rw [haK]; exact HA.out 75 75 W rfl)
  obtain ⟨zK, hzK⟩ : ∃ a, a = decide (o.k = 0) := ⟨_, rfl⟩
  have TK : (o.k == 0) = zK := by rw [hzK]; exact int_dec _
  obtain ⟨PK, hPK⟩ : ∃ a, a = (aK || zK) := ⟨_, rfl⟩
  rw [← haK, ← hzK, ← hPK] at hR
  have HPK := Lib.hid hPK
  clear hzK hPK
  obtain ⟨aM, haM⟩ : ∃ a, a = f.contains 77 := ⟨_, rfl⟩
  have HAM : Hid (∀ W, Calls Tryz.prog 94 #[.string (str f), .int .u8 77] W (SRet W (.bool aM))) := Lib.hid (fun W => by rw [haM]; exact HA.out 77 77 W rfl)
  obtain ⟨zM, hzM⟩ : ∃ a, a = decide (o.m = 0) := ⟨_, rfl⟩
  have TM : (o.m == 0) = zM := by rw [hzM]; exact int_dec _
  obtain ⟨PM, hPM⟩ : ∃ a, a = (aM || zM) := ⟨_, rfl⟩
  rw [← haM, ← hzM, ← hPM] at hR
  have HPM := Lib.hid hPM
  clear hzM hPM
  obtain ⟨aX, haX⟩ : ∃ a, a = f.contains 88 := ⟨_, rfl⟩
  have HAX : Hid (∀ W, Calls Tryz.prog 94 #[.string (str f), .int .u8 88] W (SRet W (.bool aX))) := Lib.hid (fun W => by rw [haX]; exact HA.out 88 88 W rfl)
  obtain ⟨zX, hzX⟩ : ∃ a, a = decide (o.x = 0) := ⟨_, rfl⟩
  have TX : (o.x == 0) = zX := by rw [hzX]; exact int_dec _
  obtain ⟨PX, hPX⟩ : ∃ a, a = (aX || zX) := ⟨_, rfl⟩
  rw [← haX, ← hzX, ← hPX] at hR
  have HPX := Lib.hid hPX
  clear hzX hPX
  obtain ⟨aD, haD⟩ : ∃ a, a = f.contains 68 := ⟨_, rfl⟩
  have HAD : Hid (∀ W, Calls Tryz.prog 94 #[.string (str f), .int .u8 68] W (SRet W (.bool aD))) := Lib.hid (fun W => by rw [haD]; exact HA.out 68 68 W rfl)
  obtain ⟨zD, hzD⟩ : ∃ a, a = decide (o.data = []) := ⟨_, rfl⟩
  have TD : ((o.data.length : Int) == 0) = zD := by rw [hzD]; exact len_dec _
  obtain ⟨PD, hPD⟩ : ∃ a, a = (aD || zD) := ⟨_, rfl⟩
  rw [← haD, ← hzD, ← hPD] at hR
  have HPD := Lib.hid hPD
  clear hzD hPD
  obtain ⟨aB, haB⟩ : ∃ a, a = f.contains 66 := ⟨_, rfl⟩
  have HAB : Hid (∀ W, Calls Tryz.prog 94 #[.string (str f), .int .u8 66] W (SRet W (.bool aB))) := Lib.hid (fun W => by rw [haB]; exact HA.out 66 66 W rfl)
  obtain ⟨zB, hzB⟩ : ∃ a, a = decide (o.keep = []) := ⟨_, rfl⟩
  have TB : ((o.keep.length : Int) == 0) = zB := by rw [hzB]; exact len_decB _
  obtain ⟨PB, hPB⟩ : ∃ a, a = (aB || zB) := ⟨_, rfl⟩
  rw [← haB, ← hzB, ← hPB] at hR
  have HPB := Lib.hid hPB
  clear hzB hPB
  obtain ⟨PC, hPC⟩ : ∃ a, a = (ic || sb) := ⟨_, rfl⟩
  rw [← hPC] at hR
  have HPC := Lib.hid hPC
  obtain ⟨zS, hzS⟩ : ∃ a, a = decide (o.a = -1) := ⟨_, rfl⟩
  have TS : (o.a == -1) = zS := by rw [hzS, Bool.eq_iff_iff]; simp
  obtain ⟨PS, hPS⟩ : ∃ a, a = (aT && zS) := ⟨_, rfl⟩
  rw [← hzS, ← hPS] at hR
  have HPS := Lib.hid hPS
  obtain ⟨na, hna⟩ : ∃ a, a = decide (0 ≤ o.a ∧ o.a ≤ 1073741824) := ⟨_, rfl⟩
  have HNa : Hid (∀ W, Calls Tryz.prog 49 #[.int .i64 o.a] W (SRet W (.bool na))) := Lib.hid (fun W => by rw [hna]; exact HN.out _ W)
  rw [← hna] at hR
  clear hna
  obtain ⟨nk, hnk⟩ : ∃ a, a = decide (0 ≤ o.k ∧ o.k ≤ 1073741824) := ⟨_, rfl⟩
  have HNk : Hid (∀ W, Calls Tryz.prog 49 #[.int .i64 o.k] W (SRet W (.bool nk))) := Lib.hid (fun W => by rw [hnk]; exact HN.out _ W)
  rw [← hnk] at hR
  clear hnk
  obtain ⟨nm, hnm⟩ : ∃ a, a = decide (0 ≤ o.m ∧ o.m ≤ 1073741824) := ⟨_, rfl⟩
  have HNm : Hid (∀ W, Calls Tryz.prog 49 #[.int .i64 o.m] W (SRet W (.bool nm))) := Lib.hid (fun W => by rw [hnm]; exact HN.out _ W)
  rw [← hnm] at hR
  clear hnm
  obtain ⟨nx, hnx⟩ : ∃ a, a = decide (0 ≤ o.x ∧ o.x ≤ 1073741824) := ⟨_, rfl⟩
  have HNx : Hid (∀ W, Calls Tryz.prog 49 #[.int .i64 o.x] W (SRet W (.bool nx))) := Lib.hid (fun W => by rw [hnx]; exact HN.out _ W)
  rw [← hnx] at hR
  clear hnx
  obtain ⟨QA, hQA⟩ : ∃ a, a = (PS || na) := ⟨_, rfl⟩
  obtain ⟨QK, hQK⟩ : ∃ a, a = (nk && (nm && nx)) := ⟨_, rfl⟩
  rw [← hQA, ← hQK] at hR
  have HQA := Lib.hid hQA
  have HQK := Lib.hid hQK
  have HR := Lib.hid hR
  have q1 : (0 : Int) ≤ (n : Int) ∧ (n : Int) < 15 := ⟨by omega, by omega⟩
  have t1 : decide ((n : Int) < 1) = false := decide_eq_false (by omega)
  have t2 : decide (14 < (n : Int)) = false := decide_eq_false (by omega)
  rw [hkn] at hW0
  rw [hkn]

  have hn1 : n = 1 := by omega
  have hfe : f = [] := by rw [hf, hn1]; rfl
  obtain rfl : ic = true := by rw [hic]; exact decide_eq_true hn1
  obtain rfl : aA = false := by rw [haA, hfe]; rfl
  obtain rfl : aT = false := by rw [haT, hfe]; rfl
  obtain rfl : aK = false := by rw [haK, hfe]; rfl
  obtain rfl : aM = false := by rw [haM, hfe]; rfl
  obtain rfl : aX = false := by rw [haX, hfe]; rfl
  obtain rfl : aD = false := by rw [haD, hfe]; rfl
  obtain rfl : aB = false := by rw [haB, hfe]; rfl
  clear hn1 hfe
  clear HA HN hR hop hX0 hB0 he hf haK haM haX haD haB haA haT hzA hPA hPC hzS hPS hQA hQK hee hsb hic hze e2 hkn hoc hb
  go_enter Tryz.func51, Tryz.ntmps51
  go_upto_region 1 with fail
  rw [← hW0]
  clear hW0
  obtain ⟨OV, hOV⟩ : ∃ v, v = Value.agg #[.int .i64 n, .int .i64 o.a, .int .i64 o.k, .int .i64 o.m, .int .i64 o.x, .int .i64 o.call.op, .int .i64 o.call.h, .int .i64 o.call.h2, .int .i64 o.call.off, .int .i64 o.call.len, .string (str o.call.path), .string (str o.call.name), .string (str o.call.name2), v1, .slice A2 o.data.length k2, .slice A3 o.keep.length k3] := ⟨_, rfl⟩
  try rw [← hOV]
  clear hOV
  go_upto_region 5 with fail
  go_cut [5] (fun v5 wx => v5 = .bool PA ∧ W0 = wx)
  case first =>
    go_wp2_with (first | (go_at_call 94; ((with_reducible refine (HAA.out _).mono ?_); rintro e1 w1 ⟨rfl, rfl⟩)) | (go_at_call 94; ((with_reducible refine (HAT.out _).mono ?_); rintro e1 w1 ⟨rfl, rfl⟩)))
    all_goals go_meet
    all_goals (refine ⟨congrArg Value.bool ?_, rfl⟩; rw [HPA.out]; simp)
  case rest =>
    obtain ⟨rfl, rfl⟩ := hcut
    clear HAA HPA TA
    go_upto_region 6 with fail
    go_cut [6] (fun v6 wx => v6 = .bool PK ∧ W0 = wx)
    case first =>
      go_wp2_with ((go_at_call 94; ((with_reducible refine (HAK.out _).mono ?_); rintro e1 w1 ⟨rfl, rfl⟩)))
      all_goals go_meet
      all_goals (refine ⟨congrArg Value.bool ?_, rfl⟩; rw [HPK.out]; simp)
    case rest =>
      obtain ⟨rfl, rfl⟩ := hcut
      clear HAK HPK TK
      rename_i y16 y17 y18 y19 y20 y21 y22 y23 y24 y25 y26 y27 y28 y29 y30 y31 y32 y33 y34 y35 y36 y37 y38 y39 y40 y41 y42 y43 y44 y45 y46 y47 y48 y49 y50 y51 y52 y53 y54 y55 y56 y57 y58 y59 y60 y61 y62 y63 y64 y65 y66 y67 y68 y69 y70 y71 y72 y73 y74 y75 y76 y77 y78 y79 y80 y81 y82 y83 y84 y85 y86 y87 y88 y89 y90 y91 y92 y93 y94 y95 y96 y97 y98 y99 y100 y101 y102 y103 y104 y105 y106 y107 y108 y109 y110 y111 y112 y113 y114 y115 y116 y117 y118 y119 y120 y121 y122 y123 y124 y125 y126 y127 y128 y129 y130 y131 y132 y133 y134 y135 y136 y137 y138 y139 y140 y141 y142 y143 y144 y145 y146 y147 y148 y149 y150 y151 y152 y153 yK ya
      clear y16 y17 y18 y19 y20 y21 y22 y23 y24 y25 y26 y27 y28 y29 y30 y31 y32 y33 y34 y35 y36 y37 y38 y39 y40 y41 y42 y43 y44 y45 y46 y47 y48 y49 y50 y51 y52 y53 y54 y55 y56 y57 y58 y59 y60 y61 y62 y63 y64 y65 y66 y67 y68 y69 y70 y71 y72 y73 y74 y75 y76 y77 y78 y79 y80 y81 y82 y83 y84 y85 y86 y87 y88 y89 y90 y91 y92 y93 y94 y95 y96 y97 y98 y99 y100 y101 y102 y103 y104 y105 y106 y107 y108 y109 y110 y111 y112 y113 y114 y115 y116 y117 y118 y119 y120 y121 y122 y123 y124 y125 y126 y127 y128 y129 y130 y131 y132 y133 y134 y135 y136 y137 y138 y139 y140 y141 y142 y143 y144 y145 y146 y147 y148 y149 y150 y151 y152 y153
      go_upto_region 7 with fail
      go_cut [7] (fun v7 wx => v7 = .bool PM ∧ W0 = wx)
      case first =>
        go_wp2_with ((go_at_call 94; ((with_reducible refine (HAM.out _).mono ?_); rintro e1 w1 ⟨rfl, rfl⟩)))
        all_goals go_meet
        all_goals (refine ⟨congrArg Value.bool ?_, rfl⟩; rw [HPM.out]; simp)
      case rest =>
        obtain ⟨rfl, rfl⟩ := hcut
        clear HAM HPM TM
        rename_i y16 y17 y18 y19 y20 y21 y22 y23 y24 y25 y26 y27 y28 y29 y30 y31 y32 y33 y34 y35 y36 y37 y38 y39 y40 y41 y42 y43 y44 y45 y46 y47 y48 y49 y50 y51 y52 y53 y54 y55 y56 y57 y58 y59 y60 y61 y62 y63 y64 y65 y66 y67 y68 y69 y70 y71 y72 y73 y74 y75 y76 y77 y78 y79 y80 y81 y82 y83 y84 y85 y86 y87 y88 y89 y90 y91 y92 y93 y94 y95 y96 y97 y98 y99 y100 y101 y102 y103 y104 y105 y106 y107 y108 y109 y110 y111 y112 y113 y114 y115 y116 y117 y118 y119 y120 y121 y122 y123 y124 y125 y126 y127 y128 y129 y130 y131 y132 y133 y134 y135 y136 y137 y138 y139 y140 y141 y142 y143 y144 y145 y146 y147 y148 y149 y150 y151 y152 y153 yK ya
        clear y16 y17 y18 y19 y20 y21 y22 y23 y24 y25 y26 y27 y28 y29 y30 y31 y32 y33 y34 y35 y36 y37 y38 y39 y40 y41 y42 y43 y44 y45 y46 y47 y48 y49 y50 y51 y52 y53 y54 y55 y56 y57 y58 y59 y60 y61 y62 y63 y64 y65 y66 y67 y68 y69 y70 y71 y72 y73 y74 y75 y76 y77 y78 y79 y80 y81 y82 y83 y84 y85 y86 y87 y88 y89 y90 y91 y92 y93 y94 y95 y96 y97 y98 y99 y100 y101 y102 y103 y104 y105 y106 y107 y108 y109 y110 y111 y112 y113 y114 y115 y116 y117 y118 y119 y120 y121 y122 y123 y124 y125 y126 y127 y128 y129 y130 y131 y132 y133 y134 y135 y136 y137 y138 y139 y140 y141 y142 y143 y144 y145 y146 y147 y148 y149 y150 y151 y152 y153
        go_upto_region 8 with fail
        go_cut [8] (fun v8 wx => v8 = .bool PX ∧ W0 = wx)
        case first =>
          go_wp2_with ((go_at_call 94; ((with_reducible refine (HAX.out _).mono ?_); rintro e1 w1 ⟨rfl, rfl⟩)))
          all_goals go_meet
          all_goals (refine ⟨congrArg Value.bool ?_, rfl⟩; rw [HPX.out]; simp)
        case rest =>
          obtain ⟨rfl, rfl⟩ := hcut
          clear HAX HPX TX
          rename_i y16 y17 y18 y19 y20 y21 y22 y23 y24 y25 y26 y27 y28 y29 y30 y31 y32 y33 y34 y35 y36 y37 y38 y39 y40 y41 y42 y43 y44 y45 y46 y47 y48 y49 y50 y51 y52 y53 y54 y55 y56 y57 y58 y59 y60 y61 y62 y63 y64 y65 y66 y67 y68 y69 y70 y71 y72 y73 y74 y75 y76 y77 y78 y79 y80 y81 y82 y83 y84 y85 y86 y87 y88 y89 y90 y91 y92 y93 y94 y95 y96 y97 y98 y99 y100 y101 y102 y103 y104 y105 y106 y107 y108 y109 y110 y111 y112 y113 y114 y115 y116 y117 y118 y119 y120 y121 y122 y123 y124 y125 y126 y127 y128 y129 y130 y131 y132 y133 y134 y135 y136 y137 y138 y139 y140 y141 y142 y143 y144 y145 y146 y147 y148 y149 y150 y151 y152 y153 yK ya
          clear y16 y17 y18 y19 y20 y21 y22 y23 y24 y25 y26 y27 y28 y29 y30 y31 y32 y33 y34 y35 y36 y37 y38 y39 y40 y41 y42 y43 y44 y45 y46 y47 y48 y49 y50 y51 y52 y53 y54 y55 y56 y57 y58 y59 y60 y61 y62 y63 y64 y65 y66 y67 y68 y69 y70 y71 y72 y73 y74 y75 y76 y77 y78 y79 y80 y81 y82 y83 y84 y85 y86 y87 y88 y89 y90 y91 y92 y93 y94 y95 y96 y97 y98 y99 y100 y101 y102 y103 y104 y105 y106 y107 y108 y109 y110 y111 y112 y113 y114 y115 y116 y117 y118 y119 y120 y121 y122 y123 y124 y125 y126 y127 y128 y129 y130 y131 y132 y133 y134 y135 y136 y137 y138 y139 y140 y141 y142 y143 y144 y145 y146 y147 y148 y149 y150 y151 y152 y153
          go_upto_region 9 with fail
          have hcc := HCC.out W0 (Below.refl _ _)
          go_cut [9] (fun v9 wx => v9 = .bool PC ∧ ∃ W1, Below W0.heap.size W0 W1 ∧ W1 = wx)
          case first =>
            go_wp2_with (first | (refine wpList_load_any_if rfl 51 (.tmp 68) rfl ⟨w.heap.size, 5, none⟩ rfl (callCells o.call v1) _ hcc Tryz.underlying51 rfl (by kernel_rfl) ?_) | (go_at_call 27; refine (H27.out _ (Below.refl _ _)).mono ?_; rintro e1 w1 ⟨rfl, hbz⟩))
            all_goals go_meet
            all_goals (refine ⟨congrArg Value.bool ?_, _, by first | exact hbz | exact Below.refl _ _, rfl⟩; rw [HPC.out]; simp)
          case rest =>
            obtain ⟨rfl, W1, hbx, rfl⟩ := hcut
            clear HPC H27 hcc
            rename_i y16 y17 y18 y19 y20 y21 y22 y23 y24 y25 y26 y27 y28 y29 y30 y31 y32 y33 y34 y35 y36 y37 y38 y39 y40 y41 y42 y43 y44 y45 y46 y47 y48 y49 y50 y51 y52 y53 y54 y55 y56 y57 y58 y59 y60 y61 y62 y63 y64 y65 y66 y67 y68 y69 y70 y71 y72 y73 y74 y75 y76 y77 y78 y79 y80 y81 y82 y83 y84 y85 y86 y87 y88 y89 y90 y91 y92 y93 y94 y95 y96 y97 y98 y99 y100 y101 y102 y103 y104 y105 y106 y107 y108 y109 y110 y111 y112 y113 y114 y115 y116 y117 y118 y119 y120 y121 y122 y123 y124 y125 y126 y127 y128 y129 y130 y131 y132 y133 y134 y135 y136 y137 y138 y139 y140 y141 y142 y143 y144 y145 y146 y147 y148 y149 y150 y151 y152 y153 yK ya
            clear y16 y17 y18 y19 y20 y21 y22 y23 y24 y25 y26 y27 y28 y29 y30 y31 y32 y33 y34 y35 y36 y37 y38 y39 y40 y41 y42 y43 y44 y45 y46 y47 y48 y49 y50 y51 y52 y53 y54 y55 y56 y57 y58 y59 y60 y61 y62 y63 y64 y65 y66 y67 y68 y69 y70 y71 y72 y73 y74 y75 y76 y77 y78 y79 y80 y81 y82 y83 y84 y85 y86 y87 y88 y89 y90 y91 y92 y93 y94 y95 y96 y97 y98 y99 y100 y101 y102 y103 y104 y105 y106 y107 y108 y109 y110 y111 y112 y113 y114 y115 y116 y117 y118 y119 y120 y121 y122 y123 y124 y125 y126 y127 y128 y129 y130 y131 y132 y133 y134 y135 y136 y137 y138 y139 y140 y141 y142 y143 y144 y145 y146 y147 y148 y149 y150 y151 y152 y153
            clear x0 x1 x2 x3 x4 x5 x6
            obtain ⟨x0, x1, x2, x3, x4, x5, x6⟩ := op_cells (HXW.out _ hbx)
            go_upto_region 10 with fail
            go_cut [10] (fun v10 wx => v10 = .bool PD ∧ W1 = wx)
            case first =>
              go_wp2_with ((go_at_call 94; ((with_reducible refine (HAD.out _).mono ?_); rintro e1 w1 ⟨rfl, rfl⟩)))
              all_goals go_meet
              all_goals (refine ⟨congrArg Value.bool ?_, rfl⟩; rw [HPD.out]; simp)
            case rest =>
              obtain ⟨rfl, rfl⟩ := hcut
              clear HAD HPD TD
              rename_i y16 y17 y18 y19 y20 y21 y22 y23 y24 y25 y26 y27 y28 y29 y30 y31 y32 y33 y34 y35 y36 y37 y38 y39 y40 y41 y42 y43 y44 y45 y46 y47 y48 y49 y50 y51 y52 y53 y54 y55 y56 y57 y58 y59 y60 y61 y62 y63 y64 y65 y66 y67 y68 y69 y70 y71 y72 y73 y74 y75 y76 y77 y78 y79 y80 y81 y82 y83 y84 y85 y86 y87 y88 y89 y90 y91 y92 y93 y94 y95 y96 y97 y98 y99 y100 y101 y102 y103 y104 y105 y106 y107 y108 y109 y110 y111 y112 y113 y114 y115 y116 y117 y118 y119 y120 y121 y122 y123 y124 y125 y126 y127 y128 y129 y130 y131 y132 y133 y134 y135 y136 y137 y138 y139 y140 y141 y142 y143 y144 y145 y146 y147 y148 y149 y150 y151 y152 y153 yK ya
              clear y16 y17 y18 y19 y20 y21 y22 y23 y24 y25 y26 y27 y28 y29 y30 y31 y32 y33 y34 y35 y36 y37 y38 y39 y40 y41 y42 y43 y44 y45 y46 y47 y48 y49 y50 y51 y52 y53 y54 y55 y56 y57 y58 y59 y60 y61 y62 y63 y64 y65 y66 y67 y68 y69 y70 y71 y72 y73 y74 y75 y76 y77 y78 y79 y80 y81 y82 y83 y84 y85 y86 y87 y88 y89 y90 y91 y92 y93 y94 y95 y96 y97 y98 y99 y100 y101 y102 y103 y104 y105 y106 y107 y108 y109 y110 y111 y112 y113 y114 y115 y116 y117 y118 y119 y120 y121 y122 y123 y124 y125 y126 y127 y128 y129 y130 y131 y132 y133 y134 y135 y136 y137 y138 y139 y140 y141 y142 y143 y144 y145 y146 y147 y148 y149 y150 y151 y152 y153
              go_upto_region 11 with fail
              go_cut [11] (fun v11 wx => v11 = .bool PB ∧ W1 = wx)
              case first =>
                go_wp2_with ((go_at_call 94; ((with_reducible refine (HAB.out _).mono ?_); rintro e1 w1 ⟨rfl, rfl⟩)))
                all_goals go_meet
                all_goals (refine ⟨congrArg Value.bool ?_, rfl⟩; rw [HPB.out]; simp)
              case rest =>
                obtain ⟨rfl, rfl⟩ := hcut
                clear HAB HPB TB
                rename_i y16 y17 y18 y19 y20 y21 y22 y23 y24 y25 y26 y27 y28 y29 y30 y31 y32 y33 y34 y35 y36 y37 y38 y39 y40 y41 y42 y43 y44 y45 y46 y47 y48 y49 y50 y51 y52 y53 y54 y55 y56 y57 y58 y59 y60 y61 y62 y63 y64 y65 y66 y67 y68 y69 y70 y71 y72 y73 y74 y75 y76 y77 y78 y79 y80 y81 y82 y83 y84 y85 y86 y87 y88 y89 y90 y91 y92 y93 y94 y95 y96 y97 y98 y99 y100 y101 y102 y103 y104 y105 y106 y107 y108 y109 y110 y111 y112 y113 y114 y115 y116 y117 y118 y119 y120 y121 y122 y123 y124 y125 y126 y127 y128 y129 y130 y131 y132 y133 y134 y135 y136 y137 y138 y139 y140 y141 y142 y143 y144 y145 y146 y147 y148 y149 y150 y151 y152 y153 yK ya
                clear y16 y17 y18 y19 y20 y21 y22 y23 y24 y25 y26 y27 y28 y29 y30 y31 y32 y33 y34 y35 y36 y37 y38 y39 y40 y41 y42 y43 y44 y45 y46 y47 y48 y49 y50 y51 y52 y53 y54 y55 y56 y57 y58 y59 y60 y61 y62 y63 y64 y65 y66 y67 y68 y69 y70 y71 y72 y73 y74 y75 y76 y77 y78 y79 y80 y81 y82 y83 y84 y85 y86 y87 y88 y89 y90 y91 y92 y93 y94 y95 y96 y97 y98 y99 y100 y101 y102 y103 y104 y105 y106 y107 y108 y109 y110 y111 y112 y113 y114 y115 y116 y117 y118 y119 y120 y121 y122 y123 y124 y125 y126 y127 y128 y129 y130 y131 y132 y133 y134 y135 y136 y137 y138 y139 y140 y141 y142 y143 y144 y145 y146 y147 y148 y149 y150 y151 y152 y153
                go_upto_region 12 with fail
                have hcc := HCC.out W1 hbx
                have HBX := Lib.hid hbx
                have HBW := Lib.hid (HB.out.trans (hbx.mono HB.out.size))

                cases PA with
                | false =>
                  go_wp2
                  go_ret
                  exact ⟨ret_int (by rw [HR.out]; simp), HBW.out⟩
                | true =>
                  cases PK with
                  | false =>
                    go_wp2
                    go_ret
                    exact ⟨ret_int (by rw [HR.out]; simp), HBW.out⟩
                  | true =>
                    cases PM with
                    | false =>
                      go_wp2
                      go_ret
                      exact ⟨ret_int (by rw [HR.out]; simp), HBW.out⟩
                    | true =>
                      cases PX with
                      | false =>
                        go_wp2
                        go_ret
                        exact ⟨ret_int (by rw [HR.out]; simp), HBW.out⟩
                      | true =>
                        cases PC with
                        | false =>
                          go_wp2
                          go_ret
                          exact ⟨ret_int (by rw [HR.out]; simp), HBW.out⟩
                        | true =>
                          cases PD with
                          | false =>
                            go_wp2
                            go_ret
                            exact ⟨ret_int (by rw [HR.out]; simp), HBW.out⟩
                          | true =>
                            cases PB with
                            | false =>
                              go_wp2
                              go_ret
                              exact ⟨ret_int (by rw [HR.out]; simp), HBW.out⟩
                            | true =>
                              cases ze with
                              | true =>
                                go_wp2_with (first | (refine wpList_load_any rfl 51 (.tmp 116) rfl ⟨w.heap.size, 5, none⟩ rfl (callCells o.call v1) _ hcc Tryz.underlying51 rfl (by kernel_rfl) ?_) | (go_at_call 54; refine (H54.out _ hbx).mono ?_; rintro e1 w1 ⟨rfl, hbz⟩))
                                go_ret
                                exact ⟨ret_int (by rw [HR.out]; simp), HBW.out.trans (hbz.mono HBW.out.size)⟩
                              | false =>
                                go_upto_region 18 with (first | (refine wpList_load_any rfl 51 (.tmp 116) rfl ⟨w.heap.size, 5, none⟩ rfl (callCells o.call v1) _ hcc Tryz.underlying51 rfl (by kernel_rfl) ?_) | (go_at_call 54; refine (H54.out _ hbx).mono ?_; rintro e1 W2 ⟨rfl, hbz⟩))
                                have HBW2 := Lib.hid (HBW.out.trans (hbz.mono HBW.out.size))
                                clear x0 x1 x2 x3 x4 x5 x6 hcc
                                obtain ⟨x0, x1, x2, x3, x4, x5, x6⟩ := op_cells (HXW.out _ (hbx.trans (hbz.mono hbx.size)))
                                clear hbz hbx
                                go_cut [13] (fun v13 wx => v13 = .bool PS ∧ W2 = wx)
                                case first =>
                                  go_wp2_with ((go_at_call 94; ((with_reducible refine (HAT.out _).mono ?_); rintro e1 w1 ⟨rfl, rfl⟩)))
                                  all_goals go_meet
                                  all_goals (refine ⟨congrArg Value.bool ?_, rfl⟩; rw [HPS.out]; simp)
                                case rest =>
                                  obtain ⟨rfl, rfl⟩ := hcut
                                  clear HPS
                                  rename_i y16 y17 y18 y19 y20 y21 y22 y23 y24 y25 y26 y27 y28 y29 y30 y31 y32 y33 y34 y35 y36 y37 y38 y39 y40 y41 y42 y43 y44 y45 y46 y47 y48 y49 y50 y51 y52 y53 y54 y55 y56 y57 y58 y59 y60 y61 y62 y63 y64 y65 y66 y67 y68 y69 y70 y71 y72 y73 y74 y75 y76 y77 y78 y79 y80 y81 y82 y83 y84 y85 y86 y87 y88 y89 y90 y91 y92 y93 y94 y95 y96 y97 y98 y99 y100 y101 y102 y103 y104 y105 y106 y107 y108 y109 y110 y111 y112 y113 y114 y115 y116 y117 y118 y119 y120 y121 y122 y123 y124 y125 y126 y127 y128 y129 y130 y131 y132 y133 y134 y135 y136 y137 y138 y139 y140 y141 y142 y143 y144 y145 y146 y147 y148 y149 y150 y151 y152 y153 yK ya
                                  clear y16 y17 y18 y19 y20 y21 y22 y23 y24 y25 y26 y27 y28 y29 y30 y31 y32 y33 y34 y35 y36 y37 y38 y39 y40 y41 y42 y43 y44 y45 y46 y47 y48 y49 y50 y51 y52 y53 y54 y55 y56 y57 y58 y59 y60 y61 y62 y63 y64 y65 y66 y67 y68 y69 y70 y71 y72 y73 y74 y75 y76 y77 y78 y79 y80 y81 y82 y83 y84 y85 y86 y87 y88 y89 y90 y91 y92 y93 y94 y95 y96 y97 y98 y99 y100 y101 y102 y103 y104 y105 y106 y107 y108 y109 y110 y111 y112 y113 y114 y115 y116 y117 y118 y119 y120 y121 y122 y123 y124 y125 y126 y127 y128 y129 y130 y131 y132 y133 y134 y135 y136 y137 y138 y139 y140 y141 y142 y143 y144 y145 y146 y147 y148 y149 y150 y151 y152 y153
                                  go_upto_region 19 with fail
                                  go_cut [14] (fun v14 wx => v14 = .bool QA ∧ W2 = wx)
                                  case first =>
                                    cases PS with
                                    | false =>
                                      go_wp2_with ((go_at_call 49; ((with_reducible refine (HNa.out _).mono ?_); rintro e1 w1 ⟨rfl, rfl⟩)))
                                      all_goals go_meet
                                      all_goals (refine ⟨congrArg Value.bool ?_, rfl⟩; rw [HQA.out]; simp)
                                    | true =>
                                      go_wp2_with ((go_at_call 49; ((with_reducible refine (HNa.out _).mono ?_); rintro e1 w1 ⟨rfl, rfl⟩)))
                                      all_goals go_meet
                                      all_goals (refine ⟨congrArg Value.bool ?_, rfl⟩; rw [HQA.out]; simp)
                                  case rest =>
                                    obtain ⟨rfl, rfl⟩ := hcut
                                    clear HQA
                                    rename_i y16 y17 y18 y19 y20 y21 y22 y23 y24 y25 y26 y27 y28 y29 y30 y31 y32 y33 y34 y35 y36 y37 y38 y39 y40 y41 y42 y43 y44 y45 y46 y47 y48 y49 y50 y51 y52 y53 y54 y55 y56 y57 y58 y59 y60 y61 y62 y63 y64 y65 y66 y67 y68 y69 y70 y71 y72 y73 y74 y75 y76 y77 y78 y79 y80 y81 y82 y83 y84 y85 y86 y87 y88 y89 y90 y91 y92 y93 y94 y95 y96 y97 y98 y99 y100 y101 y102 y103 y104 y105 y106 y107 y108 y109 y110 y111 y112 y113 y114 y115 y116 y117 y118 y119 y120 y121 y122 y123 y124 y125 y126 y127 y128 y129 y130 y131 y132 y133 y134 y135 y136 y137 y138 y139 y140 y141 y142 y143 y144 y145 y146 y147 y148 y149 y150 y151 y152 y153 yK ya
                                    clear y16 y17 y18 y19 y20 y21 y22 y23 y24 y25 y26 y27 y28 y29 y30 y31 y32 y33 y34 y35 y36 y37 y38 y39 y40 y41 y42 y43 y44 y45 y46 y47 y48 y49 y50 y51 y52 y53 y54 y55 y56 y57 y58 y59 y60 y61 y62 y63 y64 y65 y66 y67 y68 y69 y70 y71 y72 y73 y74 y75 y76 y77 y78 y79 y80 y81 y82 y83 y84 y85 y86 y87 y88 y89 y90 y91 y92 y93 y94 y95 y96 y97 y98 y99 y100 y101 y102 y103 y104 y105 y106 y107 y108 y109 y110 y111 y112 y113 y114 y115 y116 y117 y118 y119 y120 y121 y122 y123 y124 y125 y126 y127 y128 y129 y130 y131 y132 y133 y134 y135 y136 y137 y138 y139 y140 y141 y142 y143 y144 y145 y146 y147 y148 y149 y150 y151 y152 y153
                                    go_upto_region 20 with fail
                                    go_cut [15] (fun v15 wx => v15 = .bool QK ∧ W2 = wx)
                                    case first =>
                                      cases nk with
                                      | false =>
                                        go_wp2_with (first | (go_at_call 49; ((with_reducible refine (HNk.out _).mono ?_); rintro e1 w1 ⟨rfl, rfl⟩)) | (go_at_call 49; ((with_reducible refine (HNm.out _).mono ?_); rintro e1 w1 ⟨rfl, rfl⟩)) | (go_at_call 49; ((with_reducible refine (HNx.out _).mono ?_); rintro e1 w1 ⟨rfl, rfl⟩)))
                                        all_goals go_meet
                                        all_goals (refine ⟨congrArg Value.bool ?_, rfl⟩; rw [HQK.out]; simp)
                                      | true =>
                                        cases nm with
                                        | false =>
                                          go_wp2_with (first | (go_at_call 49; ((with_reducible refine (HNk.out _).mono ?_); rintro e1 w1 ⟨rfl, rfl⟩)) | (go_at_call 49; ((with_reducible refine (HNm.out _).mono ?_); rintro e1 w1 ⟨rfl, rfl⟩)) | (go_at_call 49; ((with_reducible refine (HNx.out _).mono ?_); rintro e1 w1 ⟨rfl, rfl⟩)))
                                          all_goals go_meet
                                          all_goals (refine ⟨congrArg Value.bool ?_, rfl⟩; rw [HQK.out]; simp)
                                        | true =>
                                          go_wp2_with (first | (go_at_call 49; ((with_reducible refine (HNk.out _).mono ?_); rintro e1 w1 ⟨rfl, rfl⟩)) | (go_at_call 49; ((with_reducible refine (HNm.out _).mono ?_); rintro e1 w1 ⟨rfl, rfl⟩)) | (go_at_call 49; ((with_reducible refine (HNx.out _).mono ?_); rintro e1 w1 ⟨rfl, rfl⟩)))
                                          all_goals go_meet
                                          all_goals (refine ⟨congrArg Value.bool ?_, rfl⟩; rw [HQK.out]; simp)
                                    case rest =>
                                      obtain ⟨rfl, rfl⟩ := hcut
                                      clear HQK
                                      rename_i y16 y17 y18 y19 y20 y21 y22 y23 y24 y25 y26 y27 y28 y29 y30 y31 y32 y33 y34 y35 y36 y37 y38 y39 y40 y41 y42 y43 y44 y45 y46 y47 y48 y49 y50 y51 y52 y53 y54 y55 y56 y57 y58 y59 y60 y61 y62 y63 y64 y65 y66 y67 y68 y69 y70 y71 y72 y73 y74 y75 y76 y77 y78 y79 y80 y81 y82 y83 y84 y85 y86 y87 y88 y89 y90 y91 y92 y93 y94 y95 y96 y97 y98 y99 y100 y101 y102 y103 y104 y105 y106 y107 y108 y109 y110 y111 y112 y113 y114 y115 y116 y117 y118 y119 y120 y121 y122 y123 y124 y125 y126 y127 y128 y129 y130 y131 y132 y133 y134 y135 y136 y137 y138 y139 y140 y141 y142 y143 y144 y145 y146 y147 y148 y149 y150 y151 y152 y153 yK ya
                                      clear y16 y17 y18 y19 y20 y21 y22 y23 y24 y25 y26 y27 y28 y29 y30 y31 y32 y33 y34 y35 y36 y37 y38 y39 y40 y41 y42 y43 y44 y45 y46 y47 y48 y49 y50 y51 y52 y53 y54 y55 y56 y57 y58 y59 y60 y61 y62 y63 y64 y65 y66 y67 y68 y69 y70 y71 y72 y73 y74 y75 y76 y77 y78 y79 y80 y81 y82 y83 y84 y85 y86 y87 y88 y89 y90 y91 y92 y93 y94 y95 y96 y97 y98 y99 y100 y101 y102 y103 y104 y105 y106 y107 y108 y109 y110 y111 y112 y113 y114 y115 y116 y117 y118 y119 y120 y121 y122 y123 y124 y125 y126 y127 y128 y129 y130 y131 y132 y133 y134 y135 y136 y137 y138 y139 y140 y141 y142 y143 y144 y145 y146 y147 y148 y149 y150 y151 y152 y153
                                      cases QA with
                                      | false =>
                                        go_wp2
                                        go_ret
                                        exact ⟨ret_int (by rw [HR.out]; simp), HBW2.out⟩
                                      | true =>
                                        cases QK with
                                        | false =>
                                          go_wp2
                                          go_ret
                                          exact ⟨ret_int (by rw [HR.out]; simp), HBW2.out⟩
                                        | true =>
                                          go_wp2
                                          go_ret
                                          exact ⟨ret_int (by rw [HR.out]; simp), HBW2.out⟩
theorem ropErr_any (o : Sp.Op) (v1 v2 v3 : Value) (w : World) (he : EnvP w) (ho : OpV w o v1 v2 v3) (hb : OpB o) :
    Calls Tryz.prog 51 #[.agg (opCells o v1 v2 v3).toArray] w (BRet w (.int .i64 (Sp.errO o : Nat))) := by
  by_cases hop : o.kind < 1 ∨ 15 ≤ o.kind
  · exact ropErr_z1 o v1 v2 v3 w he ho hb hop trivial
  · by_cases h : o.kind = 1
    · exact ropErr_b1 o v1 v2 v3 w he ho hb hop h
    · cases hk : Sp.okO o.kind.toNat (Sp.formsR.getD o.kind.toNat []) o with
      | true => exact ropErr_c1 o v1 v2 v3 w he ho hb hop ⟨h, hk⟩
      | false => exact ropErr_d1 o v1 v2 v3 w he ho hb hop ⟨h, hk⟩
end Go.Proofs.YthnhfddlmkhgkaaGreatDoor

/- Walks: what some functions of the play package and its laws compute, as contracts. -/
import Derived.Test.YthnhfddlmkhgkaaGreatDoorZWriteA
import Derived.Test.YthnhfddlmkhgkaaGreatDoorZRefAll
set_option linter.unusedVariables false
namespace Go.Proofs.YthnhfddlmkhgkaaGreatDoor
open Go.RowKit Go.Proofs.YthnhfddlmkhgkaaGreatDoorW.PrintWords

/-- the nine cells of a call's box -/
theorem call_all {w : World} {g : Nat} {c : Sp.Call} {v : Value} (h : w.heap[g]? = some (.cells (callCells c v).toArray 51 (0, 0))) :
    w.cell? ⟨g, 0, none⟩ = some (.int .i64 c.op) ∧ w.cell? ⟨g, 1, none⟩ = some (.int .i64 c.h) ∧ w.cell? ⟨g, 2, none⟩ = some (.int .i64 c.h2) ∧ w.cell? ⟨g, 3, none⟩ = some (.int .i64 c.off) ∧ w.cell? ⟨g, 4, none⟩ = some (.int .i64 c.len) ∧
    w.cell? ⟨g, 5, none⟩ = some (.string (str c.path)) ∧ w.cell? ⟨g, 6, none⟩ = some (.string (str c.name)) ∧ w.cell? ⟨g, 7, none⟩ = some (.string (str c.name2)) ∧ w.cell? ⟨g, 8, none⟩ = some v := by
  refine ⟨?_, ?_, ?_, ?_, ?_, ?_, ?_, ?_, ?_⟩
  all_goals rw [cell_of_row _ _ _ _ _ _ h]; rfl
theorem empty_dec (l : Sp.Bs) : (str l).toList.isEmpty = decide (l = []) := by
  rw [Lib.toList_data]
  cases l with
  | nil => rfl
  | cons a b => rfl
theorem len_dec (l : Sp.Bs) : ((l.length : Int) == 0) = decide (l = []) := by
  cases l with
  | nil => rfl
  | cons a b => rw [decide_eq_false (by simp), beq_eq_false_iff_ne, List.length_cons]; omega
theorem int_dec (x : Int) : (x == 0) = decide (x = 0) := by rw [Bool.eq_iff_iff]; simp
set_option maxHeartbeats 8000000 in
set_option maxRecDepth 100000 in
theorem rcallErr_any (c : Sp.Call) (va : Value) (w : World) (he : EnvR w) (hc : CallV w c va) :
    Calls Tryz.prog 54 #[.agg (callCells c va).toArray] w (BRet w (.int .i64 (Sp.errC c : Nat))) := by
  obtain ⟨A, ka, rfl, hra⟩ := hc
  clear hra
  obtain ⟨W0, hW0⟩ : ∃ W0, W0 = w.alloc (.cells #[.int .i64 c.op, .int .i64 c.h, .int .i64 c.h2, .int .i64 c.off, .int .i64 c.len, .string (str c.path), .string (str c.name), .string (str c.name2), .slice A c.data.length ka] 51) := ⟨_, rfl⟩
  have hB0 : Below w.heap.size w W0 := by rw [hW0]; exact (Below.refl _ _).alloc (Nat.le_refl _) _
  have hX0 : W0.heap[w.heap.size]? = some (.cells (callCells c (.slice A c.data.length ka)).toArray 51 (0, 0)) := by rw [hW0]; exact heap_alloc_new w _
  have HB := Lib.hid hB0
  show Calls Tryz.prog 54 #[.agg #[.int .i64 c.op, .int .i64 c.h, .int .i64 c.h2, .int .i64 c.off, .int .i64 c.len, .string (str c.path), .string (str c.name), .string (str c.name2), .slice A c.data.length ka]] w _
  by_cases hop : c.op < 1 ∨ 11 ≤ c.op
  · obtain ⟨R, hR⟩ : ∃ R : Nat, R = Sp.errC c := ⟨_, rfl⟩
    rw [← hR]
    unfold Sp.errC at hR
    rw [if_pos hop] at hR
    have HR : Hid ((212 : Int) = (R : Int)) := Lib.hid (by rw [hR]; rfl)
    have x0 := (call_all hX0).1
    rw [hW0] at x0
    clear hX0 hB0 hR he
    rcases hop with h | h
    all_goals
      go_enter Tryz.func54, Tryz.ntmps54
      go_wp2
      go_ret
      rw [hW0] at HB
      exact ⟨ret_int HR.out, HB.out⟩
  obtain ⟨op, hopn⟩ : ∃ n : Nat, c.op = n := ⟨c.op.toNat, by omega⟩
  have h0 : 0 < op := by omega
  have h11 : op < 11 := by omega
  obtain ⟨f, hf⟩ : ∃ f, f = Sp.cformsR.getD op [] := ⟨_, rfl⟩
  have hfl : f.length ≤ 4 := by rw [hf, rform_len op h11]; exact lenCall_le op
  have hcf : W0.cell? ⟨4, op, none⟩ = some (.string (str f)) := by rw [hf]; exact col_cell gCForms (he.below hB0).cforms op (by have : Sp.cformsR.length = 11 := rfl; omega)
  have HA : Hid (∀ (l : UInt8) (L : Int), L = (l.toNat : Int) → Calls Tryz.prog 94 #[.string (str f), .int .u8 L] W0 (SRet W0 (.bool (f.contains l)))) := Lib.hid (fun l L h => rasked_any f l L h W0 (by omega))
  obtain ⟨R, hR⟩ : ∃ R : Nat, R = Sp.errC c := ⟨_, rfl⟩
  rw [← hR]
  unfold Sp.errC at hR
  rw [if_neg hop, show c.op.toNat = op by omega, ← hf] at hR
  unfold Sp.okC Sp.small at hR
  simp only [List.all_cons, List.all_nil, Bool.and_true] at hR
  obtain ⟨ap, hap⟩ : ∃ a, a = f.contains 112 := ⟨_, rfl⟩
  obtain ⟨zp, hzp⟩ : ∃ a, a = decide (c.path = []) := ⟨_, rfl⟩
  have HAp : Hid (Calls Tryz.prog 94 #[.string (str f), .int .u8 112] W0 (SRet W0 (.bool ap))) := Lib.hid (by rw [hap]; exact HA.out 112 112 rfl)
  have Tp : (str c.path).toList.isEmpty = zp := by rw [hzp]; exact empty_dec _
  obtain ⟨Pp, hPp⟩ : ∃ a, a = (ap || zp) := ⟨_, rfl⟩
  rw [← hap, ← hzp, ← hPp] at hR
  have HPp := Lib.hid hPp
  clear hap hzp hPp
  obtain ⟨an, han⟩ : ∃ a, a = f.contains 110 := ⟨_, rfl⟩
  obtain ⟨zn, hzn⟩ : ∃ a, a = decide (c.name = []) := ⟨_, rfl⟩
  have HAn : Hid (Calls Tryz.prog 94 #[.string (str f), .int .u8 110] W0 (SRet W0 (.bool an))) := Lib.hid (by rw [han]; exact HA.out 110 110 rfl)
  have Tn : (str c.name).toList.isEmpty = zn := by rw [hzn]; exact empty_dec _
  obtain ⟨Pn, hPn⟩ : ∃ a, a = (an || zn) := ⟨_, rfl⟩
  rw [← han, ← hzn, ← hPn] at hR
  have HPn := Lib.hid hPn
  clear han hzn hPn
  obtain ⟨am, ham⟩ : ∃ a, a = f.contains 109 := ⟨_, rfl⟩
  obtain ⟨zm, hzm⟩ : ∃ a, a = decide (c.name2 = []) := ⟨_, rfl⟩
  have HAm : Hid (Calls Tryz.prog 94 #[.string (str f), .int .u8 109] W0 (SRet W0 (.bool am))) := Lib.hid (by rw [ham]; exact HA.out 109 109 rfl)
  have Tm : (str c.name2).toList.isEmpty = zm := by rw [hzm]; exact empty_dec _
  obtain ⟨Pm, hPm⟩ : ∃ a, a = (am || zm) := ⟨_, rfl⟩
  rw [← ham, ← hzm, ← hPm] at hR
  have HPm := Lib.hid hPm
  clear ham hzm hPm
  obtain ⟨ad, had⟩ : ∃ a, a = f.contains 100 := ⟨_, rfl⟩
  obtain ⟨zd, hzd⟩ : ∃ a, a = decide (c.data = []) := ⟨_, rfl⟩
  have HAd : Hid (Calls Tryz.prog 94 #[.string (str f), .int .u8 100] W0 (SRet W0 (.bool ad))) := Lib.hid (by rw [had]; exact HA.out 100 100 rfl)
  have Td : ((c.data.length : Int) == 0) = zd := by rw [hzd]; exact len_dec _
  obtain ⟨Pd, hPd⟩ : ∃ a, a = (ad || zd) := ⟨_, rfl⟩
  rw [← had, ← hzd, ← hPd] at hR
  have HPd := Lib.hid hPd
  clear had hzd hPd
  obtain ⟨ah, hah⟩ : ∃ a, a = f.contains 104 := ⟨_, rfl⟩
  obtain ⟨zh, hzh⟩ : ∃ a, a = decide (c.h = 0) := ⟨_, rfl⟩
  have HAh : Hid (Calls Tryz.prog 94 #[.string (str f), .int .u8 104] W0 (SRet W0 (.bool ah))) := Lib.hid (by rw [hah]; exact HA.out 104 104 rfl)
  have Th : (c.h == 0) = zh := by rw [hzh]; exact int_dec _
  obtain ⟨Ph, hPh⟩ : ∃ a, a = (ah || zh) := ⟨_, rfl⟩
  rw [← hah, ← hzh, ← hPh] at hR
  have HPh := Lib.hid hPh
  clear hah hzh hPh
  obtain ⟨ag, hag⟩ : ∃ a, a = f.contains 103 := ⟨_, rfl⟩
  obtain ⟨zg, hzg⟩ : ∃ a, a = decide (c.h2 = 0) := ⟨_, rfl⟩
  have HAg : Hid (Calls Tryz.prog 94 #[.string (str f), .int .u8 103] W0 (SRet W0 (.bool ag))) := Lib.hid (by rw [hag]; exact HA.out 103 103 rfl)
  have Tg : (c.h2 == 0) = zg := by rw [hzg]; exact int_dec _
  obtain ⟨Pg, hPg⟩ : ∃ a, a = (ag || zg) := ⟨_, rfl⟩
  rw [← hag, ← hzg, ← hPg] at hR
  have HPg := Lib.hid hPg
  clear hag hzg hPg
  obtain ⟨ao, hao⟩ : ∃ a, a = f.contains 111 := ⟨_, rfl⟩
  obtain ⟨zo, hzo⟩ : ∃ a, a = decide (c.off = 0) := ⟨_, rfl⟩
  have HAo : Hid (Calls Tryz.prog 94 #[.string (str f), .int .u8 111] W0 (SRet W0 (.bool ao))) := Lib.hid (by rw [hao]; exact HA.out 111 111 rfl)
  have To : (c.off == 0) = zo := by rw [hzo]; exact int_dec _
  obtain ⟨Po, hPo⟩ : ∃ a, a = (ao || zo) := ⟨_, rfl⟩
  rw [← hao, ← hzo, ← hPo] at hR
  have HPo := Lib.hid hPo
  clear hao hzo hPo
  obtain ⟨al, hal⟩ : ∃ a, a = f.contains 108 := ⟨_, rfl⟩
  obtain ⟨zl, hzl⟩ : ∃ a, a = decide (c.len = 0) := ⟨_, rfl⟩
  have HAl : Hid (Calls Tryz.prog 94 #[.string (str f), .int .u8 108] W0 (SRet W0 (.bool al))) := Lib.hid (by rw [hal]; exact HA.out 108 108 rfl)
  have Tl : (c.len == 0) = zl := by rw [hzl]; exact int_dec _
  obtain ⟨Pl, hPl⟩ : ∃ a, a = (al || zl) := ⟨_, rfl⟩
  rw [← hal, ← hzl, ← hPl] at hR
  have HPl := Lib.hid hPl
  clear hal hzl hPl
  obtain ⟨nh, hnh⟩ : ∃ a, a = decide (0 ≤ c.h ∧ c.h ≤ Sp.most) := ⟨_, rfl⟩
  have HNh : Hid (Calls Tryz.prog 49 #[.int .i64 c.h] W0 (SRet W0 (.bool nh))) := Lib.hid (by rw [hnh]; exact rnumOk_any _ W0)
  rw [← hnh] at hR
  clear hnh
  obtain ⟨ng, hng⟩ : ∃ a, a = decide (0 ≤ c.h2 ∧ c.h2 ≤ Sp.most) := ⟨_, rfl⟩
  have HNg : Hid (Calls Tryz.prog 49 #[.int .i64 c.h2] W0 (SRet W0 (.bool ng))) := Lib.hid (by rw [hng]; exact rnumOk_any _ W0)
  rw [← hng] at hR
  clear hng
  obtain ⟨no, hno⟩ : ∃ a, a = decide (0 ≤ c.off ∧ c.off ≤ Sp.most) := ⟨_, rfl⟩
  have HNo : Hid (Calls Tryz.prog 49 #[.int .i64 c.off] W0 (SRet W0 (.bool no))) := Lib.hid (by rw [hno]; exact rnumOk_any _ W0)
  rw [← hno] at hR
  clear hno
  obtain ⟨nl, hnl⟩ : ∃ a, a = decide (0 ≤ c.len ∧ c.len ≤ Sp.most) := ⟨_, rfl⟩
  have HNl : Hid (Calls Tryz.prog 49 #[.int .i64 c.len] W0 (SRet W0 (.bool nl))) := Lib.hid (by rw [hnl]; exact rnumOk_any _ W0)
  rw [← hnl] at hR
  clear hnl
  have HR := Lib.hid hR
  obtain ⟨x0, x1, x2, x3, x4, x5, x6, x7, x8⟩ := call_all hX0
  rw [hopn] at x0
  have q1 : (0 : Int) ≤ (op : Int) ∧ (op : Int) < 11 := ⟨by omega, by omega⟩
  have t1 : decide ((op : Int) < 1) = false := decide_eq_false (by omega)
  have t2 : decide (10 < (op : Int)) = false := decide_eq_false (by omega)
  rw [hopn] at hW0
  rw [hopn]
  clear HA hR hop hX0 hB0 he hf
  go_enter Tryz.func54, Tryz.ntmps54
  go_upto_region 1 with fail
  rw [← hW0]
  clear hW0
  go_upto_region 4 with fail
  go_cut [4] (fun v4 wx => v4 = .bool Pp ∧ W0 = wx)
  case first =>
    go_wp2_with (go_at_call 94; refine HAp.out.mono ?_; rintro e w1 ⟨rfl, rfl⟩)
    all_goals go_meet
    all_goals (refine ⟨congrArg Value.bool ?_, rfl⟩; rw [HPp.out]; first | simp [show ap = true by first | assumption | exact Bool.not_eq_false _ ▸ (by assumption)] | simp [show ap = false by first | assumption | exact Bool.eq_false_iff.2 (by assumption)])
  case rest =>
    obtain ⟨rfl, rfl⟩ := hcut
    clear HAp HPp Tp
    go_upto_region 5 with fail
    go_cut [5] (fun v5 wx => v5 = .bool Pn ∧ W0 = wx)
    case first =>
      go_wp2_with (go_at_call 94; refine HAn.out.mono ?_; rintro e w1 ⟨rfl, rfl⟩)
      all_goals go_meet
      all_goals (refine ⟨congrArg Value.bool ?_, rfl⟩; rw [HPn.out]; first | simp [show an = true by first | assumption | exact Bool.not_eq_false _ ▸ (by assumption)] | simp [show an = false by first | assumption | exact Bool.eq_false_iff.2 (by assumption)])
    case rest =>
      obtain ⟨rfl, rfl⟩ := hcut
      clear HAn HPn Tn
      rename_i y16 y17 y18 y19 y20 y21 y22 y23 y24 y25 y26 y27 y28 y29 y30 y31 y32 y33 y34 y35 y36 y37 y38 y39 y40 y41 y42 y43 y44 y45 y46 y47 y48 y49 y50 y51 y52 y53 y54 y55 y56 y57 y58 y59 y60 y61 y62 y63 y64 y65 y66 y67 y68 y69 y70 y71 y72 y73 y74 y75 y76 y77 y78 y79 y80 y81 y82 y83 y84 y85 y86 y87 y88 y89 y90 y91 y92 y93 y94 y95 y96 y97 y98 y99 y100 y101 y102 y103 y104 y105 y106 y107 y108 y109 y110 y111 y112 y113 y114 y115 y116 y117 y118 y119 y120 y121 y122 y123 y124 y125 y126 y127 y128 y129 y130 y131 y132 y133 y134 y135 y136 y137 y138 y139 y140 yK ya
      clear y16 y17 y18 y19 y20 y21 y22 y23 y24 y25 y26 y27 y28 y29 y30 y31 y32 y33 y34 y35 y36 y37 y38 y39 y40 y41 y42 y43 y44 y45 y46 y47 y48 y49 y50 y51 y52 y53 y54 y55 y56 y57 y58 y59 y60 y61 y62 y63 y64 y65 y66 y67 y68 y69 y70 y71 y72 y73 y74 y75 y76 y77 y78 y79 y80 y81 y82 y83 y84 y85 y86 y87 y88 y89 y90 y91 y92 y93 y94 y95 y96 y97 y98 y99 y100 y101 y102 y103 y104 y105 y106 y107 y108 y109 y110 y111 y112 y113 y114 y115 y116 y117 y118 y119 y120 y121 y122 y123 y124 y125 y126 y127 y128 y129 y130 y131 y132 y133 y134 y135 y136 y137 y138 y139 y140
      go_upto_region 6 with fail
      go_cut [6] (fun v6 wx => v6 = .bool Pm ∧ W0 = wx)
      case first =>
        go_wp2_with (go_at_call 94; refine HAm.out.mono ?_; rintro e w1 ⟨rfl, rfl⟩)
        all_goals go_meet
        all_goals (refine ⟨congrArg Value.bool ?_, rfl⟩; rw [HPm.out]; first | simp [show am = true by first | assumption | exact Bool.not_eq_false _ ▸ (by assumption)] | simp [show am = false by first | assumption | exact Bool.eq_false_iff.2 (by assumption)])
      case rest =>
        obtain ⟨rfl, rfl⟩ := hcut
        clear HAm HPm Tm
        rename_i y16 y17 y18 y19 y20 y21 y22 y23 y24 y25 y26 y27 y28 y29 y30 y31 y32 y33 y34 y35 y36 y37 y38 y39 y40 y41 y42 y43 y44 y45 y46 y47 y48 y49 y50 y51 y52 y53 y54 y55 y56 y57 y58 y59 y60 y61 y62 y63 y64 y65 y66 y67 y68 y69 y70 y71 y72 y73 y74 y75 y76 y77 y78 y79 y80 y81 y82 y83 y84 y85 y86 y87 y88 y89 y90 y91 y92 y93 y94 y95 y96 y97 y98 y99 y100 y101 y102 y103 y104 y105 y106 y107 y108 y109 y110 y111 y112 y113 y114 y115 y116 y117 y118 y119 y120 y121 y122 y123 y124 y125 y126 y127 y128 y129 y130 y131 y132 y133 y134 y135 y136 y137 y138 y139 y140 yK ya
        clear y16 y17 y18 y19 y20 y21 y22 y23 y24 y25 y26 y27 y28 y29 y30 y31 y32 y33 y34 y35 y36 y37 y38 y39 y40 y41 y42 y43 y44 y45 y46 y47 y48 y49 y50 y51 y52 y53 y54 y55 y56 y57 y58 y59 y60 y61 y62 y63 y64 y65 y66 y67 y68 y69 y70 y71 y72 y73 y74 y75 y76 y77 y78 y79 y80 y81 y82 y83 y84 y85 y86 y87 y88 y89 y90 y91 y92 y93 y94 y95 y96 y97 y98 y99 y100 y101 y102 y103 y104 y105 y106 y107 y108 y109 y110 y111 y112 y113 y114 y115 y116 y117 y118 y119 y120 y121 y122 y123 y124 y125 y126 y127 y128 y129 y130 y131 y132 y133 y134 y135 y136 y137 y138 y139 y140
        go_upto_region 7 with fail
        go_cut [7] (fun v7 wx => v7 = .bool Pd ∧ W0 = wx)
        case first =>
          go_wp2_with (go_at_call 94; refine HAd.out.mono ?_; rintro e w1 ⟨rfl, rfl⟩)
          all_goals go_meet
          all_goals (refine ⟨congrArg Value.bool ?_, rfl⟩; rw [HPd.out]; first | simp [show ad = true by first | assumption | exact Bool.not_eq_false _ ▸ (by assumption)] | simp [show ad = false by first | assumption | exact Bool.eq_false_iff.2 (by assumption)])
        case rest =>
          obtain ⟨rfl, rfl⟩ := hcut
          clear HAd HPd Td
          rename_i y16 y17 y18 y19 y20 y21 y22 y23 y24 y25 y26 y27 y28 y29 y30 y31 y32 y33 y34 y35 y36 y37 y38 y39 y40 y41 y42 y43 y44 y45 y46 y47 y48 y49 y50 y51 y52 y53 y54 y55 y56 y57 y58 y59 y60 y61 y62 y63 y64 y65 y66 y67 y68 y69 y70 y71 y72 y73 y74 y75 y76 y77 y78 y79 y80 y81 y82 y83 y84 y85 y86 y87 y88 y89 y90 y91 y92 y93 y94 y95 y96 y97 y98 y99 y100 y101 y102 y103 y104 y105 y106 y107 y108 y109 y110 y111 y112 y113 y114 y115 y116 y117 y118 y119 y120 y121 y122 y123 y124 y125 y126 y127 y128 y129 y130 y131 y132 y133 y134 y135 y136 y137 y138 y139 y140 yK ya
          clear y16 y17 y18 y19 y20 y21 y22 y23 y24 y25 y26 y27 y28 y29 y30 y31 y32 y33 y34 y35 y36 y37 y38 y39 y40 y41 y42 y43 y44 y45 y46 y47 y48 y49 y50 y51 y52 y53 y54 y55 y56 y57 y58 y59 y60 y61 y62 y63 y64 y65 y66 y67 y68 y69 y70 y71 y72 y73 y74 y75 y76 y77 y78 y79 y80 y81 y82 y83 y84 y85 y86 y87 y88 y89 y90 y91 y92 y93 y94 y95 y96 y97 y98 y99 y100 y101 y102 y103 y104 y105 y106 y107 y108 y109 y110 y111 y112 y113 y114 y115 y116 y117 y118 y119 y120 y121 y122 y123 y124 y125 y126 y127 y128 y129 y130 y131 y132 y133 y134 y135 y136 y137 y138 y139 y140
          go_upto_region 8 with fail
          go_cut [8] (fun v8 wx => v8 = .bool Ph ∧ W0 = wx)
          case first =>
            go_wp2_with (go_at_call 94; refine HAh.out.mono ?_; rintro e w1 ⟨rfl, rfl⟩)
            all_goals go_meet
            all_goals (refine ⟨congrArg Value.bool ?_, rfl⟩; rw [HPh.out]; first | simp [show ah = true by first | assumption | exact Bool.not_eq_false _ ▸ (by assumption)] | simp [show ah = false by first | assumption | exact Bool.eq_false_iff.2 (by assumption)])
          case rest =>
            obtain ⟨rfl, rfl⟩ := hcut
            clear HAh HPh Th
            rename_i y16 y17 y18 y19 y20 y21 y22 y23 y24 y25 y26 y27 y28 y29 y30 y31 y32 y33 y34 y35 y36 y37 y38 y39 y40 y41 y42 y43 y44 y45 y46 y47 y48 y49 y50 y51 y52 y53 y54 y55 y56 y57 y58 y59 y60 y61 y62 y63 y64 y65 y66 y67 y68 y69 y70 y71 y72 y73 y74 y75 y76 y77 y78 y79 y80 y81 y82 y83 y84 y85 y86 y87 y88 y89 y90 y91 y92 y93 y94 y95 y96 y97 y98 y99 y100 y101 y102 y103 y104 y105 y106 y107 y108 y109 y110 y111 y112 y113 y114 y115 y116 y117 y118 y119 y120 y121 y122 y123 y124 y125 y126 y127 y128 y129 y130 y131 y132 y133 y134 y135 y136 y137 y138 y139 y140 yK ya
            clear y16 y17 y18 y19 y20 y21 y22 y23 y24 y25 y26 y27 y28 y29 y30 y31 y32 y33 y34 y35 y36 y37 y38 y39 y40 y41 y42 y43 y44 y45 y46 y47 y48 y49 y50 y51 y52 y53 y54 y55 y56 y57 y58 y59 y60 y61 y62 y63 y64 y65 y66 y67 y68 y69 y70 y71 y72 y73 y74 y75 y76 y77 y78 y79 y80 y81 y82 y83 y84 y85 y86 y87 y88 y89 y90 y91 y92 y93 y94 y95 y96 y97 y98 y99 y100 y101 y102 y103 y104 y105 y106 y107 y108 y109 y110 y111 y112 y113 y114 y115 y116 y117 y118 y119 y120 y121 y122 y123 y124 y125 y126 y127 y128 y129 y130 y131 y132 y133 y134 y135 y136 y137 y138 y139 y140
            go_upto_region 9 with fail
            go_cut [9] (fun v9 wx => v9 = .bool Pg ∧ W0 = wx)
            case first =>
              go_wp2_with (go_at_call 94; refine HAg.out.mono ?_; rintro e w1 ⟨rfl, rfl⟩)
              all_goals go_meet
              all_goals (refine ⟨congrArg Value.bool ?_, rfl⟩; rw [HPg.out]; first | simp [show ag = true by first | assumption | exact Bool.not_eq_false _ ▸ (by assumption)] | simp [show ag = false by first | assumption | exact Bool.eq_false_iff.2 (by assumption)])
            case rest =>
              obtain ⟨rfl, rfl⟩ := hcut
              clear HAg HPg Tg
              rename_i y16 y17 y18 y19 y20 y21 y22 y23 y24 y25 y26 y27 y28 y29 y30 y31 y32 y33 y34 y35 y36 y37 y38 y39 y40 y41 y42 y43 y44 y45 y46 y47 y48 y49 y50 y51 y52 y53 y54 y55 y56 y57 y58 y59 y60 y61 y62 y63 y64 y65 y66 y67 y68 y69 y70 y71 y72 y73 y74 y75 y76 y77 y78 y79 y80 y81 y82 y83 y84 y85 y86 y87 y88 y89 y90 y91 y92 y93 y94 y95 y96 y97 y98 y99 y100 y101 y102 y103 y104 y105 y106 y107 y108 y109 y110 y111 y112 y113 y114 y115 y116 y117 y118 y119 y120 y121 y122 y123 y124 y125 y126 y127 y128 y129 y130 y131 y132 y133 y134 y135 y136 y137 y138 y139 y140 yK ya
              clear y16 y17 y18 y19 y20 y21 y22 y23 y24 y25 y26 y27 y28 y29 y30 y31 y32 y33 y34 y35 y36 y37 y38 y39 y40 y41 y42 y43 y44 y45 y46 y47 y48 y49 y50 y51 y52 y53 y54 y55 y56 y57 y58 y59 y60 y61 y62 y63 y64 y65 y66 y67 y68 y69 y70 y71 y72 y73 y74 y75 y76 y77 y78 y79 y80 y81 y82 y83 y84 y85 y86 y87 y88 y89 y90 y91 y92 y93 y94 y95 y96 y97 y98 y99 y100 y101 y102 y103 y104 y105 y106 y107 y108 y109 y110 y111 y112 y113 y114 y115 y116 y117 y118 y119 y120 y121 y122 y123 y124 y125 y126 y127 y128 y129 y130 y131 y132 y133 y134 y135 y136 y137 y138 y139 y140
              go_upto_region 10 with fail
              go_cut [10] (fun v10 wx => v10 = .bool Po ∧ W0 = wx)
              case first =>
                go_wp2_with (go_at_call 94; refine HAo.out.mono ?_; rintro e w1 ⟨rfl, rfl⟩)
                all_goals go_meet
                all_goals (refine ⟨congrArg Value.bool ?_, rfl⟩; rw [HPo.out]; first | simp [show ao = true by first | assumption | exact Bool.not_eq_false _ ▸ (by assumption)] | simp [show ao = false by first | assumption | exact Bool.eq_false_iff.2 (by assumption)])
              case rest =>
                obtain ⟨rfl, rfl⟩ := hcut
                clear HAo HPo To
                rename_i y16 y17 y18 y19 y20 y21 y22 y23 y24 y25 y26 y27 y28 y29 y30 y31 y32 y33 y34 y35 y36 y37 y38 y39 y40 y41 y42 y43 y44 y45 y46 y47 y48 y49 y50 y51 y52 y53 y54 y55 y56 y57 y58 y59 y60 y61 y62 y63 y64 y65 y66 y67 y68 y69 y70 y71 y72 y73 y74 y75 y76 y77 y78 y79 y80 y81 y82 y83 y84 y85 y86 y87 y88 y89 y90 y91 y92 y93 y94 y95 y96 y97 y98 y99 y100 y101 y102 y103 y104 y105 y106 y107 y108 y109 y110 y111 y112 y113 y114 y115 y116 y117 y118 y119 y120 y121 y122 y123 y124 y125 y126 y127 y128 y129 y130 y131 y132 y133 y134 y135 y136 y137 y138 y139 y140 yK ya
                clear y16 y17 y18 y19 y20 y21 y22 y23 y24 y25 y26 y27 y28 y29 y30 y31 y32 y33 y34 y35 y36 y37 y38 y39 y40 y41 y42 y43 y44 y45 y46 y47 y48 y49 y50 y51 y52 y53 y54 y55 y56 y57 y58 y59 y60 y61 y62 y63 y64 y65 y66 y67 y68 y69 y70 y71 y72 y73 y74 y75 y76 y77 y78 y79 y80 y81 y82 y83 y84 y85 y86 y87 y88 y89 y90 y91 y92 y93 y94 y95 y96 y97 y98 y99 y100 y101 y102 y103 y104 y105 y106 y107 y108 y109 y110 y111 y112 y113 y114 y115 y116 y117 y118 y119 y120 y121 y122 y123 y124 y125 y126 y127 y128 y129 y130 y131 y132 y133 y134 y135 y136 y137 y138 y139 y140
                go_upto_region 11 with fail
                go_cut [11] (fun v11 wx => v11 = .bool Pl ∧ W0 = wx)
                case first =>
                  go_wp2_with (go_at_call 94; refine HAl.out.mono ?_; rintro e w1 ⟨rfl, rfl⟩)
                  all_goals go_meet
                  all_goals (refine ⟨congrArg Value.bool ?_, rfl⟩; rw [HPl.out]; first | simp [show al = true by first | assumption | exact Bool.not_eq_false _ ▸ (by assumption)] | simp [show al = false by first | assumption | exact Bool.eq_false_iff.2 (by assumption)])
                case rest =>
                  obtain ⟨rfl, rfl⟩ := hcut
                  clear HAl HPl Tl
                  rename_i y16 y17 y18 y19 y20 y21 y22 y23 y24 y25 y26 y27 y28 y29 y30 y31 y32 y33 y34 y35 y36 y37 y38 y39 y40 y41 y42 y43 y44 y45 y46 y47 y48 y49 y50 y51 y52 y53 y54 y55 y56 y57 y58 y59 y60 y61 y62 y63 y64 y65 y66 y67 y68 y69 y70 y71 y72 y73 y74 y75 y76 y77 y78 y79 y80 y81 y82 y83 y84 y85 y86 y87 y88 y89 y90 y91 y92 y93 y94 y95 y96 y97 y98 y99 y100 y101 y102 y103 y104 y105 y106 y107 y108 y109 y110 y111 y112 y113 y114 y115 y116 y117 y118 y119 y120 y121 y122 y123 y124 y125 y126 y127 y128 y129 y130 y131 y132 y133 y134 y135 y136 y137 y138 y139 y140 yK ya
                  clear y16 y17 y18 y19 y20 y21 y22 y23 y24 y25 y26 y27 y28 y29 y30 y31 y32 y33 y34 y35 y36 y37 y38 y39 y40 y41 y42 y43 y44 y45 y46 y47 y48 y49 y50 y51 y52 y53 y54 y55 y56 y57 y58 y59 y60 y61 y62 y63 y64 y65 y66 y67 y68 y69 y70 y71 y72 y73 y74 y75 y76 y77 y78 y79 y80 y81 y82 y83 y84 y85 y86 y87 y88 y89 y90 y91 y92 y93 y94 y95 y96 y97 y98 y99 y100 y101 y102 y103 y104 y105 y106 y107 y108 y109 y110 y111 y112 y113 y114 y115 y116 y117 y118 y119 y120 y121 y122 y123 y124 y125 y126 y127 y128 y129 y130 y131 y132 y133 y134 y135 y136 y137 y138 y139 y140
                  go_upto_region 12 with fail
                  cases Pp with
                  | false =>
                    clear x0 x1 x2 x3 x4 x5 x6 x7 x8 HNh HNg HNo HNl hcf
                    go_wp2
                    go_ret
                    exact ⟨ret_int (by rw [HR.out]; simp), HB.out⟩
                  | true =>
                    cases Pn with
                    | false =>
                      clear x0 x1 x2 x3 x4 x5 x6 x7 x8 HNh HNg HNo HNl hcf
                      go_wp2
                      go_ret
                      exact ⟨ret_int (by rw [HR.out]; simp), HB.out⟩
                    | true =>
                      cases Pm with
                      | false =>
                        clear x0 x1 x2 x3 x4 x5 x6 x7 x8 HNh HNg HNo HNl hcf
                        go_wp2
                        go_ret
                        exact ⟨ret_int (by rw [HR.out]; simp), HB.out⟩
                      | true =>
                        cases Pd with
                        | false =>
                          clear x0 x1 x2 x3 x4 x5 x6 x7 x8 HNh HNg HNo HNl hcf
                          go_wp2
                          go_ret
                          exact ⟨ret_int (by rw [HR.out]; simp), HB.out⟩
                        | true =>
                          cases Ph with
                          | false =>
                            clear x0 x1 x2 x3 x4 x5 x6 x7 x8 HNh HNg HNo HNl hcf
                            go_wp2
                            go_ret
                            exact ⟨ret_int (by rw [HR.out]; simp), HB.out⟩
                          | true =>
                            cases Pg with
                            | false =>
                              clear x0 x1 x2 x3 x4 x5 x6 x7 x8 HNh HNg HNo HNl hcf
                              go_wp2
                              go_ret
                              exact ⟨ret_int (by rw [HR.out]; simp), HB.out⟩
                            | true =>
                              cases Po with
                              | false =>
                                clear x0 x1 x2 x3 x4 x5 x6 x7 x8 HNh HNg HNo HNl hcf
                                go_wp2
                                go_ret
                                exact ⟨ret_int (by rw [HR.out]; simp), HB.out⟩
                              | true =>
                                cases Pl with
                                | false =>
                                  clear x0 x1 x2 x3 x4 x5 x6 x7 x8 HNh HNg HNo HNl hcf
                                  go_wp2
                                  go_ret
                                  exact ⟨ret_int (by rw [HR.out]; simp), HB.out⟩
                                | true =>
                                  go_upto_region 18 with (first | (go_at_call 49; refine HNh.out.mono ?_; rintro e w1 ⟨rfl, rfl⟩) | (go_at_call 49; refine HNg.out.mono ?_; rintro e w1 ⟨rfl, rfl⟩) | (go_at_call 49; refine HNo.out.mono ?_; rintro e w1 ⟨rfl, rfl⟩) | (go_at_call 49; refine HNl.out.mono ?_; rintro e w1 ⟨rfl, rfl⟩))
                                  clear x0 x1 x2 x3 x4 x5 x6 x7 x8 HNh HNg HNo HNl hcf
                                  cases nh with
                                  | false =>
                                    go_wp2
                                    go_ret
                                    exact ⟨ret_int (by rw [HR.out]; simp), HB.out⟩
                                  | true =>
                                    cases ng with
                                    | false =>
                                      go_wp2
                                      go_ret
                                      exact ⟨ret_int (by rw [HR.out]; simp), HB.out⟩
                                    | true =>
                                      cases no with
                                      | false =>
                                        go_wp2
                                        go_ret
                                        exact ⟨ret_int (by rw [HR.out]; simp), HB.out⟩
                                      | true =>
                                        cases nl with
                                        | false =>
                                          go_wp2
                                          go_ret
                                          exact ⟨ret_int (by rw [HR.out]; simp), HB.out⟩
                                        | true =>
                                          go_wp2
                                          go_ret
                                          exact ⟨ret_int (by rw [HR.out]; simp), HB.out⟩
end Go.Proofs.YthnhfddlmkhgkaaGreatDoor

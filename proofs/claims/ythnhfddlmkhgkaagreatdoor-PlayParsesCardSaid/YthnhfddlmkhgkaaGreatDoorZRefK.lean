/- Walks: what some functions of the play package and its laws compute, as contracts. -/
import Derived.Test.YthnhfddlmkhgkaaGreatDoorZRefI2
import Derived.Test.YthnhfddlmkhgkaaGreatDoorZRefJ
set_option linter.unusedVariables false
namespace Go.Proofs.YthnhfddlmkhgkaaGreatDoor
open Go.RowKit Go.Proofs.YthnhfddlmkhgkaaGreatDoorW.PrintWords

/-- the first line's end in a text -/
theorem line_parts : ∀ t : Sp.Bs, ∃ B, Sp.line1 t ++ B = t ∧ Sp.rest1 t = B.drop 1 ∧ (∀ x ∈ Sp.line1 t, x ≠ 10) ∧ (B = [] ∨ ∃ r, B = 10 :: r)
  | [] => ⟨[], rfl, rfl, fun x hx => by simp [Sp.line1] at hx, .inl rfl⟩
  | c :: r => by
    by_cases h : c = 10
    · subst h
      exact ⟨10 :: r, by simp [Sp.line1], by simp [Sp.rest1], fun x hx => by simp [Sp.line1] at hx, .inr ⟨r, rfl⟩⟩
    · obtain ⟨B, h1, h2, h3, h4⟩ := line_parts r
      have e1 : Sp.line1 (c :: r) = c :: Sp.line1 r := by simp [Sp.line1, h]
      refine ⟨B, by rw [e1, List.cons_append, h1], ?_, fun x hx => ?_, h4⟩
      · rw [← h2]; simp [Sp.rest1, h]
      · rw [e1] at hx
        rcases List.mem_cons.1 hx with rfl | hx
        · exact h
        · exact h3 x hx
theorem lines_any (t : Sp.Bs) (n : Nat) (b : Bool) (p : Sp.Play) : Sp.lines t n b p = if (Sp.lineOf (Sp.line1 t) b p).2.2 ≠ 0 then ({}, n, (Sp.lineOf (Sp.line1 t) b p).2.2) else Sp.lines (Sp.rest1 t) (n + 1) (Sp.lineOf (Sp.line1 t) b p).2.1 (Sp.lineOf (Sp.line1 t) b p).1 := by
  by_cases ht : t = []
  · subst ht
    have h1 : Sp.line1 [] = [] := rfl
    have h2 : Sp.rest1 [] = [] := rfl
    have h3 : Sp.lineOf [] b p = (p, b, 0) := by unfold Sp.lineOf; rw [Sp.split_nil rfl]
    rw [h1, h2, h3, lines_nil, lines_nil]
    simp
  · exact lines_cons ht n b p
/-- where it ends -/
theorem line_end {t0 B : Sp.Bs} {b e : Nat} (hb : b ≤ t0.length) (h1 : Sp.line1 (t0.drop b) ++ B = t0.drop b) (h3 : ∀ x ∈ Sp.line1 (t0.drop b), x ≠ 10) (h4 : B = [] ∨ ∃ r, B = 10 :: r) (he : e = b + (Sp.line1 (t0.drop b)).length) :
    e ≤ t0.length ∧ ∀ j, b ≤ j → (hj : j < t0.length) → (j < e → t0[j]'hj ≠ 10) ∧ (j = e → t0[j]'hj = 10) := by
  have hl : (Sp.line1 (t0.drop b)).length + B.length = t0.length - b := by rw [← List.length_append, h1, List.length_drop]
  refine ⟨by omega, fun j hbj hj => ?_⟩
  have hg : t0[j]'hj = (Sp.line1 (t0.drop b) ++ B)[j - b]'(by rw [List.length_append]; omega) := by
    have h5 : t0[j]? = (Sp.line1 (t0.drop b) ++ B)[j - b]? := by
      rw [h1, List.getElem?_drop, show b + (j - b) = j by omega]
    rw [List.getElem?_eq_getElem hj, List.getElem?_eq_getElem (by rw [List.length_append]; omega)] at h5
    exact Option.some.inj h5
  refine ⟨fun h => ?_, fun h => ?_⟩
  · rw [hg, List.getElem_append_left (by omega)]
    exact h3 _ (List.getElem_mem _)
  · rw [hg, List.getElem_append_right (by omega)]
    rcases h4 with h4 | ⟨r, h4⟩
    · subst h4; simp at hl; omega
    · subst h4
      simp [show j - b - (Sp.line1 (t0.drop b)).length = 0 by omega]
theorem step_kept {w w2 w3 W4 : World} {p : List Sp.Op} {Av : Option Addr} {cv : Nat} {q : Sp.Op} {v1 v2 v3 : Value} (hb : Below w.heap.size w w2) (hops : OpsRow w2 w.heap.size (.slice Av p.length cv) p) (hro : OpRows w3 w2.heap.size q v1 v2 v3) (hb3 : Below w2.heap.size w2 w3) (hW4 : W4 = w3.alloc (.cells (opCells q v1 v2 v3).toArray 80)) :
    ∃ ts, OpList W4 w.heap.size p ts ∧ kraw.R 80 W4 w.heap.size (fun _ => True) (.slice Av p.length cv) ((p.zip ts).map rawOf) ∧ OpRows W4 w.heap.size q v1 v2 v3 ∧ (∀ u ∈ ts, ∀ k, u.has k → ¬ V3.has (v1, v2, v3) k) ∧ Below w2.heap.size w2 W4 ∧ W4.heap[w3.heap.size]? = some (.cells (opCells q v1 v2 v3).toArray 80 (0, 0)) := by
  have hb34 : Below w3.heap.size w3 W4 := by rw [hW4]; exact below_alw _ _
  have hb24 : Below w2.heap.size w2 W4 := hb3.trans (hb34.mono hb3.size)
  obtain ⟨ts, h1, h2⟩ := hops
  refine ⟨ts, h1.under hb24, Kd.R_below h2 hb24, (hro.lower hb.size).below hb34, ?_, hb24, by rw [hW4]; exact heap_alloc_new _ _⟩
  intro u hu k hk hk2
  have := (h1.lt u hu k hk).2
  have := (hro.lt k hk2).1
  omega
theorem words_nil {l : Sp.Bs} (h : Sp.split l = some []) (hl : l.length ≤ 1099511627776) (w : World) : Calls Tryz.prog 40 #[.string (str l)] w (SplitN w) := by
  refine (words_some h hl w).mono ?_
  rintro e w1 ⟨A, cap, rfl, _, _, hb⟩
  exact ⟨A, cap, rfl, hb⟩
set_option maxHeartbeats 8000000 in
set_option maxRecDepth 100000 in
theorem rparse_any (t0 : Sp.Bs) (w : World) (he : EnvP w) (hs : t0.length ≤ 140737488355328) :
    Calls Tryz.prog 15 #[.string (str t0)] w (ParsePost w (Sp.parse t0)) := by
  have HE := Lib.hid he
  clear he
  have hsz : (str t0).size = t0.length := str_size t0
  have hb0 : Below w.heap.size w (w.alloc (.cells #[.int .i64 0, .int .i64 0, .int .i64 0, .int .i64 0, .int .i64 0, .int .i64 0, .int .i64 0, .int .i64 0, .int .i64 0, .int .i64 0, .int .i64 0, .slice none 0 0] 28)) := (Below.refl _ _).alloc (Nat.le_refl _) _
  have hz0 : ZeroPlay (w.alloc (.cells #[.int .i64 0, .int .i64 0, .int .i64 0, .int .i64 0, .int .i64 0, .int .i64 0, .int .i64 0, .int .i64 0, .int .i64 0, .int .i64 0, .int .i64 0, .slice none 0 0] 28)) w.heap.size := heap_alloc_new w _
  obtain ⟨R, hR⟩ : ∃ R, R = Sp.parse t0 := ⟨_, rfl⟩
  rw [← hR]
  by_cases hbig : 1048576 < t0.length
  · have HSP : Hid (R = ({}, 0, 216)) := Lib.hid (by rw [hR]; unfold Sp.parse; rw [if_pos hbig])
    clear hR
    go_enter Tryz.func15, Tryz.ntmps15
    go_wp2_with (refine wpList_store_row rfl 28 (.tmp 2) (.tmp 19) rfl w.heap.size (playCells zeros (.slice none 0 0)).toArray rfl rfl 28 _ hz0 (by kernel_rfl) rfl (play_one _ rfl) ?_)
    refine bodyPost_ret (results_ctt rfl _ _ w.heap.size 28 (playCells zeros (.slice none 0 0)).toArray (0, 0) _ rfl (setRow_heap _ _ _ _ _ _ hz0) Tryz.underlying28 rfl (by kernel_rfl)) rfl ?_
    rw [HSP.out]
    exact ⟨_, rfl, rfl, OpsRow.nil _ _, setRow_below hb0 (Nat.le_refl _) _⟩
  · have HSP : Hid (R = Sp.lines t0 1 false {}) := Lib.hid (by rw [hR]; unfold Sp.parse; rw [if_neg hbig])
    have hsm : t0.length ≤ 1048576 := by omega
    clear hR
    go_enter Tryz.func15, Tryz.ntmps15
    go_wp2
    generalize hW : (w.alloc _).alloc _ = W0
    have hz1 : ZeroPlay W0 w.heap.size := by rw [← hW]; exact (heap_alloc_old _ _ (row_lt hz0)).trans hz0
    have hb1 : Below w.heap.size w W0 := by rw [← hW]; exact hb0.alloc hb0.size _
    have hp1 : PlayAt W0 w.heap.size (w.heap.size + 1) {} := by
      have h := heap_alloc_new (w.alloc (.cells #[.int .i64 0, .int .i64 0, .int .i64 0, .int .i64 0, .int .i64 0, .int .i64 0, .int .i64 0, .int .i64 0, .int .i64 0, .int .i64 0, .int .i64 0, .slice none 0 0] 28)) (.cells #[.int .i64 0, .int .i64 0, .int .i64 0, .int .i64 0, .int .i64 0, .int .i64 0, .int .i64 0, .int .i64 0, .int .i64 0, .int .i64 0, .int .i64 0, .slice none 0 0] 28)
      rw [World.size_alloc] at h
      rw [← hW]
      exact ⟨_, h, rfl, OpsRow.nil _ _⟩
    clear hW hb0 hz0
    go_loopw [6, 7, 8] (fun v6 v7 v8 wr => ∃ (b n : Nat) (begun : Bool) (p : Sp.Play), v6 = .bool begun ∧ v7 = .int .i64 (n : Int) ∧ v8 = .int .i64 (b : Int) ∧ b ≤ t0.length + 1 ∧ n ≤ b ∧ p.ops.length ≤ 2000 ∧ PlayAt wr w.heap.size (w.heap.size + 1) p ∧ ZeroPlay wr w.heap.size ∧ Hid (R = Sp.lines (t0.drop b) (n + 1) begun p) ∧ Below w.heap.size w wr) (fun _ _ v8 _ => t0.length + 1 - (intOf v8).toNat)
    case atStart => exact ⟨0, 0, false, {}, rfl, rfl, rfl, by omega, Nat.le_refl _, by simp, hp1, hz1, HSP, hb1⟩
    case round =>
      obtain ⟨b, n, begun, p, rfl, rfl, rfl, hb, hnb, hpl, HP, HZ, HQ, HB⟩ := hrel
      clear hp1 hz1 hb1 HSP hbig
      have HBS := Lib.hid HB.size
      by_cases hble : b ≤ t0.length
      · obtain ⟨t, ht⟩ : ∃ t, t = t0.drop b := ⟨_, rfl⟩
        obtain ⟨e, he⟩ : ∃ e, e = b + (Sp.line1 t).length := ⟨_, rfl⟩
        obtain ⟨B, hB1, hB2, hB3, hB4⟩ := line_parts t
        have hle := line_end (e := e) hble (by rw [← ht]; exact hB1) (by rw [← ht]; exact hB3) hB4 (by rw [← ht]; exact he)
        have hel := hle.1
        have hbe2 : b ≤ e := by omega
        have HCH := Lib.hid hle.2
        have HLP := Lib.hid (And.intro ht (And.intro he (And.intro hB1 hB2)))
        clear hle ht he hB1 hB2 hB3 hB4
        go_upto_block 2 with (fail)
        go_cut [9] (fun v9 wx => v9 = .int .i64 (e : Int) ∧ wx = wr)
        case first =>
          go_wp2
          go_loopw [9] (fun v9 wq => ∃ (j : Nat), v9 = .int .i64 (j : Int) ∧ b ≤ j ∧ j ≤ e ∧ wq = wr) (fun v9 _ => e - (intOf v9).toNat)
          case atStart => exact ⟨b, rfl, Nat.le_refl _, hbe2, rfl⟩
          case round =>
            obtain ⟨j, rfl, hbj, hje, rfl⟩ := hrel
            by_cases hjl : j < t0.length
            · obtain ⟨C, hC⟩ : ∃ C : Int, C = ((t0[j]'hjl).toNat : Int) := ⟨_, rfl⟩
              have hx : ∀ h : j < (str t0).size, (((str t0)[j]'h).toNat : Int) = C := fun h => by rw [hC]; rfl
              have hC0 : 0 ≤ C := by omega
              have hC1 : C ≤ 255 := by have := (t0[j]'hjl).toNat_lt; omega
              have T10 : (C != 10) = !decide (t0[j]'hjl = 10) := u8_neb 10 hC rfl
              have hch := HCH.out j hbj hjl
              by_cases hjlt : j < e
              · rw [decide_eq_false (hch.1 hjlt)] at T10
                clear hC hch
                go_wp2
                go_roundw
                case rel => exact ⟨j + 1, by go_num, by omega, by omega, trivial⟩
                case measure => simp [intOf]; omega
              · rw [decide_eq_true (hch.2 (by omega))] at T10
                obtain rfl : j = e := by omega
                clear hC hch
                go_wp2
                go_meet
                exact ⟨rfl, rfl⟩
            · obtain rfl : j = e := by omega
              go_wp2
              go_meet
              exact ⟨rfl, rfl⟩
        case rest =>
          obtain ⟨rfl, rfl⟩ := hcut
          obtain ⟨l1, hl1e⟩ : ∃ l, l = Sp.line1 t := ⟨_, rfl⟩
          obtain ⟨r1, hr1e⟩ : ∃ r, r = Sp.rest1 t := ⟨_, rfl⟩
          have hdr : t0.drop (e + 1) = r1 := by
            obtain ⟨q1, q2, q3, q4⟩ := HLP.out
            rw [hr1e, q4, q2, show b + (Sp.line1 t).length + 1 = b + ((Sp.line1 t).length + 1) by omega, ← List.drop_drop, ← q1]
            have q5 : (Sp.line1 t ++ B).drop (Sp.line1 t).length = B := List.drop_left
            rw [q3] at q5
            rw [← List.drop_drop, q5]
          have hex : (str t0).extract b e = str l1 := by
            obtain ⟨q1, q2, q3, q4⟩ := HLP.out
            rw [Lib.extract_eq, bl_str, ← q1, q2, Nat.add_sub_cancel_left, hl1e]
            have q5 : (Sp.line1 t ++ B).take (Sp.line1 t).length = Sp.line1 t := List.take_left
            rw [q3] at q5
            rw [q5]; rfl
          have HQL : Hid (R = if (Sp.lineOf l1 begun p).2.2 ≠ 0 then ({}, n + 1, (Sp.lineOf l1 begun p).2.2) else Sp.lines r1 (n + 1 + 1) (Sp.lineOf l1 begun p).2.1 (Sp.lineOf l1 begun p).1) := Lib.hid (by rw [HQ.out, ← HLP.out.1, hl1e, hr1e]; exact lines_any t (n + 1) begun p)
          have HEX := Lib.hid hex
          have HDR := Lib.hid hdr
          have hl1 : l1.length ≤ 1099511627776 := by rw [hl1e]; have := HLP.out.2.1; omega
          have HL1 := Lib.hid hl1
          clear hl1e hr1e hdr hex HQ HCH HLP
          cases hspl : Sp.split l1 with
          | none =>
            have HSPL := Lib.hid hspl
            have HQ3 : Hid (R = ({}, n + 1, 214)) := Lib.hid (by rw [HQL.out]; simp [Sp.lineOf, hspl])
            clear hspl hl1
            go_wp2_with (first | (go_at_call 40; rw [HEX.out]; refine (words_none HSPL.out HL1.out _).mono ?_; rintro e2 w2 ⟨rfl, hb2⟩; have hz5 : ZeroPlay w2 w.heap.size := (hb2.block _ (row_lt HZ)).trans HZ; have HB3 := Lib.hid hb2; clear hb2; have tk1 := trivial) | (have tq := tk1; refine wpList_store_row rfl 28 (.tmp 2) (.tmp 51) rfl w.heap.size (playCells zeros (.slice none 0 0)).toArray rfl rfl 28 _ hz5 (by kernel_rfl) rfl (play_one _ rfl) ?_))
            refine bodyPost_ret (results_ctt rfl _ _ w.heap.size 28 (playCells zeros (.slice none 0 0)).toArray (0, 0) _ rfl (setRow_heap _ _ _ _ _ _ hz5) Tryz.underlying28 rfl (by kernel_rfl)) rfl ?_
            rw [HQ3.out]
            exact ⟨_, rfl, rfl, OpsRow.nil _ _, setRow_below (HB.trans (HB3.out.mono HBS.out)) (Nat.le_refl _) _⟩
          | some ws =>
            have HSPL := Lib.hid hspl
            have hsl := Sp.split_len _ l1 (Nat.le_refl _) ws hspl
            have HWS : Hid (∀ x ∈ ws, x.length ≤ 1099511627776) := Lib.hid (fun x hx => by have := hsl.1 x hx; omega)
            have hwl : ws.length ≤ 1099511627776 := by omega
            by_cases hws : ws.length = 0
            · obtain rfl : ws = [] := List.eq_nil_of_length_eq_zero hws
              have HQ3 : Hid (R = Sp.lines r1 (n + 1 + 1) begun p) := Lib.hid (by rw [HQL.out]; simp [Sp.lineOf, hspl])
              clear hspl hl1 hsl hws hwl
              go_wp2_with (first | (go_at_call 40; rw [HEX.out]; refine (words_nil HSPL.out HL1.out _).mono ?_; rintro e2 w2 ⟨A, cap, rfl, hb2⟩; have HB3 := Lib.hid hb2; clear hb2))
              go_roundw
              case rel => exact ⟨e + 1, n + 1, begun, p, rfl, by go_num, by go_num, by omega, by omega, hpl, HP.below HB3.out, (HB3.out.block _ (row_lt HZ)).trans HZ, Lib.hid (by rw [HDR.out]; exact HQ3.out), HB.trans (HB3.out.mono HBS.out)⟩
              case measure => simp [intOf]; omega
            · have hws0 : 0 < ws.length := by omega
              have TN : ((ws.length : Int) == 0) = false := beq_eq_false_iff_ne.2 (by omega)
              have hlo : Sp.lineOf l1 begun p = if begun = false then ((Sp.world ws).1, true, (Sp.world ws).2) else if p.ops.length = 2000 then (p, begun, 216) else ({ p with ops := p.ops ++ [(Sp.step ws).1] }, begun, (Sp.step ws).2) := by
                unfold Sp.lineOf
                rw [hspl]
                cases ws with
                | nil => exact absurd rfl hws
                | cons a b => rfl
              rw [hlo] at HQL
              clear hspl hl1 hsl hws hlo
              cases begun with
              | false =>
                obtain ⟨q, er, hq⟩ : ∃ q er, Sp.world ws = (q, er) := ⟨_, _, rfl⟩
                rw [if_pos rfl, hq] at HQL
                have hq11 : q.nums.length = 11 ∧ q.ops = [] := by
                  have := world_shape ws
                  rw [hq] at this
                  exact this
                have HWO : Hid (∀ (A : Option Addr) (cap : Nat) (w2 : World), ReadS w2 A ws → Calls Tryz.prog 41 #[.slice A ws.length cap] w2 (WorldPost w2 (q, er))) := Lib.hid (fun A cap w2 hr => by rw [← hq]; exact rhead_any A ws cap w2 hr hws0 hwl HWS.out)
                have HQ11 := Lib.hid hq11
                have hs12 : ((playCells q.nums (.slice none 0 0)).toArray).size = 12 := by simp [playCells, hq11.1]
                have HS12 := Lib.hid hs12
                have hsz1 : (Tryz.prog.info? 28).map (·.size) = some ((playCells q.nums (.slice none 0 0)).toArray).size := by
                  rw [hs12]; kernel_rfl
                have hsz2 : ∀ v, ((playCells p.nums v).toArray).size = ((playCells q.nums (.slice none 0 0)).toArray).size := fun v => by
                  obtain ⟨_, _, h11, _⟩ := HP
                  simp [playCells, hq11.1, h11]
                have HSZ := Lib.hid (And.intro hsz1 hsz2)
                clear hq hq11 hsz1 hsz2 hs12
                obtain ⟨v, hv1, hv2, hv3⟩ := HP
                clear hv2 hv3
                by_cases he0 : er = 0
                · have T2 : ((er : Int) != 0) = false := by rw [bne_eq_false_iff_eq]; omega
                  have HQ3 : Hid (R = Sp.lines r1 (n + 1 + 1) true q) := Lib.hid (by rw [HQL.out]; simp [he0])
                  clear he0
                  go_wp2_with (first | (go_at_call 40; rw [HEX.out]; refine (words_some HSPL.out HL1.out _).mono ?_; rintro e2 w2 ⟨A, cap, rfl, hrs, hcap, hb2⟩; have HRS := Lib.hid hrs; have HB3a := Lib.hid hb2; clear hb2 hrs) | (go_at_call 41; refine (HWO.out _ _ _ HRS.out).mono ?_; rintro e3 w3 ⟨rfl, hb4⟩; have hb5 := HB3a.out.trans (hb4.mono HB3a.out.size); have hr5 := (hb5.block _ (row_lt hv1)).trans hv1; have hz5 : ZeroPlay w3 w.heap.size := (hb5.block _ (row_lt HZ)).trans HZ; have HB3 := Lib.hid (HB.trans (hb5.mono HBS.out)); clear hb4 hb5; have tk1 := trivial) | (have tq := tk1; refine wpList_store_row rfl 28 (.tmp 12) (.tmp 61) rfl w3.heap.size (playCells q.nums (.slice none 0 0)).toArray rfl rfl 28 _ (heap_alloc_new w3 _) HSZ.out.1 (by rw [HS12.out]; rfl) (play_one _ rfl) ?_; rw [World.setRow_alloc_new]; (obtain ⟨W4, hW4⟩ : ∃ W4, W4 = w3.alloc (.cells (playCells q.nums (.slice none 0 0)).toArray 28) := ⟨_, rfl⟩); (have hat : W4.heap[w3.heap.size]? = some (.cells (playCells q.nums (.slice none 0 0)).toArray 28 (0, 0)) := by rw [hW4]; exact heap_alloc_new _ _); (have hbq : Below w3.heap.size w3 W4 := by rw [hW4]; exact below_alw _ _); have hr6 := (hbq.block _ (row_lt hr5)).trans hr5; (have hz6 : ZeroPlay W4 w.heap.size := (hbq.block _ (row_lt hz5)).trans hz5); have HB4 := Lib.hid (HB3.out.trans (hbq.mono HB3.out.size)); rw [← hW4]; clear hW4 hbq tk1 tq; have tk2 := trivial) | (have tq := tk2; refine wpList_load_row rfl 28 (.tmp 12) rfl w3.heap.size rfl 28 (playCells q.nums (.slice none 0 0)).toArray (0, 0) _ hat Tryz.underlying28 rfl HSZ.out.1 ?_) | (have tq := tk2; refine wpList_store_row rfl 28 (.tmp 5) (.tmp 68) rfl (w.heap.size + 1) (playCells q.nums (.slice none 0 0)).toArray rfl rfl 28 _ hr6 HSZ.out.1 (HSZ.out.2 v) (play_one _ rfl) ?_))
                  go_roundw
                  case rel => exact ⟨e + 1, n + 1, true, q, rfl, by go_num, by go_num, by omega, by omega, by rw [HQ11.out.2]; simp, ⟨.slice none 0 0, setRow_heap _ _ _ _ _ _ hr6, HQ11.out.1, by rw [HQ11.out.2]; exact OpsRow.nil _ _⟩, (setRow_other _ (by omega)).trans hz6, Lib.hid (by rw [HDR.out]; exact HQ3.out), setRow_below HB4.out (by omega) _⟩
                  case measure => simp [intOf]; omega
                · have T2 : ((er : Int) != 0) = true := by rw [bne_iff_ne]; omega
                  have HQ3 : Hid (R = ({}, n + 1, er)) := Lib.hid (by rw [HQL.out]; simp [he0])
                  clear he0
                  go_wp2_with (first | (go_at_call 40; rw [HEX.out]; refine (words_some HSPL.out HL1.out _).mono ?_; rintro e2 w2 ⟨A, cap, rfl, hrs, hcap, hb2⟩; have HRS := Lib.hid hrs; have HB3a := Lib.hid hb2; clear hb2 hrs) | (go_at_call 41; refine (HWO.out _ _ _ HRS.out).mono ?_; rintro e3 w3 ⟨rfl, hb4⟩; have hb5 := HB3a.out.trans (hb4.mono HB3a.out.size); have hr5 := (hb5.block _ (row_lt hv1)).trans hv1; have hz5 : ZeroPlay w3 w.heap.size := (hb5.block _ (row_lt HZ)).trans HZ; have HB3 := Lib.hid (HB.trans (hb5.mono HBS.out)); clear hb4 hb5; have tk1 := trivial) | (have tq := tk1; refine wpList_store_row rfl 28 (.tmp 12) (.tmp 61) rfl w3.heap.size (playCells q.nums (.slice none 0 0)).toArray rfl rfl 28 _ (heap_alloc_new w3 _) HSZ.out.1 (by rw [HS12.out]; rfl) (play_one _ rfl) ?_; rw [World.setRow_alloc_new]; (obtain ⟨W4, hW4⟩ : ∃ W4, W4 = w3.alloc (.cells (playCells q.nums (.slice none 0 0)).toArray 28) := ⟨_, rfl⟩); (have hat : W4.heap[w3.heap.size]? = some (.cells (playCells q.nums (.slice none 0 0)).toArray 28 (0, 0)) := by rw [hW4]; exact heap_alloc_new _ _); (have hbq : Below w3.heap.size w3 W4 := by rw [hW4]; exact below_alw _ _); have hr6 := (hbq.block _ (row_lt hr5)).trans hr5; (have hz6 : ZeroPlay W4 w.heap.size := (hbq.block _ (row_lt hz5)).trans hz5); have HB4 := Lib.hid (HB3.out.trans (hbq.mono HB3.out.size)); rw [← hW4]; clear hW4 hbq tk1 tq; have tk2 := trivial) | (have tq := tk2; refine wpList_store_row rfl 28 (.tmp 2) (.tmp 65) rfl w.heap.size (playCells zeros (.slice none 0 0)).toArray rfl rfl 28 _ hz6 (by kernel_rfl) rfl (play_one _ rfl) ?_))
                  refine bodyPost_ret (results_ctt rfl _ _ w.heap.size 28 (playCells zeros (.slice none 0 0)).toArray (0, 0) _ rfl (setRow_heap _ _ _ _ _ _ hz6) Tryz.underlying28 rfl (by kernel_rfl)) rfl ?_
                  rw [HQ3.out]
                  exact ⟨_, rfl, rfl, OpsRow.nil _ _, setRow_below HB4.out (Nat.le_refl _) _⟩
              | true =>
                rw [if_neg (show ¬ (true = false) by simp)] at HQL
                by_cases h2000 : p.ops.length = 2000
                · have T20 : decide (2000 ≤ (p.ops.length : Int)) = true := decide_eq_true (by omega)
                  have HQ3 : Hid (R = ({}, n + 1, 216)) := Lib.hid (by rw [HQL.out]; simp [h2000])
                  have h20 : 2000 ≤ p.ops.length := by omega
                  clear h2000
                  go_wp2_with (first | (go_at_call 40; rw [HEX.out]; refine (words_some HSPL.out HL1.out _).mono ?_; rintro e2 w2 ⟨A, cap, rfl, hrs, hcap, hb3⟩; have hz5 : ZeroPlay w2 w.heap.size := (hb3.block _ (row_lt HZ)).trans HZ; obtain ⟨v, hv1, hv11, hv3⟩ := HP.below hb3; obtain ⟨Av, cv, rfl, hcv⟩ := hv3.len; have HRS := Lib.hid (And.intro hrs (And.intro hv11 (And.intro hv3 (And.intro hcap (And.intro hv1 hz5))))); have HB3 := Lib.hid (HB.trans (hb3.mono HBS.out)); have hc11 : w2.cell? ⟨w.heap.size + 1, 11, none⟩ = some (.slice Av p.ops.length cv) := (by rw [cell_of_row _ _ _ _ _ _ hv1]; exact play_last hv11 _); clear hb3 hrs hv11 hv3 hcap hv1; have tk1 := trivial) | (have tq := tk1; refine wpList_store_row rfl 28 (.tmp 2) (.tmp 73) rfl w.heap.size (playCells zeros (.slice none 0 0)).toArray rfl rfl 28 _ hz5 (by kernel_rfl) rfl (play_one _ rfl) ?_))
                  refine bodyPost_ret (results_ctt rfl _ _ w.heap.size 28 (playCells zeros (.slice none 0 0)).toArray (0, 0) _ rfl (setRow_heap _ _ _ _ _ _ hz5) Tryz.underlying28 rfl (by kernel_rfl)) rfl ?_
                  rw [HQ3.out]
                  exact ⟨_, rfl, rfl, OpsRow.nil _ _, setRow_below HB3.out (Nat.le_refl _) _⟩
                · have T20 : decide (2000 ≤ (p.ops.length : Int)) = false := decide_eq_false (by omega)
                  rw [if_neg h2000] at HQL
                  obtain ⟨q, er, hq⟩ : ∃ q er, Sp.step ws = (q, er) := ⟨_, _, rfl⟩
                  rw [hq] at HQL
                  obtain ⟨wa, wb, hwab⟩ : ∃ wa wb, ws = wa :: wb := by
                    cases ws with
                    | nil => simp at hws0
                    | cons a b => exact ⟨a, b, rfl⟩
                  have HSO : Hid (∀ (A : Option Addr) (cap : Nat) (w2 : World), Below w.heap.size w w2 → ReadS w2 A ws → ws.length ≤ cap → Calls Tryz.prog 42 #[.slice A ws.length cap] w2 (StepPost w2 (q, er))) := Lib.hid (fun A cap w2 hb hr hc => by rw [← hq]; exact rstep_any A ws cap w2 (HE.out.below hb) hr hc wa wb hwab hwl HWS.out)
                  have hpl2 : p.ops.length + 1 ≤ 2000 := by omega
                  clear hq h2000 hws0 hwl hwab
                  by_cases he0 : er = 0
                  · have T2 : ((er : Int) != 0) = false := by rw [bne_eq_false_iff_eq]; omega
                    have HQ3 : Hid (R = Sp.lines r1 (n + 1 + 1) true { p with ops := p.ops ++ [q] }) := Lib.hid (by rw [HQL.out]; simp [he0])
                    clear he0
                    go_wp2_with (first | (go_at_call 40; rw [HEX.out]; refine (words_some HSPL.out HL1.out _).mono ?_; rintro e2 w2 ⟨A, cap, rfl, hrs, hcap, hb3⟩; have hz5 : ZeroPlay w2 w.heap.size := (hb3.block _ (row_lt HZ)).trans HZ; obtain ⟨v, hv1, hv11, hv3⟩ := HP.below hb3; obtain ⟨Av, cv, rfl, hcv⟩ := hv3.len; have HRS := Lib.hid (And.intro hrs (And.intro hv11 (And.intro hv3 (And.intro hcap (And.intro hv1 hz5))))); have HB3 := Lib.hid (HB.trans (hb3.mono HBS.out)); have hc11 : w2.cell? ⟨w.heap.size + 1, 11, none⟩ = some (.slice Av p.ops.length cv) := (by rw [cell_of_row _ _ _ _ _ _ hv1]; exact play_last hv11 _); clear hb3 hrs hv11 hv3 hcap hv1 hz5) | (go_at_call 42; refine (HSO.out _ _ _ HB3.out HRS.out.1 HRS.out.2.2.2.1).mono ?_; rintro e3 w3 ⟨v1, v2, v3, rfl, hro, hb4⟩; have hone := op_one q hro.1.one hro.2.1.one hro.2.2.1.one; have HRO := Lib.hid (And.intro hro hb4); clear hro hb4 hc11; have tk1 := trivial) | (have tq := tk1; refine wpList_store_row rfl 80 (.tmp 14) (.tmp 78) rfl w3.heap.size (opCells q v1 v2 v3).toArray rfl rfl 80 _ (heap_alloc_new w3 _) (by kernel_rfl) rfl hone ?_; rw [World.setRow_alloc_new]; clear tk1 tq; (obtain ⟨W4, hW4⟩ : ∃ W4, W4 = w3.alloc (.cells (opCells q v1 v2 v3).toArray 80) := ⟨_, rfl⟩); (obtain ⟨ts, t1, t2, t3, t4, t5, t6⟩ := step_kept HB3.out HRS.out.2.2.1 HRO.out.1 HRO.out.2 hW4); rw [← hW4]; have hr4 := (t5.block _ (row_lt HRS.out.2.2.2.2.1)).trans HRS.out.2.2.2.2.1; have hc12 : W4.cell? ⟨w.heap.size + 1, 11, none⟩ = some (.slice Av p.ops.length cv) := (by rw [cell_of_row _ _ _ _ _ _ hr4]; exact play_last HRS.out.2.1 _); have HT4 := Lib.hid (And.intro t1 (And.intro t2 (And.intro t3 (And.intro t4 (And.intro t5 (And.intro hr4 t6)))))); (have hz4e : ZeroPlay W4 w.heap.size := (t5.block _ (row_lt HRS.out.2.2.2.2.2)).trans HRS.out.2.2.2.2.2); clear hW4 t1 t2 t3 t4 t5 hr4 t6; have tk2 := trivial) | (have tq := tk2; refine wpList_load_row rfl 80 (.tmp 14) rfl w3.heap.size rfl 80 (opCells q v1 v2 v3).toArray _ _ HT4.out.2.2.2.2.2.2 Tryz.underlying80 rfl (by kernel_rfl) ?_; clear tk2 tq; have tk3 := trivial) | (have tq := tk3; refine wpList_build_op (W := W4) (x := .tmp 87) (p := q) (v1 := v1) (v2 := v2) (v3 := v3) rfl rfl rfl ?_; clear tk3 tq; have tk4 := trivial) | (have tq := tk4; at_builtin; refine ap_op (W := W4) (base := w.heap.size) (w0 := w) (v := .slice Av p.ops.length cv) (os := p.ops) (p := q) (v1 := v1) (v2 := v2) (v3 := v3) (ts := ts) rfl rfl rfl rfl HT4.out.1 HT4.out.2.1 HT4.out.2.2.1 HT4.out.2.2.2.1 (HB3.out.trans (HT4.out.2.2.2.2.1.mono HB3.out.size)) (HB3.out.trans (HT4.out.2.2.2.2.1.mono HB3.out.size)).size (by omega) ?_; clear tk4 tq; intro v4 w5 a1 a2 a3 a4; obtain ⟨A5, c5, hv5, hc5⟩ := a1.len; subst hv5; have hr5 := grown_keeps a3 a4 HT4.out.2.2.2.2.2.1 (by decide); have hz4 : ZeroPlay W4 w.heap.size := (HT4.out.2.2.2.2.1.block _ (row_lt HRS.out.2.2.2.2.2)).trans HRS.out.2.2.2.2.2; have hz6 : ZeroPlay w5 w.heap.size := grown_keeps a3 a4 hz4 (by decide); have hc13 : w5.cell? ⟨w.heap.size + 1, 11, none⟩ = some (.slice Av p.ops.length cv) := (by rw [cell_of_row _ _ _ _ _ _ hr5]; exact play_last HRS.out.2.1 _); have hf13 := row_frozen hr5 11; have HA := Lib.hid (And.intro a1 (And.intro a2 (And.intro hr5 hz6))); clear a1 a2 a3 a4 hr5 hz4 hz6 hc12))
                    go_roundw
                    case rel =>
                      have h1 := HA.out.1
                      simp only [List.length_append, List.length_singleton] at h1
                      exact ⟨e + 1, n + 1, true, _, rfl, by go_num, by go_num, by omega, by omega, by simp only [List.length_append, List.length_singleton]; exact hpl2, PlayAt.app HA.out.2.2.1 HRS.out.2.1 h1, (Below.heap_setCell w5 ⟨w.heap.size + 1, 11, none⟩ _ w.heap.size (by simp only; omega)).trans HA.out.2.2.2, Lib.hid (by rw [HDR.out]; exact HQ3.out), HA.out.2.1.setCell (by simp only; omega) _⟩
                    case measure => simp [intOf]; omega
                  · have T2 : ((er : Int) != 0) = true := by rw [bne_iff_ne]; omega
                    have HQ3 : Hid (R = ({}, n + 1, er)) := Lib.hid (by rw [HQL.out]; simp [he0])
                    clear he0
                    go_wp2_with (first | (go_at_call 40; rw [HEX.out]; refine (words_some HSPL.out HL1.out _).mono ?_; rintro e2 w2 ⟨A, cap, rfl, hrs, hcap, hb3⟩; have hz5 : ZeroPlay w2 w.heap.size := (hb3.block _ (row_lt HZ)).trans HZ; obtain ⟨v, hv1, hv11, hv3⟩ := HP.below hb3; obtain ⟨Av, cv, rfl, hcv⟩ := hv3.len; have HRS := Lib.hid (And.intro hrs (And.intro hv11 (And.intro hv3 (And.intro hcap (And.intro hv1 hz5))))); have HB3 := Lib.hid (HB.trans (hb3.mono HBS.out)); have hc11 : w2.cell? ⟨w.heap.size + 1, 11, none⟩ = some (.slice Av p.ops.length cv) := (by rw [cell_of_row _ _ _ _ _ _ hv1]; exact play_last hv11 _); clear hb3 hrs hv11 hv3 hcap hv1 hz5) | (go_at_call 42; refine (HSO.out _ _ _ HB3.out HRS.out.1 HRS.out.2.2.2.1).mono ?_; rintro e3 w3 ⟨v1, v2, v3, rfl, hro, hb4⟩; have hone := op_one q hro.1.one hro.2.1.one hro.2.2.1.one; have HRO := Lib.hid (And.intro hro hb4); clear hro hb4 hc11; have tk1 := trivial) | (have tq := tk1; refine wpList_store_row rfl 80 (.tmp 14) (.tmp 78) rfl w3.heap.size (opCells q v1 v2 v3).toArray rfl rfl 80 _ (heap_alloc_new w3 _) (by kernel_rfl) rfl hone ?_; rw [World.setRow_alloc_new]; clear tk1 tq; (obtain ⟨W4, hW4⟩ : ∃ W4, W4 = w3.alloc (.cells (opCells q v1 v2 v3).toArray 80) := ⟨_, rfl⟩); (obtain ⟨ts, t1, t2, t3, t4, t5, t6⟩ := step_kept HB3.out HRS.out.2.2.1 HRO.out.1 HRO.out.2 hW4); rw [← hW4]; have hr4 := (t5.block _ (row_lt HRS.out.2.2.2.2.1)).trans HRS.out.2.2.2.2.1; have hc12 : W4.cell? ⟨w.heap.size + 1, 11, none⟩ = some (.slice Av p.ops.length cv) := (by rw [cell_of_row _ _ _ _ _ _ hr4]; exact play_last HRS.out.2.1 _); have HT4 := Lib.hid (And.intro t1 (And.intro t2 (And.intro t3 (And.intro t4 (And.intro t5 (And.intro hr4 t6)))))); (have hz4e : ZeroPlay W4 w.heap.size := (t5.block _ (row_lt HRS.out.2.2.2.2.2)).trans HRS.out.2.2.2.2.2); clear hW4 t1 t2 t3 t4 t5 hr4 t6; have tk2 := trivial) | (have tq := tk2; refine wpList_store_row rfl 28 (.tmp 2) (.tmp 82) rfl w.heap.size (playCells zeros (.slice none 0 0)).toArray rfl rfl 28 _ hz4e (by kernel_rfl) rfl (play_one _ rfl) ?_))
                    refine bodyPost_ret (results_ctt rfl _ _ w.heap.size 28 (playCells zeros (.slice none 0 0)).toArray (0, 0) _ rfl (setRow_heap _ _ _ _ _ _ hz4e) Tryz.underlying28 rfl (by kernel_rfl)) rfl ?_
                    rw [HQ3.out]
                    exact ⟨_, rfl, rfl, OpsRow.nil _ _, setRow_below (HB3.out.trans (HT4.out.2.2.2.2.1.mono HB3.out.size)) (Nat.le_refl _) _⟩
      · have hbe : t0.drop b = [] := List.drop_eq_nil_of_le (by omega)
        have hq := HQ.out
        rw [hbe, lines_nil] at hq
        clear HQ hbe
        cases begun with
        | false =>
          have HF : Hid (R = ({}, 0, 211)) := Lib.hid hq
          clear hq
          go_wp2_with (refine wpList_store_row rfl 28 (.tmp 2) (.tmp 93) rfl w.heap.size (playCells zeros (.slice none 0 0)).toArray rfl rfl 28 _ HZ (by kernel_rfl) rfl (play_one _ rfl) ?_)
          refine bodyPost_ret (results_ctt rfl _ _ w.heap.size 28 (playCells zeros (.slice none 0 0)).toArray (0, 0) _ rfl (setRow_heap _ _ _ _ _ _ HZ) Tryz.underlying28 rfl (by kernel_rfl)) rfl ?_
          rw [HF.out]
          exact ⟨_, rfl, rfl, OpsRow.nil _ _, setRow_below HB (Nat.le_refl _) _⟩
        | true =>
          have HF : Hid (R = (p, 0, 0)) := Lib.hid hq
          clear hq
          obtain ⟨v, hv1, hv2, hv3⟩ := HP
          have hsz1 : (Tryz.prog.info? 28).map (·.size) = some ((playCells p.nums v).toArray).size := by
            rw [show ((playCells p.nums v).toArray).size = 12 by simp [playCells, hv2]]; kernel_rfl
          have hsz2 : ((playCells zeros (.slice none 0 0)).toArray).size = ((playCells p.nums v).toArray).size := by simp [playCells, hv2, zeros]
          have HSZ := Lib.hid (And.intro hsz1 (And.intro hsz2 (And.intro hv2 (And.intro hv3 hv1))))
          have hone := hv3.one
          clear hsz1 hsz2 hv2 hv3
          go_wp2_with (first | (refine wpList_load_row rfl 28 (.tmp 5) rfl (w.heap.size + 1) rfl 28 (playCells p.nums v).toArray _ _ hv1 Tryz.underlying28 rfl HSZ.out.1 ?_) | (refine wpList_store_row rfl 28 (.tmp 2) (.tmp 94) rfl w.heap.size (playCells p.nums v).toArray rfl rfl 28 _ HZ HSZ.out.1 HSZ.out.2.1 (play_one _ hone) ?_))
          refine bodyPost_ret (results_ctt rfl _ _ w.heap.size 28 (playCells p.nums v).toArray (0, 0) _ rfl (setRow_heap _ _ _ _ _ _ HZ) Tryz.underlying28 rfl HSZ.out.1) rfl ?_
          rw [HF.out]
          exact ⟨v, rfl, HSZ.out.2.2.1, HSZ.out.2.2.2.1.far HZ (by simp) (fun k hk => setRow_other _ hk), setRow_below HB (Nat.le_refl _) _⟩
end Go.Proofs.YthnhfddlmkhgkaaGreatDoor

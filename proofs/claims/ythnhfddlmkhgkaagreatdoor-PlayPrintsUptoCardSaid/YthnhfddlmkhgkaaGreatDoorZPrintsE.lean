/- Walks: what some functions of the play package and its laws compute, as contracts. -/
import Derived.Test.YthnhfddlmkhgkaaGreatDoorZPrintsC
import Derived.Test.YthnhfddlmkhgkaaGreatDoorZLawL
import Derived.Test.YthnhfddlmkhgkaaGreatDoorZApO
set_option linter.unusedVariables false
namespace Go.Proofs.YthnhfddlmkhgkaaGreatDoor
open Go.RowKit Go.Proofs.YthnhfddlmkhgkaaGreatDoorW.PrintWords

/-- the first eight, the last four cells of a play's box -/
theorem row_part {w : World} {g : Nat} {cs : Array Value} {t : TypeId} {fr : Nat × Nat} (h : w.heap[g]? = some (.cells cs t fr)) (i : Nat) : w.cell? ⟨g, i, none⟩ = cs[i]? := cell_of_row _ _ _ _ _ _ h
/-- a row of whole numbers -/
def intRow (l : List Int) : Array Value := (l.map (Value.int .i64)).toArray
theorem intRow_at (l : List Int) (i : Nat) (h : i < l.length) : (intRow l)[i]? = some (.int .i64 (l[i]'h)) := by simp [intRow, h]
theorem flat_len {l : List Int} (h : ∀ x ∈ l, i64 x) : (l.flatMap fun x => 32 :: Lib.itoa x).length ≤ 22 * l.length := by
  induction l with
  | nil => simp
  | cons x r ih =>
    have h1 := h x List.mem_cons_self
    have := Lib.itoa_length_le x h1.1 h1.2
    have := ih fun y hy => h y (List.mem_cons_of_mem _ hy)
    simp only [List.flatMap_cons, List.length_append, List.length_cons] at *
    omega
theorem lineR_len {o : Sp.Op} (h : OpB o) : (Sp.lineR o).length ≤ 104857680 := by
  unfold Sp.lineR
  split
  · have h1 := Lib.itoa_length_le _ h.a.1 h.a.2
    have h2 := textC_len h.call
    simp only [List.length_append, List.length_cons, List.length_nil]
    omega
  · by_cases q : o.kind.toNat < 15
    · have h1 : ∀ j, j < 15 → (Sp.stepRows.getD j ([], [])).1.length ≤ 10 := by decide
      refine join_small _ _ (h1 _ q) (by rw [List.length_map]; have := rforms_len _ q; omega) (fun x hx => ?_)
      obtain ⟨l, _, rfl⟩ := List.mem_map.1 hx
      exact wordR_len h l
    · have e : Sp.stepRows.getD o.kind.toNat ([], []) = ([], []) := by
        rw [List.getD_eq_getElem?_getD, List.getElem?_eq_none (by have : Sp.stepRows.length = 15 := rfl; omega)]; rfl
      have e2 : Sp.formsR.getD o.kind.toNat [] = [] := by
        rw [List.getD_eq_getElem?_getD, List.getElem?_eq_none (by have : Sp.formsR.length = 15 := rfl; omega)]; rfl
      rw [e, e2]; simp [Sp.join]
set_option maxHeartbeats 8000000 in
set_option maxRecDepth 100000 in
theorem rprint_any (p : Sp.Play) (vp : Value) (w : World) (he : EnvP w) (hp : PlayV w p vp) (hb : PlayB p) :
    Calls Tryz.prog 21 #[.agg (playCells p.nums vp).toArray] w (W2 w (Sp.print p)) := by
  obtain ⟨na, A, ka, rfl, hra, hla, hoa⟩ := hp
  obtain ⟨N, hN⟩ : ∃ N, N = p.nums := ⟨_, rfl⟩
  rw [← hN]
  rw [← hN] at na
  have HNI : Hid (∀ x ∈ N, i64 x) := Lib.hid (by rw [hN]; exact hb.nums)
  have HN := Lib.hid hN
  have HRO := Lib.hid hra
  have HOB := Lib.hid hb.ops
  have HE := Lib.hid he
  obtain ⟨a0, a1, a2, a3, a4, a5, a6, a7, a8, a9, a10, ea⟩ := list11 na
  have hx0 := pbox_row w N (.slice A p.ops.length ka)
  have hb0 := pbox_below w N (.slice A p.ops.length ka)
  obtain ⟨W0, hW0⟩ : ∃ W0, W0 = pbox w N (.slice A p.ops.length ka) := ⟨_, rfl⟩
  rw [← hW0] at hx0 hb0
  have hw0 : W0 = w.alloc (.cells #[.int .i64 a0, .int .i64 a1, .int .i64 a2, .int .i64 a3, .int .i64 a4, .int .i64 a5, .int .i64 a6, .int .i64 a7, .int .i64 a8, .int .i64 a9, .int .i64 a10, .slice A p.ops.length ka] 28) := by rw [hW0, ea]; rfl
  have hx0' : W0.heap[w.heap.size]? = some (.cells #[.int .i64 a0, .int .i64 a1, .int .i64 a2, .int .i64 a3, .int .i64 a4, .int .i64 a5, .int .i64 a6, .int .i64 a7, .int .i64 a8, .int .i64 a9, .int .i64 a10, .slice A p.ops.length ka] 28 (0, 0)) := by rw [hw0]; exact heap_alloc_new w _
  have hs0 : W0.heap.size = w.heap.size + 1 := by rw [hw0]; exact World.size_alloc _ _
  have HC8 : Hid (∀ (j : Nat) (v : Value), [Value.int .i64 a0, .int .i64 a1, .int .i64 a2, .int .i64 a3, .int .i64 a4, .int .i64 a5, .int .i64 a6, .int .i64 a7][j]? = some v → W0.cell? ((⟨w.heap.size, 0, none⟩ : Addr).add j) = some v) := Lib.hid (fun j v hj => by
    rw [add_plain, row_part hx0']
    have hlt : j < 8 := (List.getElem?_eq_some_iff.1 hj).1
    rw [← hj]
    match j, hlt with
    | 0, _ => rfl
    | 1, _ => rfl
    | 2, _ => rfl
    | 3, _ => rfl
    | 4, _ => rfl
    | 5, _ => rfl
    | 6, _ => rfl
    | 7, _ => rfl)
  have HX0 := Lib.hid hx0
  have HB0 := Lib.hid hb0
  have HEA := Lib.hid ea
  have HPN : Hid (Sp.numsOk N = false → Sp.print p = ([], 213)) := Lib.hid (fun h => by unfold Sp.print; rw [← hN, h]; rfl)
  have HPL : Hid (Sp.numsOk N = true → 2000 < p.ops.length → Sp.print p = ([], 216)) := Lib.hid (fun h h2 => by unfold Sp.print; rw [← hN, h, if_neg (by simp), if_pos h2])
  rw [ea]
  clear hN hra hb he hx0 hb0 hW0
  show Calls Tryz.prog 21 #[.agg #[.int .i64 a0, .int .i64 a1, .int .i64 a2, .int .i64 a3, .int .i64 a4, .int .i64 a5, .int .i64 a6, .int .i64 a7, .int .i64 a8, .int .i64 a9, .int .i64 a10, .slice A p.ops.length ka]] w _
  go_enter Tryz.func21, Tryz.ntmps21
  go_upto_region 1 with fail
  rw [← hw0]
  clear hw0
  go_upto_region 2 with (refine wpList_load_any rfl 23 (.tmp 13) rfl ⟨w.heap.size, 0, none⟩ rfl [.int .i64 a0, .int .i64 a1, .int .i64 a2, .int .i64 a3, .int .i64 a4, .int .i64 a5, .int .i64 a6, .int .i64 a7] _ HC8.out Tryz.underlying23 rfl (by kernel_rfl) ?_)
  obtain ⟨W1, hW1⟩ : ∃ W1, W1 = W0.alloc (.cells #[.int .i64 a0, .int .i64 a1, .int .i64 a2, .int .i64 a3, .int .i64 a4, .int .i64 a5, .int .i64 a6, .int .i64 a7] 23) := ⟨_, rfl⟩
  rw [← hW1]
  have hz1 : W1.heap[W0.heap.size]? = some (.cells #[.int .i64 a0, .int .i64 a1, .int .i64 a2, .int .i64 a3, .int .i64 a4, .int .i64 a5, .int .i64 a6, .int .i64 a7] 23 (0, 0)) := by rw [hW1]; exact heap_alloc_new W0 _
  have hb1 : Below W0.heap.size W0 W1 := by rw [hW1]; exact (Below.refl _ _).alloc (Nat.le_refl _) _
  have hx1 := (hb1.block _ (row_lt hx0')).trans hx0'
  have z0 : W1.cell? ⟨w.heap.size + 1, 0, none⟩ = some (.int .i64 a0) := by rw [← hs0, row_part hz1]; rfl
  have z1 : W1.cell? ⟨w.heap.size + 1, 1, none⟩ = some (.int .i64 a1) := by rw [← hs0, row_part hz1]; rfl
  have z2 : W1.cell? ⟨w.heap.size + 1, 2, none⟩ = some (.int .i64 a2) := by rw [← hs0, row_part hz1]; rfl
  have z3 : W1.cell? ⟨w.heap.size + 1, 3, none⟩ = some (.int .i64 a3) := by rw [← hs0, row_part hz1]; rfl
  have z4 : W1.cell? ⟨w.heap.size + 1, 4, none⟩ = some (.int .i64 a4) := by rw [← hs0, row_part hz1]; rfl
  have z5 : W1.cell? ⟨w.heap.size + 1, 5, none⟩ = some (.int .i64 a5) := by rw [← hs0, row_part hz1]; rfl
  have z6 : W1.cell? ⟨w.heap.size + 1, 6, none⟩ = some (.int .i64 a6) := by rw [← hs0, row_part hz1]; rfl
  have z7 : W1.cell? ⟨w.heap.size + 1, 7, none⟩ = some (.int .i64 a7) := by rw [← hs0, row_part hz1]; rfl
  have z8 : W1.cell? ⟨w.heap.size, 8, none⟩ = some (.int .i64 a8) := by rw [row_part hx1]; rfl
  have z9 : W1.cell? ⟨w.heap.size, 9, none⟩ = some (.int .i64 a9) := by rw [row_part hx1]; rfl
  have z10 : W1.cell? ⟨w.heap.size, 10, none⟩ = some (.int .i64 a10) := by rw [row_part hx1]; rfl
  have HB1 := Lib.hid hb1
  clear hW1 hz1 hb1 hx1 hx0'
  go_upto_region 3 with fail
  obtain ⟨W2, hW2⟩ : ∃ W2, W2 = W1.alloc (.cells #[.int .i64 a0, .int .i64 a1, .int .i64 a2, .int .i64 a3, .int .i64 a4, .int .i64 a5, .int .i64 a6, .int .i64 a7, .int .i64 a8, .int .i64 a9, .int .i64 a10] 3) := ⟨_, rfl⟩
  rw [← hW2]
  have hr2 : W2.heap[W1.heap.size]? = some (.cells (intRow N) 3 (0, 0)) := by rw [hW2, HEA.out]; exact heap_alloc_new W1 _
  have hb2 : Below W1.heap.size W1 W2 := by rw [hW2]; exact (Below.refl _ _).alloc (Nat.le_refl _) _
  have HB2 : Hid (Below w.heap.size w W2) := Lib.hid (by
    have h := HB0.out.trans (HB1.out.mono HB0.out.size)
    exact h.trans (hb2.mono h.size))
  have HX2 : Hid (W2.heap[w.heap.size]? = some (.cells (playCells N (.slice A p.ops.length ka)).toArray 28 (0, 0))) := Lib.hid (by
    have h1 := (HB1.out.block _ (row_lt HX0.out)).trans HX0.out
    exact (hb2.block _ (row_lt h1)).trans h1)
  have HRI : Hid (∀ wr, Below W2.heap.size W2 wr → ∀ (i : Nat) (h : i < N.length), wr.cell? ⟨W1.heap.size, i, none⟩ = some (.int .i64 (N[i]'h))) := Lib.hid (fun wr h i hi => by
    rw [row_part ((h.block _ (row_lt hr2)).trans hr2)]
    exact intRow_at N i hi)
  have HCO : Hid (∀ w3, Below W2.heap.size W2 w3 → w3.cell? ⟨w.heap.size, 11, none⟩ = some (.slice A p.ops.length ka)) := Lib.hid (fun w3 h => play_ops ((h.block _ (row_lt HX2.out)).trans HX2.out) na)
  clear z0 z1 z2 z3 z4 z5 z6 z7 z8 z9 z10 hW2 hr2 hb2
  go_wp2
  go_loopw [6, 7] (fun v6 v7 wr => ∃ (i : Nat), v7 = .int .i64 (i : Int) ∧ i ≤ 11 ∧ v6 = .string (str (Sp.wrld ++ (N.take i).flatMap fun x => 32 :: Lib.itoa x)) ∧ Hid (Sp.numsOk (N.take i) = true) ∧ Below W2.heap.size W2 wr) (fun _ v7 _ => 11 - (intOf v7).toNat)
  case atStart => exact ⟨0, rfl, by omega, rfl, Lib.hid rfl, Below.refl _ _⟩
  case round =>
    obtain ⟨i, rfl, hi, rfl, HNK, HB⟩ := hrel
    obtain ⟨S, hS⟩ : ∃ S, S = Sp.wrld ++ (N.take i).flatMap fun x => 32 :: Lib.itoa x := ⟨_, rfl⟩
    rw [← hS]
    have hSs : (str S).size = S.length := str_size S
    have hSl : S.length ≤ 247 := by
      have := flat_len (l := N.take i) (fun x hx => HNI.out x (List.take_subset _ _ hx))
      have h5 : Sp.wrld.length = 5 := rfl
      rw [hS, List.length_append]
      simp only [List.length_take] at this
      omega
    have HS := Lib.hid hS
    clear hS
    by_cases hlt : i < 11
    · have hiN : i < N.length := by omega
      obtain ⟨x, hx⟩ : ∃ x, x = N[i]'hiN := ⟨_, rfl⟩
      have hck := HRI.out wr HB i hiN
      rw [← hx] at hck
      have q2 : (0 : Int) ≤ (i : Int) ∧ (i : Int) < 11 := ⟨by omega, by omega⟩
      have HXI : Hid (i64 x) := Lib.hid (HNI.out x (by rw [hx]; exact List.getElem_mem _))
      have HTK : Hid (N.take (i + 1) = N.take i ++ [x]) := Lib.hid (by rw [List.take_succ_eq_append_getElem hiN, ← hx])
      have HTD : Hid (N = N.take i ++ x :: N.drop (i + 1)) := Lib.hid (by
        conv => lhs; rw [← List.take_append_drop i N]
        rw [List.drop_eq_getElem_cons hiN, ← hx])
      obtain ⟨b, hbb⟩ : ∃ b, b = decide (0 ≤ x ∧ x ≤ 1073741824) := ⟨_, rfl⟩
      have H49 : Hid (Calls Tryz.prog 49 #[.int .i64 x] wr (SRet wr (.bool b))) := Lib.hid (by rw [hbb]; exact rnumOk_any x wr)
      have HBB := Lib.hid hbb
      clear hx hiN hbb
      cases b with
      | false =>
        have HQ : Hid (Sp.print p = ([], 213)) := Lib.hid (HPN.out (by
          rw [HTD.out, Sp.numsOk, List.all_append, List.all_cons, show decide (0 ≤ x ∧ x ≤ Sp.most) = false from HBB.out.symm]
          simp))
        go_wp2_with (go_at_call 49; refine H49.out.mono ?_; rintro e w3 ⟨rfl, rfl⟩)
        go_ret2
        rw [HQ.out]
        exact ⟨rfl, HB2.out.trans (HB.mono HB2.out.size)⟩
      | true =>
        have HNK2 : Hid (Sp.numsOk (N.take (i + 1)) = true) := Lib.hid (by
          have h := HNK.out
          rw [HTK.out]
          unfold Sp.numsOk at *
          rw [List.all_append, h, List.all_cons, List.all_nil, show decide (0 ≤ x ∧ x ≤ Sp.most) = true from HBB.out.symm]
          rfl)
        have hI : (str (Lib.itoa x)).size = (Lib.itoa x).length := str_size _
        have hIl := Lib.itoa_length_le x HXI.out.1 HXI.out.2
        have hadd1 : str S ++ (⟨#[32]⟩ : ByteArray) = str (S ++ [32]) := str_cat S [32]
        have hs1 : (str (S ++ [32])).size = S.length + 1 := by rw [str_size, List.length_append]; rfl
        have hadd2 : str (S ++ [32]) ++ str (Lib.itoa x) = str (S ++ 32 :: Lib.itoa x) := by rw [str_cat]; congr 1; simp
        have HN2 : Hid (Sp.wrld ++ ((N.take (i + 1)).flatMap fun x => 32 :: Lib.itoa x) = S ++ 32 :: Lib.itoa x) := Lib.hid (by rw [HTK.out, HS.out]; simp)
        have H50 : Hid (Calls Tryz.prog 50 #[.int .i64 x] wr (BRet wr (.string (str (Lib.itoa x))))) := Lib.hid (itoa_any x wr (HE.out.r.env.below (HB2.out.trans (HB.mono HB2.out.size))) HXI.out.1 HXI.out.2)
        go_wp2_with (first | (go_at_call 49; refine H49.out.mono ?_; rintro e w3 ⟨rfl, rfl⟩) | (go_at_call 50; refine H50.out.mono ?_; rintro e w3 ⟨rfl, hb3⟩))
        go_roundw
        case rel => exact ⟨i + 1, by go_num, by omega, by rw [HN2.out], HNK2, HB.trans (hb3.mono HB.size)⟩
        case measure => simp [intOf]; omega
    · have HNT : Hid (Sp.numsOk N = true) := Lib.hid (by have h := HNK.out; rwa [List.take_of_length_le (by omega)] at h)
      have HST : Hid (S ++ [10] = Sp.headLine N) := Lib.hid (by rw [HS.out, List.take_of_length_le (by omega)]; rfl)
      have hck := HCO.out wr HB
      by_cases cl : 2000 < p.ops.length
      · have T5 : decide (2000 < (p.ops.length : Int)) = true := decide_eq_true (by omega)
        have HQ : Hid (Sp.print p = ([], 216)) := Lib.hid (HPL.out HNT.out cl)
        clear cl
        go_wp2
        go_ret2
        rw [HQ.out]
        exact ⟨rfl, HB2.out.trans (HB.mono HB2.out.size)⟩
      · have T5 : decide (2000 < (p.ops.length : Int)) = false := decide_eq_false (by omega)
        have hl2 : p.ops.length ≤ 2000 := by omega
        clear cl
        have hHD : str S ++ (⟨#[10]⟩ : ByteArray) = str (Sp.headLine N) := by rw [← HST.out]; exact str_cat S [10]
        have HHL : Hid ((Sp.headLine N).length ≤ 248) := Lib.hid (by rw [← HST.out, List.length_append]; simp; omega)
        obtain ⟨HD, hHDe⟩ : ∃ HD, HD = Sp.headLine N := ⟨_, rfl⟩
        rw [← hHDe] at hHD HHL
        have HHD := Lib.hid hHDe
        clear hHDe HNK HS HST
        go_wp2
        go_loopw [9] (fun v9 wr => ∃ (j : Nat), v9 = .int .i64 (j : Int) ∧ j ≤ p.ops.length ∧ Hid (∀ k (hk : k < p.ops.length), k < j → Sp.errO (p.ops[k]'hk) = 0) ∧ Below W2.heap.size W2 wr) (fun v9 _ => p.ops.length - (intOf v9).toNat)
        case atStart => exact ⟨0, rfl, by omega, Lib.hid (fun k hk h => by omega), HB⟩
        case round =>
          obtain ⟨j, rfl, hj, HK, HBJ⟩ := hrel
          clear hck HB
          have hck := HCO.out wr HBJ
          by_cases hltj : j < p.ops.length
          · obtain ⟨ad, s1, s2, s3, hA, hOV, hCC⟩ := (HRO.out.below (HB2.out.trans (HBJ.mono HB2.out.size))).at_ j hltj
            obtain ⟨o, ho⟩ : ∃ o, o = p.ops[j]'hltj := ⟨_, rfl⟩
            rw [← ho] at hOV hCC
            have HOBo : Hid (OpB o) := Lib.hid (HOB.out o (by rw [ho]; exact List.getElem_mem _))
            obtain ⟨er, her⟩ : ∃ er, er = Sp.errO o := ⟨_, rfl⟩
            have H51 : Hid (Calls Tryz.prog 51 #[.agg (opCells o s1 s2 s3).toArray] wr (BRet wr (.int .i64 (er : Nat)))) := Lib.hid (by rw [her]; exact ropErr_any o s1 s2 s3 wr (HE.out.below (HB2.out.trans (HBJ.mono HB2.out.size))) hOV HOBo.out)
            have HCC := Lib.hid hCC
            have HER : Hid (er = Sp.errO (p.ops[j]'hltj)) := Lib.hid (by rw [her, ho])
            clear ho hOV hCC her
            subst hA
            have q2 : (0 : Int) ≤ (j : Int) ∧ (j : Int) < (p.ops.length : Int) := ⟨by omega, by omega⟩
            by_cases he0 : er = 0
            · have T6 : ((er : Int) != 0) = false := by rw [bne_eq_false_iff_eq]; omega
              have HK2 : Hid (∀ k (hk : k < p.ops.length), k < j + 1 → Sp.errO (p.ops[k]'hk) = 0) := Lib.hid (fun k hk hlt2 => by
                by_cases q : k < j
                · exact HK.out k hk q
                · obtain rfl : k = j := by omega
                  rw [← HER.out]; exact he0)
              clear he0
              go_wp2_with (first | (refine wpList_load_any rfl 80 (.tmp 76) rfl (ad.add (j * 16)) rfl (opCells o s1 s2 s3) _ HCC.out Tryz.underlying80 rfl (by kernel_rfl) ?_) | (go_at_call 51; refine H51.out.mono ?_; rintro e w6 ⟨rfl, hb6⟩))
              go_roundw
              case rel => exact ⟨j + 1, by go_num, by omega, HK2, HBJ.trans (hb6.mono HBJ.size)⟩
              case measure => simp [intOf]; omega
            · have T6 : ((er : Int) != 0) = true := by rw [bne_iff_ne]; omega
              have HQ : Hid (Sp.print p = ([], er)) := Lib.hid (by
                rw [HER.out]
                exact Sp.print_firstE (by rw [← HN.out]; exact HNT.out) hl2 j hltj HK.out (by rw [← HER.out]; exact he0))
              clear he0
              go_wp2_with (first | (refine wpList_load_any rfl 80 (.tmp 76) rfl (ad.add (j * 16)) rfl (opCells o s1 s2 s3) _ HCC.out Tryz.underlying80 rfl (by kernel_rfl) ?_) | (go_at_call 51; refine H51.out.mono ?_; rintro e w6 ⟨rfl, hb6⟩))
              go_ret2
              rw [HQ.out]
              exact ⟨rfl, HB2.out.trans ((HBJ.trans (hb6.mono HBJ.size)).mono HB2.out.size)⟩
          · have HKA : Hid (∀ o ∈ p.ops, Sp.errO o = 0) := Lib.hid (fun o ho => by
              obtain ⟨k, hk, e⟩ := List.getElem_of_mem ho
              rw [← e]; exact HK.out k hk (by omega))
            have HG : Hid (Sp.print p = if 1048576 < (HD ++ p.ops.flatMap fun o => Sp.lineR o ++ [10]).length then ([], 216) else (HD ++ p.ops.flatMap (fun o => Sp.lineR o ++ [10]), 0)) := Lib.hid (by
              rw [HHD.out, HN.out]
              exact Sp.print_allR (by rw [← HN.out]; exact HNT.out) hl2 HKA.out)
            obtain ⟨W3, rfl⟩ : ∃ W3, W3 = wr := ⟨_, rfl⟩
            have hcv : (convert 9 45 (.string (str HD))).run Tryz.prog W3 = .ok (.slice (some ⟨W3.heap.size, 0, none⟩) HD.length (grownCap W3 (str HD).size 0 5)) (Lib.bytesWorld W3 5 (str HD)) := by
              have := Lib.run_convert_string_bytes (P := Tryz.prog) W3 9 45 5 (str HD) Tryz.underlying9 Tryz.underlying45 Tryz.underlying5
              rw [this, str_size]
            obtain ⟨W4, hW4⟩ : ∃ W4, W4 = Lib.bytesWorld W3 5 (str HD) := ⟨_, rfl⟩
            have ho4 := OU.conv W3 HD (by have := HHL.out; omega) (base := W2.heap.size) HBJ.size
            obtain ⟨gc, hgc⟩ : ∃ gc, gc = grownCap W3 (str HD).size 0 5 := ⟨_, rfl⟩
            rw [← hW4, ← hgc] at hcv ho4
            have HO4 := Lib.hid ho4
            have HB4 : Hid (Below W2.heap.size W2 W4) := Lib.hid (by
              rw [hW4]
              exact HBJ.trans ((Lib.bytesWorld_below W3 5 (str HD)).mono HBJ.size))
            clear hW4 hgc ho4
            have hsS : (str S).size = S.length := str_size S
            have T0 : decide ((j : Int) < (p.ops.length : Int)) = false := decide_eq_false (by omega)
            go_wp2
            clear hcv
            go_loopw [11, 12] (fun v11 v12 wr => ∃ (i2 : Nat) (out : Sp.Bs) (A1 : Option Addr) (c1 : Nat), v12 = .int .i64 (i2 : Int) ∧ i2 ≤ p.ops.length ∧ v11 = .slice A1 out.length c1 ∧ OU wr W2.heap.size (.slice A1 out.length c1) out ∧ out.length ≤ 1048576 ∧ Hid (out = HD ++ (p.ops.take i2).flatMap fun o => Sp.lineR o ++ [10]) ∧ Below W2.heap.size W2 wr) (fun _ v12 _ => p.ops.length - (intOf v12).toNat)
            case atStart => exact ⟨0, HD, _, _, rfl, by omega, rfl, HO4.out, by have := HHL.out; omega, Lib.hid (by simp), HB4.out⟩
            case round =>
              obtain ⟨i2, out, A1, c1, rfl, hi2, rfl, HO, hol, HOE, HBr⟩ := hrel
              clear hck HBJ
              have hck := HCO.out wr HBr
              by_cases hlt2 : i2 < p.ops.length
              · obtain ⟨ad, s1, s2, s3, hA, hOV, hCC⟩ := (HRO.out.below (HB2.out.trans (HBr.mono HB2.out.size))).at_ i2 hlt2
                obtain ⟨o, ho⟩ : ∃ o, o = p.ops[i2]'hlt2 := ⟨_, rfl⟩
                rw [← ho] at hOV hCC
                have HOBo : Hid (OpB o) := Lib.hid (HOB.out o (by rw [ho]; exact List.getElem_mem _))
                have hek := Sp.errO_kind (HKA.out o (by rw [ho]; exact List.getElem_mem _))
                obtain ⟨L, hL⟩ : ∃ L, L = Sp.lineR o := ⟨_, rfl⟩
                have H52 : Hid (Calls Tryz.prog 52 #[.agg (opCells o s1 s2 s3).toArray] wr (BRet wr (.string (str L)))) := Lib.hid (by rw [hL]; exact ropText_any o s1 s2 s3 wr (HE.out.below (HB2.out.trans (HBr.mono HB2.out.size))) hOV HOBo.out hek.1 hek.2.1 hek.2.2)
                have HCC := Lib.hid hCC
                have hLl : L.length ≤ 104857680 := by rw [hL]; exact lineR_len HOBo.out
                have hLs : (str L).size = L.length := str_size L
                have hadd3 : str L ++ (⟨#[10]⟩ : ByteArray) = str (L ++ [10]) := str_cat L [10]
                obtain ⟨FT, hFT⟩ : ∃ FT, FT = out ++ (L ++ [10]) := ⟨_, rfl⟩
                have HFT := Lib.hid hFT.symm
                have HFE : Hid (FT = HD ++ (p.ops.take (i2 + 1)).flatMap fun o => Sp.lineR o ++ [10]) := Lib.hid (by
                  rw [hFT, HOE.out, List.take_succ_eq_append_getElem hlt2, List.flatMap_append, ← ho, hL]
                  simp)
                clear ho hOV hCC hL hFT hek
                subst hA
                have q2 : (0 : Int) ≤ (i2 : Int) ∧ (i2 : Int) < (p.ops.length : Int) := ⟨by omega, by omega⟩
                have HLL : Hid (out.length + (L ++ [10]).length ≤ 140737488355328) := Lib.hid (by rw [List.length_append]; simp; omega)
                by_cases hbig : 1048576 < FT.length
                · have T7 : decide (1048576 < (FT.length : Int)) = true := decide_eq_true (by omega)
                  have HQ : Hid (Sp.print p = ([], 216)) := Lib.hid (by
                    rw [HG.out, if_pos]
                    have e : (p.ops.flatMap fun o => Sp.lineR o ++ [10]) = ((p.ops.take (i2 + 1)).flatMap fun o => Sp.lineR o ++ [10]) ++ ((p.ops.drop (i2 + 1)).flatMap fun o => Sp.lineR o ++ [10]) := by
                      rw [← List.flatMap_append, List.take_append_drop]
                    rw [e, ← List.append_assoc, ← HFE.out, List.length_append]
                    omega)
                  clear hbig
                  go_wp2_with (first | (refine wpList_load_any rfl 80 (.tmp 96) rfl (ad.add (i2 * 16)) rfl (opCells o s1 s2 s3) _ HCC.out Tryz.underlying80 rfl (by kernel_rfl) ?_) | (go_at_call 52; refine H52.out.mono ?_; rintro e w6 ⟨rfl, hb6⟩) | (at_builtin; refine ap_strO (W := w6) (base := W2.heap.size) (w0 := W2) (v := .slice A1 out.length c1) (l := out) (c := L ++ [10]) rfl rfl rfl rfl (HO.below hb6) (HBr.trans (hb6.mono HBr.size)) (HBr.trans (hb6.mono HBr.size)).size HLL.out ?_; intro v8 w8 HO8 HB8; rw [HFT.out] at HO8; obtain ⟨A8, c8, hv8, _, _⟩ := HO8.reads; subst hv8))
                  go_ret2
                  rw [HQ.out]
                  exact ⟨rfl, HB2.out.trans (HB8.mono HB2.out.size)⟩
                · have T7 : decide (1048576 < (FT.length : Int)) = false := decide_eq_false (by omega)
                  go_wp2_with (first | (refine wpList_load_any rfl 80 (.tmp 96) rfl (ad.add (i2 * 16)) rfl (opCells o s1 s2 s3) _ HCC.out Tryz.underlying80 rfl (by kernel_rfl) ?_) | (go_at_call 52; refine H52.out.mono ?_; rintro e w6 ⟨rfl, hb6⟩) | (at_builtin; refine ap_strO (W := w6) (base := W2.heap.size) (w0 := W2) (v := .slice A1 out.length c1) (l := out) (c := L ++ [10]) rfl rfl rfl rfl (HO.below hb6) (HBr.trans (hb6.mono HBr.size)) (HBr.trans (hb6.mono HBr.size)).size HLL.out ?_; intro v8 w8 HO8 HB8; rw [HFT.out] at HO8; obtain ⟨A8, c8, hv8, _, _⟩ := HO8.reads; subst hv8))
                  go_roundw
                  case rel => exact ⟨i2 + 1, FT, _, _, by go_num, by omega, rfl, HO8, by omega, HFE, HB8⟩
                  case measure => simp [intOf]; omega
              · have HQ : Hid (Sp.print p = (out, 0)) := Lib.hid (by
                  have e : out = HD ++ p.ops.flatMap fun o => Sp.lineR o ++ [10] := by rw [HOE.out, List.take_of_length_le (by omega)]
                  rw [HG.out, ← e, if_neg (by omega)])
                obtain ⟨A9, c9, hv9, _, hr9⟩ := HO.reads
                injection hv9 with e1 e2 e3
                subst e1 e3
                have hcv2 : (convert 45 9 (.slice A1 out.length c1)).run Tryz.prog wr = .ok (.string (str out)) wr := by
                  have hh := Kd.C_string (P := Tryz.prog) (src := 45) (dst := 9) (c := c1) Tryz.underlying45 Tryz.underlying5 Tryz.underlying9 hr9
                  rw [hh, str_us]
                clear hr9
                go_wp2
                go_ret2
                rw [HQ.out]
                exact ⟨rfl, HB2.out.trans (HBr.mono HB2.out.size)⟩
end Go.Proofs.YthnhfddlmkhgkaaGreatDoor

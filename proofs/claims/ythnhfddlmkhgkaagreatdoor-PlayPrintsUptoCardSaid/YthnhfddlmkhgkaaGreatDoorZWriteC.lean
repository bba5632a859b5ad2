/- Walks: what some functions of the play package and its laws compute, as contracts. -/
import Derived.Test.YthnhfddlmkhgkaaGreatDoorZWriteB
set_option linter.unusedVariables false
namespace Go.Proofs.YthnhfddlmkhgkaaGreatDoor
open Go.RowKit Go.Proofs.YthnhfddlmkhgkaaGreatDoorW.PrintWords

theorem letters8 (op : Nat) (h : op < 11) : ∀ l ∈ (Sp.callRows.getD op ([], [])).2, l = 112 ∨ l = 110 ∨ l = 50 ∨ l = 100 ∨ l = 104 ∨ l = 105 ∨ l = 111 ∨ l = 108 := by
  have : ∀ o, o < 11 → ∀ l ∈ (Sp.callRows.getD o ([], [])).2, l = 112 ∨ l = 110 ∨ l = 50 ∨ l = 100 ∨ l = 104 ∨ l = 105 ∨ l = 111 ∨ l = 108 := by decide
  exact this op h
theorem rform_map (op : Nat) (h : op < 11) : Sp.cformsR.getD op [] = (Sp.callRows.getD op ([], [])).2.map Sp.trC := by
  have : ∀ o, o < 11 → Sp.cformsR.getD o [] = (Sp.callRows.getD o ([], [])).2.map Sp.trC := by decide
  exact this op h
set_option maxHeartbeats 8000000 in
set_option maxRecDepth 100000 in
theorem rcallText_any (c : Sp.Call) (va : Value) (w : World) (he : EnvR w) (hc : CallV w c va) (hb : CallB c) (h1 : 0 < c.op) (h2 : c.op < 11) :
    Calls Tryz.prog 55 #[.agg (callCells c va).toArray] w (BRet w (.string (str (Sp.textC c)))) := by
  obtain ⟨A, ka, rfl, hra⟩ := hc
  obtain ⟨op, hopn⟩ : ∃ n : Nat, c.op = n := ⟨c.op.toNat, by omega⟩
  have h0 : 0 < op := by omega
  have h11 : op < 11 := by omega
  obtain ⟨W0, hW0⟩ : ∃ W0, W0 = w.alloc (.cells #[.int .i64 c.op, .int .i64 c.h, .int .i64 c.h2, .int .i64 c.off, .int .i64 c.len, .string (str c.path), .string (str c.name), .string (str c.name2), .slice A c.data.length ka] 51) := ⟨_, rfl⟩
  have hB0 : Below w.heap.size w W0 := by rw [hW0]; exact (Below.refl _ _).alloc (Nat.le_refl _) _
  have hX0 : W0.heap[w.heap.size]? = some (.cells (callCells c (.slice A c.data.length ka)).toArray 51 (0, 0)) := by rw [hW0]; exact heap_alloc_new w _
  obtain ⟨f, hf⟩ : ∃ f, f = (Sp.callRows.getD op ([], [])).2 := ⟨_, rfl⟩
  obtain ⟨nm, hnm⟩ : ∃ f, f = (Sp.callRows.getD op ([], [])).1 := ⟨_, rfl⟩
  obtain ⟨g, hg⟩ : ∃ g, g = Sp.cformsR.getD op [] := ⟨_, rfl⟩
  have hgf : g = f.map Sp.trC := by rw [hg, rform_map op h11, ← hf]
  have hfl : f.length ≤ 4 := by rw [hf]; exact lenCall_le op
  have hgl : g.length = f.length := by rw [hgf, List.length_map]
  have hgs : (str g).size = f.length := by rw [str_size, hgl]
  have hnl : nm.length ≤ 10 := by
    have : ∀ j, j < 11 → (Sp.callRows.getD j ([], [])).1.length ≤ 10 := by decide
    rw [hnm]; exact this op h11
  have hcf : W0.cell? ⟨4, op, none⟩ = some (.string (str g)) := by rw [hg]; exact col_cell gCForms (he.below hB0).cforms op (by have : Sp.cformsR.length = 11 := rfl; omega)
  have hcn : W0.cell? ⟨5, op, none⟩ = some (.string (str nm)) := by
    have h := col_cell gCNames (he.below hB0).cnames op (by have : Sp.cnamesR.length = 11 := rfl; omega)
    rw [show Sp.cnamesR.getD op [] = (Sp.callRows.getD op ([], [])).1 from row_get op h11, ← hnm] at h
    exact h
  have hlen : ∀ k, k ≤ f.length → (Sp.join (nm :: (f.take k).map (Sp.wordC c))).length ≤ 20971535 := fun k hk => by
    have := join_len (nm :: (f.take k).map (Sp.wordC c)) 4194306 (fun x hx => by
      rcases List.mem_cons.1 hx with rfl | hx
      · omega
      · obtain ⟨l, _, rfl⟩ := List.mem_map.1 hx
        exact hb.word l)
    simp only [List.length_cons, List.length_map, List.length_take] at this
    have h5 : (min k f.length + 1) * (4194306 + 1) ≤ 5 * (4194306 + 1) := Nat.mul_le_mul_right _ (by omega)
    omega
  have HLEN := Lib.hid hlen
  have HM : Hid (∀ l ∈ f, l = 112 ∨ l = 110 ∨ l = 50 ∨ l = 100 ∨ l = 104 ∨ l = 105 ∨ l = 111 ∨ l = 108) := Lib.hid (by rw [hf]; exact letters8 op h11)
  have HT : Hid (∀ (t : Sp.Bs) (w : World), t.length ≤ 1099511627776 → Calls Tryz.prog 102 #[.string (str t)] w (BRet w (.string (str (Sp.text t))))) := Lib.hid rtext_any
  obtain ⟨X, hX⟩ : ∃ X, X = Sp.textC c := ⟨_, rfl⟩
  rw [← hX]
  have HX : Hid (Sp.join (nm :: f.map (Sp.wordC c)) = X) := Lib.hid (by rw [hX, Sp.textC, show c.op.toNat = op by omega, ← hf, ← hnm])
  have HG := Lib.hid hgf
  have HBC := Lib.hid hb
  have HR : Hid (ReadU W0 A c.data) := Lib.hid (hra.below hB0)
  have HB0 := Lib.hid hB0
  have HX0 := Lib.hid hX0
  have HE0 := Lib.hid (he.below hB0)
  obtain ⟨x0, _⟩ := call_all hX0
  rw [hopn] at x0
  have q1 : (0 : Int) ≤ (op : Int) ∧ (op : Int) < 11 := ⟨by omega, by omega⟩
  show Calls Tryz.prog 55 #[.agg #[.int .i64 c.op, .int .i64 c.h, .int .i64 c.h2, .int .i64 c.off, .int .i64 c.len, .string (str c.path), .string (str c.name), .string (str c.name2), .slice A c.data.length ka]] w _
  rw [hopn] at hW0
  rw [hopn]
  clear hf hnm hg hgf hlen hX hb hra he hB0 hX0 h1 h2 hopn
  go_enter Tryz.func55, Tryz.ntmps55
  go_upto_region 1 with fail
  rw [← hW0]
  clear hW0
  go_wp2
  go_loopw [3, 5] (fun v3 v5 wr => ∃ (i : Nat), v3 = .string (str (Sp.join (nm :: (f.take i).map (Sp.wordC c)))) ∧ v5 = .int .i64 (i : Int) ∧ i ≤ f.length ∧ Below W0.heap.size W0 wr) (fun _ v5 _ => f.length - (intOf v5).toNat)
  case atStart => exact ⟨0, rfl, rfl, Nat.zero_le _, Below.refl _ _⟩
  case round =>
    obtain ⟨i, rfl, rfl, hi, HBr⟩ := hrel
    clear x0
    obtain ⟨S, hS⟩ : ∃ S, S = Sp.join (nm :: (f.take i).map (Sp.wordC c)) := ⟨_, rfl⟩
    rw [← hS]
    have hSs : (str S).size = S.length := str_size S
    have hSl : S.length ≤ 20971535 := by rw [hS]; exact HLEN.out i hi
    have HS := Lib.hid hS
    clear hS
    by_cases hlt : i < f.length
    · obtain ⟨l, hl⟩ : ∃ l, l = f[i]'hlt := ⟨_, rfl⟩
      have hm := HM.out l (by rw [hl]; exact List.getElem_mem _)
      obtain ⟨C, hC⟩ : ∃ C : Int, C = ((Sp.trC l).toNat : Int) := ⟨_, rfl⟩
      have hx : ∀ h : i < (str g).size, (((str g)[i]'h).toNat : Int) = C := fun h => by
        rw [hC, hl]
        have : (str g)[i]'h = Sp.trC (f[i]'hlt) := by
          show g[i]'_ = _
          simp only [HG.out, List.getElem_map]
        rw [this]
      have HN : Hid (Sp.join (nm :: (f.take (i + 1)).map (Sp.wordC c)) = S ++ 32 :: Sp.wordC c l) := Lib.hid (by
        rw [List.take_succ_eq_append_getElem hlt, ← hl, List.map_append, HS.out]
        exact Sp.join_snoc _ _ _)
      have hwl := HBC.out.word l
      clear hl
      have hrow := (HBr.block _ (row_lt HX0.out)).trans HX0.out
      obtain ⟨x0, x1, x2, x3, x4, x5, x6, x7, x8⟩ := call_all hrow
      have hee := HE0.out.env.below HBr
      have HEE := Lib.hid hee
      have hcv : (convert 45 9 (.slice A c.data.length ka)).run Tryz.prog wr = .ok (.string (str c.data)) wr := by
        have hh := Kd.C_string (P := Tryz.prog) (src := 45) (dst := 9) (c := ka) Tryz.underlying45 Tryz.underlying5 Tryz.underlying9 (HR.out.below HBr)
        rw [hh, str_us]
      have hadd1 : str S ++ (⟨#[32]⟩ : ByteArray) = str (S ++ [32]) := str_cat S [32]
      have hs1 : (str (S ++ [32])).size = S.length + 1 := by rw [str_size, List.length_append]; rfl
      clear hee hrow
      rcases hm with rfl | rfl | rfl | rfl | rfl | rfl | rfl | rfl
      · have hc1 : C = 112 := hC.trans rfl
        subst hc1
        have hw : Sp.wordC c 112 = Sp.text c.path := rfl
        rw [hw] at HN hwl
        have hws : (str (Sp.text c.path)).size = (Sp.text c.path).length := str_size _
        have hadd2 : str (S ++ [32]) ++ str (Sp.text c.path) = str (S ++ 32 :: Sp.text c.path) := by rw [str_cat]; congr 1; simp
        clear hC hw
        go_wp2_with (go_at_call 102; refine (HT.out c.path _ (by have := HBC.out.path; omega)).mono ?_; rintro e w1 ⟨rfl, hb1⟩)
        go_roundw
        case rel => exact ⟨i + 1, by rw [HN.out], by go_num, by omega, HBr.trans (hb1.mono HBr.size)⟩
        case measure => simp [intOf]; omega
      · have hc1 : C = 110 := hC.trans rfl
        subst hc1
        have hw : Sp.wordC c 110 = Sp.text c.name := rfl
        rw [hw] at HN hwl
        have hws : (str (Sp.text c.name)).size = (Sp.text c.name).length := str_size _
        have hadd2 : str (S ++ [32]) ++ str (Sp.text c.name) = str (S ++ 32 :: Sp.text c.name) := by rw [str_cat]; congr 1; simp
        clear hC hw
        go_wp2_with (go_at_call 102; refine (HT.out c.name _ (by have := HBC.out.name; omega)).mono ?_; rintro e w1 ⟨rfl, hb1⟩)
        go_roundw
        case rel => exact ⟨i + 1, by rw [HN.out], by go_num, by omega, HBr.trans (hb1.mono HBr.size)⟩
        case measure => simp [intOf]; omega
      · have hc1 : C = 109 := hC.trans rfl
        subst hc1
        have hw : Sp.wordC c 50 = Sp.text c.name2 := rfl
        rw [hw] at HN hwl
        have hws : (str (Sp.text c.name2)).size = (Sp.text c.name2).length := str_size _
        have hadd2 : str (S ++ [32]) ++ str (Sp.text c.name2) = str (S ++ 32 :: Sp.text c.name2) := by rw [str_cat]; congr 1; simp
        clear hC hw
        go_wp2_with (go_at_call 102; refine (HT.out c.name2 _ (by have := HBC.out.name2; omega)).mono ?_; rintro e w1 ⟨rfl, hb1⟩)
        go_roundw
        case rel => exact ⟨i + 1, by rw [HN.out], by go_num, by omega, HBr.trans (hb1.mono HBr.size)⟩
        case measure => simp [intOf]; omega
      · have hc1 : C = 100 := hC.trans rfl
        subst hc1
        have hw : Sp.wordC c 100 = Sp.text c.data := rfl
        rw [hw] at HN hwl
        have hws : (str (Sp.text c.data)).size = (Sp.text c.data).length := str_size _
        have hadd2 : str (S ++ [32]) ++ str (Sp.text c.data) = str (S ++ 32 :: Sp.text c.data) := by rw [str_cat]; congr 1; simp
        clear hC hw
        go_wp2_with (go_at_call 102; refine (HT.out c.data _ (by have := HBC.out.data; omega)).mono ?_; rintro e w1 ⟨rfl, hb1⟩)
        go_roundw
        case rel => exact ⟨i + 1, by rw [HN.out], by go_num, by omega, HBr.trans (hb1.mono HBr.size)⟩
        case measure => simp [intOf]; omega
      · have hc1 : C = 104 := hC.trans rfl
        subst hc1
        have hw : Sp.wordC c 104 = Lib.itoa c.h := rfl
        rw [hw] at HN hwl
        have hws : (str (Lib.itoa c.h)).size = (Lib.itoa c.h).length := str_size _
        have hadd2 : str (S ++ [32]) ++ str (Lib.itoa c.h) = str (S ++ 32 :: Lib.itoa c.h) := by rw [str_cat]; congr 1; simp
        clear hC hw
        go_wp2_with (go_at_call 50; refine (itoa_any c.h _ HEE.out HBC.out.h.1 HBC.out.h.2).mono ?_; rintro e w1 ⟨rfl, hb1⟩)
        go_roundw
        case rel => exact ⟨i + 1, by rw [HN.out], by go_num, by omega, HBr.trans (hb1.mono HBr.size)⟩
        case measure => simp [intOf]; omega
      · have hc1 : C = 103 := hC.trans rfl
        subst hc1
        have hw : Sp.wordC c 105 = Lib.itoa c.h2 := rfl
        rw [hw] at HN hwl
        have hws : (str (Lib.itoa c.h2)).size = (Lib.itoa c.h2).length := str_size _
        have hadd2 : str (S ++ [32]) ++ str (Lib.itoa c.h2) = str (S ++ 32 :: Lib.itoa c.h2) := by rw [str_cat]; congr 1; simp
        clear hC hw
        go_wp2_with (go_at_call 50; refine (itoa_any c.h2 _ HEE.out HBC.out.h2.1 HBC.out.h2.2).mono ?_; rintro e w1 ⟨rfl, hb1⟩)
        go_roundw
        case rel => exact ⟨i + 1, by rw [HN.out], by go_num, by omega, HBr.trans (hb1.mono HBr.size)⟩
        case measure => simp [intOf]; omega
      · have hc1 : C = 111 := hC.trans rfl
        subst hc1
        have hw : Sp.wordC c 111 = Lib.itoa c.off := rfl
        rw [hw] at HN hwl
        have hws : (str (Lib.itoa c.off)).size = (Lib.itoa c.off).length := str_size _
        have hadd2 : str (S ++ [32]) ++ str (Lib.itoa c.off) = str (S ++ 32 :: Lib.itoa c.off) := by rw [str_cat]; congr 1; simp
        clear hC hw
        go_wp2_with (go_at_call 50; refine (itoa_any c.off _ HEE.out HBC.out.off.1 HBC.out.off.2).mono ?_; rintro e w1 ⟨rfl, hb1⟩)
        go_roundw
        case rel => exact ⟨i + 1, by rw [HN.out], by go_num, by omega, HBr.trans (hb1.mono HBr.size)⟩
        case measure => simp [intOf]; omega
      · have hc1 : C = 108 := hC.trans rfl
        subst hc1
        have hw : Sp.wordC c 108 = Lib.itoa c.len := rfl
        rw [hw] at HN hwl
        have hws : (str (Lib.itoa c.len)).size = (Lib.itoa c.len).length := str_size _
        have hadd2 : str (S ++ [32]) ++ str (Lib.itoa c.len) = str (S ++ 32 :: Lib.itoa c.len) := by rw [str_cat]; congr 1; simp
        clear hC hw
        go_wp2_with (go_at_call 50; refine (itoa_any c.len _ HEE.out HBC.out.len.1 HBC.out.len.2).mono ?_; rintro e w1 ⟨rfl, hb1⟩)
        go_roundw
        case rel => exact ⟨i + 1, by rw [HN.out], by go_num, by omega, HBr.trans (hb1.mono HBr.size)⟩
        case measure => simp [intOf]; omega
    · have hfi : S = X := by rw [HS.out, List.take_of_length_le (by omega), HX.out]
      go_wp2
      go_ret
      exact ⟨by rw [hfi]; rfl, HB0.out.trans (HBr.mono HB0.out.size)⟩
end Go.Proofs.YthnhfddlmkhgkaaGreatDoor

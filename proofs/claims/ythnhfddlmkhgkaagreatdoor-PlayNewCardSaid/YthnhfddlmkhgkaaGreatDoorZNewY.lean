/- PlayNew: the walk. -/
import Derived.Test.YthnhfddlmkhgkaaGreatDoorZNewCll
set_option linter.unusedVariables false
namespace Go.Proofs.YthnhfddlmkhgkaaGreatDoor
open Go.RowKit Go.Proofs.YthnhfddlmkhgkaaGreatDoorW.PrintWords

theorem belowTo {a b c : World} (h : Below a.heap.size a b) (k : Below b.heap.size b c) : Below a.heap.size a c := h.trans (k.mono h.size)
theorem OpsIn.lower {w : World} {base lo : Nat} {D : Nat → Prop} {v : Value} {os : List Sp.Op} {ts : List V3} (h : OpsIn w lo D v os ts) (hb : base ≤ lo) : OpsIn w base D v os ts := ⟨h.1.lower hb, Kd.R_lower h.2.1 hb, h.2.2⟩
theorem RP.aside {w w1 : World} {base : Nat} {v : Value} {xs : List (List Value)} (h : RP w base v xs) (ha : Aside w w1) : RP w1 base v xs := h.step fun k hk => by
  obtain ⟨c, hc⟩ := h.typed k hk
  exact ha.2 k c 28 _ hc (by decide)
theorem BkR.init {w : World} {base g : Nat} (h : w.heap[g]? = some (.cells #[.int .i64 0, .int .i64 0, .slice none 0 0, .slice none 0 0, .slice none 0 0, .slice none 0 0, .slice none 0 0, .slice none 0 0, .slice none 0 0, .slice none 0 0, .slice none 0 0, .slice none 0 0, .slice none 0 0, .slice none 0 0, .slice none 0 0, .slice none 0 0, .slice none 0 0, .slice none 0 0, .slice none 0 0, .slice none 0 0] 71 (0, 0))) (hb : base ≤ g) : BkR w base g 0 [.int .i64 0, .int .i64 0, .slice none 0 0, .slice none 0 0, .slice none 0 0, .slice none 0 0, .slice none 0 0, .slice none 0 0, .slice none 0 0, .slice none 0 0, .slice none 0 0, .slice none 0 0, .slice none 0 0, .slice none 0 0, .slice none 0 0, .slice none 0 0, .slice none 0 0, .slice none 0 0, .slice none 0 0, .slice none 0 0] (fun _ => []) := by
  have hrow : ∀ i, isRow i = true → ([.int .i64 0, .int .i64 0, .slice none 0 0, .slice none 0 0, .slice none 0 0, .slice none 0 0, .slice none 0 0, .slice none 0 0, .slice none 0 0, .slice none 0 0, .slice none 0 0, .slice none 0 0, .slice none 0 0, .slice none 0 0, .slice none 0 0, .slice none 0 0, .slice none 0 0, .slice none 0 0, .slice none 0 0, .slice none 0 0] : List Value)[i]? = some (.slice none 0 0) := fun i hi => by
    unfold isRow at hi
    simp only [Bool.or_eq_true, Bool.and_eq_true, decide_eq_true_eq] at hi
    rcases (show i = 2 ∨ i = 3 ∨ i = 4 ∨ i = 5 ∨ i = 6 ∨ i = 7 ∨ i = 17 ∨ i = 18 ∨ i = 19 by omega) with rfl | rfl | rfl | rfl | rfl | rfl | rfl | rfl | rfl <;> rfl
  refine ⟨h, rfl, hb, rfl, rfl, fun i h8 h17 => ?_, fun i hi => ⟨_, hrow i hi, RV.nil _ _ _⟩, fun i j v u hi hj _ hv hu k hk => ?_⟩
  · rcases (show i = 8 ∨ i = 9 ∨ i = 10 ∨ i = 11 ∨ i = 12 ∨ i = 13 ∨ i = 14 ∨ i = 15 ∨ i = 16 by omega) with rfl | rfl | rfl | rfl | rfl | rfl | rfl | rfl | rfl <;> rfl
  · rw [hrow i hi] at hv
    injection hv with hv
    subst hv
    cases hk
theorem NewSt.init {w W0 : World} {g : Nat} {texts : List Sp.Bs} (h : W0.heap[g]? = some (.cells #[.int .i64 0, .int .i64 0, .slice none 0 0, .slice none 0 0, .slice none 0 0, .slice none 0 0, .slice none 0 0, .slice none 0 0, .slice none 0 0, .slice none 0 0, .slice none 0 0, .slice none 0 0, .slice none 0 0, .slice none 0 0, .slice none 0 0, .slice none 0 0, .slice none 0 0, .slice none 0 0, .slice none 0 0, .slice none 0 0] 71 (0, 0))) (hg : w.heap.size ≤ g) (hb : Below w.heap.size w W0) : NewSt w W0 g texts (fun _ => False) [.int .i64 0, .int .i64 0, .slice none 0 0, .slice none 0 0, .slice none 0 0, .slice none 0 0, .slice none 0 0, .slice none 0 0, .slice none 0 0, .slice none 0 0, .slice none 0 0, .slice none 0 0, .slice none 0 0, .slice none 0 0, .slice none 0 0, .slice none 0 0, .slice none 0 0, .slice none 0 0, .slice none 0 0, .slice none 0 0] (fun _ => []) 0 (.slice none 0 0) where
  kept := ⟨BkR.init h hg, Pairs.nil _ _ _ _ _, Pairs.nil _ _ _ _ _, Pairs.nil _ _ _ _ _, by simp, by simp, by simp, rfl, rfl, rfl⟩
  n2 := by simp
  n5 := by simp
  n17 := by simp
  kt := fun k hk => hk.elim
  row := ⟨[], Kd.R_nil _ _ _ _ _, rfl, fun j x t hx => by simp at hx⟩
  below := hb
  lens := fun j t hj => absurd hj (Nat.not_lt_zero _)
set_option maxHeartbeats 16000000 in
set_option maxRecDepth 100000 in
theorem new_any (A : Option Addr) (c : Nat) (texts : List Sp.Bs) (w : World) (he : Env w) (hr : ReadS w A texts) : Calls Tryz.prog 11 #[.slice A texts.length c] w (BRet w (.bool true)) := by
  have HE := Lib.hid he
  have HR := Lib.hid hr
  have H18 := Lib.hid (first_any w he)
  clear he hr
  by_cases h0 : texts.length = 0
  · have T0 : ((texts.length : Int) == 0) = true := by rw [beq_iff_eq]; omega
    have T1 : ((texts.length : Int)) = 0 := by omega
    clear h0
    go_enter Tryz.func11, Tryz.ntmps11
    go_wp2_with (go_at_call 18; refine H18.out.mono ?_; rintro e w1 ⟨rfl, hb1⟩)
    go_ret
    exact ⟨rfl, hb1⟩
  by_cases h1 : 100 < texts.length
  · have T0 : ((texts.length : Int) == 0) = false := beq_eq_false_iff_ne.2 (by omega)
    have T1 : decide (100 < (texts.length : Int)) = true := decide_eq_true (by omega)
    clear h0 h1
    go_enter Tryz.func11, Tryz.ntmps11
    go_wp2_with (go_at_call 18; refine H18.out.mono ?_; rintro e w1 ⟨rfl, hb1⟩)
    go_ret
    exact ⟨rfl, hb1⟩
  have T0 : ((texts.length : Int) == 0) = false := beq_eq_false_iff_ne.2 (by omega)
  have T1 : decide (100 < (texts.length : Int)) = false := decide_eq_false (by omega)
  have HN : Hid (0 < texts.length ∧ texts.length ≤ 100) := Lib.hid ⟨by omega, by omega⟩
  clear h0 h1
  go_enter Tryz.func11, Tryz.ntmps11
  go_upto_region 6 with (go_at_call 18; refine H18.out.mono ?_; rintro e w1 ⟨rfl, hb1⟩)
  obtain ⟨W0, hW0⟩ : ∃ W0, W0 = w1.alloc (.cells #[.int .i64 0, .int .i64 0, .slice none 0 0, .slice none 0 0, .slice none 0 0, .slice none 0 0, .slice none 0 0, .slice none 0 0, .slice none 0 0, .slice none 0 0, .slice none 0 0, .slice none 0 0, .slice none 0 0, .slice none 0 0, .slice none 0 0, .slice none 0 0, .slice none 0 0, .slice none 0 0, .slice none 0 0, .slice none 0 0] 71) := ⟨_, rfl⟩
  rw [← hW0]
  obtain ⟨g, hg⟩ : ∃ g, g = w1.heap.size := ⟨_, rfl⟩
  rw [← hg]
  have HST : Hid (NewSt w W0 g texts (fun _ => False) [.int .i64 0, .int .i64 0, .slice none 0 0, .slice none 0 0, .slice none 0 0, .slice none 0 0, .slice none 0 0, .slice none 0 0, .slice none 0 0, .slice none 0 0, .slice none 0 0, .slice none 0 0, .slice none 0 0, .slice none 0 0, .slice none 0 0, .slice none 0 0, .slice none 0 0, .slice none 0 0, .slice none 0 0, .slice none 0 0] (fun _ => []) 0 (.slice none 0 0)) := Lib.hid (NewSt.init (by rw [hW0, hg]; exact heap_alloc_new w1 _) (by rw [hg]; exact hb1.size) (by rw [hW0]; exact hb1.alloc hb1.size _))
  have HENV : Hid (∀ wr, Below w.heap.size w wr → Env wr) := Lib.hid (fun wr hb => HE.out.below hb)
  clear hW0 hg hb1 H18 T0 T1 HE
  go_wp2
  go_loopw [4, 6] (fun v4 v6 wr => ∃ (i : Nat) (Af : Option Addr) (cf : Nat), v4 = .slice Af i cf ∧ v6 = .int .i64 (i : Int) ∧ i ≤ texts.length ∧ Hid (∃ K cs L, NewSt w wr g texts K cs L i (.slice Af i cf))) (fun _ v6 _ => texts.length - (intOf v6).toNat)
  case atStart => exact ⟨0, none, 0, rfl, rfl, Nat.zero_le _, Lib.hid ⟨_, _, _, HST.out⟩⟩
  case round =>
    obtain ⟨i, Af, cf, rfl, rfl, hi, HSS⟩ := hrel
    clear HST
    obtain ⟨W3, rfl⟩ : ∃ W3, W3 = wr := ⟨_, rfl⟩
    obtain ⟨K, cs, L, hs⟩ := HSS.out
    have HS := Lib.hid hs
    clear hs HSS
    by_cases hlt : i < texts.length
    · obtain ⟨ad, hA, hcell⟩ := (HR.out.below HS.out.below).at_ i hlt
      obtain ⟨t, ht⟩ : ∃ t, t = texts[i]'hlt := ⟨_, rfl⟩
      rw [← ht] at hcell
      have HTI : Hid (texts[i]? = some t) := Lib.hid (by rw [ht]; exact List.getElem?_eq_getElem hlt)
      have HRT : Hid (∀ wr, Below w.heap.size w wr → wr.cell? (ad.add i) = some (.string (str t))) := Lib.hid (fun wr hb => by
        obtain ⟨ad2, hA2, hc2⟩ := (HR.out.below hb).at_ i hlt
        rw [hA] at hA2
        injection hA2 with hA2
        subst hA2
        rw [ht]; exact hc2)
      clear ht
      subst hA
      have q2 : (0 : Int) ≤ (i : Int) ∧ (i : Int) < (texts.length : Int) := ⟨by omega, by omega⟩
      have hsz : (str t).size = t.length := str_size t
      by_cases hlong : 65536 < t.length
      · have T3 : decide (65536 < (t.length : Int)) = true := decide_eq_true (by omega)
        clear hlong
        go_wp2
        go_ret
        exact ⟨rfl, HS.out.below⟩
      · have T3 : decide (65536 < (t.length : Int)) = false := decide_eq_false (by omega)
        have HTL : Hid (t.length ≤ 65536) := Lib.hid (by omega)
        clear hlong
        obtain ⟨p, n, er, hp⟩ : ∃ p n er, Sp.parse t = (p, n, er) := ⟨_, _, _, rfl⟩
        have na : p.nums.length = 11 := by have h := nums_of t; rwa [hp] at h
        have HB : Hid (PlayB p ∧ p.ops.length ≤ 2000) := Lib.hid (by have h := parse_B t; rwa [hp] at h)
        have HPP : Hid ((Sp.parse t).1 = p) := Lib.hid (by rw [hp])
        obtain ⟨a0, a1, a2, a3, a4, a5, a6, a7, a8, a9, a10, ea⟩ := list11 na
        have H14 : Hid (∀ w', Env w' → Calls Tryz.prog 14 #[.string (str t)] w' (P14O p a0 a1 a2 a3 a4 a5 a6 a7 a8 a9 a10 n er w')) := Lib.hid (fun w' h => parse14 t p n er hp _ _ _ _ _ _ _ _ _ _ _ ea w' h (by have := HTL.out; omega))
        have H16 : Hid (∀ A B j k w', PlayV w' p (.slice A p.ops.length j) → PlayV w' p (.slice B p.ops.length k) → Calls Tryz.prog 16 #[.agg #[.int .i64 a0, .int .i64 a1, .int .i64 a2, .int .i64 a3, .int .i64 a4, .int .i64 a5, .int .i64 a6, .int .i64 a7, .int .i64 a8, .int .i64 a9, .int .i64 a10, .slice A p.ops.length j], .agg #[.int .i64 a0, .int .i64 a1, .int .i64 a2, .int .i64 a3, .int .i64 a4, .int .i64 a5, .int .i64 a6, .int .i64 a7, .int .i64 a8, .int .i64 a9, .int .i64 a10, .slice B p.ops.length k]] w' (BRet w' (.bool true))) := Lib.hid (fun A B j k w' h1 h2 => play16 p _ _ _ _ _ _ _ _ _ _ _ ea A B j k w' h1 h2)
        have H20 : Hid (∀ A k w', PlayV w' p (.slice A p.ops.length k) → Calls Tryz.prog 20 #[.agg #[.int .i64 a0, .int .i64 a1, .int .i64 a2, .int .i64 a3, .int .i64 a4, .int .i64 a5, .int .i64 a6, .int .i64 a7, .int .i64 a8, .int .i64 a9, .int .i64 a10, .slice A p.ops.length k]] w' (P20O p a0 a1 a2 a3 a4 a5 a6 a7 a8 a9 a10 w')) := Lib.hid (fun A k w' h1 => twin20 p _ _ _ _ _ _ _ _ _ _ _ ea A k w' h1 (small_of HB.out))
        have HV : Hid (∀ w' lo v, OpsRow w' lo v p.ops → PlayV w' p v) := Lib.hid (fun w' lo v h => playV_of h na HB.out.1 HB.out.2)
        have HEA : Hid (p.nums = [a0, a1, a2, a3, a4, a5, a6, a7, a8, a9, a10]) := Lib.hid ea
        clear hp na ea
        go_upto_region 12 with (go_at_call 14; refine (H14.out W3 (HENV.out _ HS.out.below)).mono ?_; rintro e w4 ⟨B4, k4, rfl, ho4, hb4⟩)
        obtain ⟨W4, hW4⟩ : ∃ W4, W4 = w4.alloc (.cells #[.int .i64 a0, .int .i64 a1, .int .i64 a2, .int .i64 a3, .int .i64 a4, .int .i64 a5, .int .i64 a6, .int .i64 a7, .int .i64 a8, .int .i64 a9, .int .i64 a10, .slice B4 p.ops.length k4] 28) := ⟨_, rfl⟩
        rw [← hW4]
        obtain ⟨g4, hg4⟩ : ∃ g4, g4 = w4.heap.size := ⟨_, rfl⟩
        rw [← hg4]
        have hw44 : Below w4.heap.size w4 W4 := by rw [hW4]; exact (Below.refl _ _).alloc (Nat.le_refl _) _
        have hr4 : W4.heap[g4]? = some (.cells #[.int .i64 a0, .int .i64 a1, .int .i64 a2, .int .i64 a3, .int .i64 a4, .int .i64 a5, .int .i64 a6, .int .i64 a7, .int .i64 a8, .int .i64 a9, .int .i64 a10, .slice B4 p.ops.length k4] 28 (0, 0)) := by rw [hW4, hg4]; exact heap_alloc_new w4 _
        have hb34 : Below W3.heap.size W3 W4 := hb4.trans (hw44.mono hb4.size)
        have F4 : Hid (Below W3.heap.size W3 W4 ∧ Below w.heap.size w W4 ∧ W4.heap[g4]? = some (.cells #[.int .i64 a0, .int .i64 a1, .int .i64 a2, .int .i64 a3, .int .i64 a4, .int .i64 a5, .int .i64 a6, .int .i64 a7, .int .i64 a8, .int .i64 a9, .int .i64 a10, .slice B4 p.ops.length k4] 28 (0, 0)) ∧ OpsRow W4 W3.heap.size (.slice B4 p.ops.length k4) p.ops ∧ W3.heap.size ≤ g4) := Lib.hid ⟨hb34, HS.out.below.trans (hb34.mono HS.out.below.size), hr4, ho4.below hw44, by rw [hg4]; exact hb4.size⟩
        have hcell4 := HRT.out W4 F4.out.2.1
        clear hW4 hg4 hw44 hr4 hb34 ho4 hb4 hcell
        go_upto_region 13 with (go_at_call 14; refine (H14.out W4 (HENV.out _ F4.out.2.1)).mono ?_; rintro e w5 ⟨B5, k5, rfl, ho5, hb5⟩)
        obtain ⟨W5, hW5⟩ : ∃ W5, W5 = w5.alloc (.cells #[.int .i64 a0, .int .i64 a1, .int .i64 a2, .int .i64 a3, .int .i64 a4, .int .i64 a5, .int .i64 a6, .int .i64 a7, .int .i64 a8, .int .i64 a9, .int .i64 a10, .slice B5 p.ops.length k5] 28) := ⟨_, rfl⟩
        rw [← hW5]
        obtain ⟨g5, hg5⟩ : ∃ g5, g5 = w5.heap.size := ⟨_, rfl⟩
        rw [← hg5]
        have hw55 : Below w5.heap.size w5 W5 := by rw [hW5]; exact (Below.refl _ _).alloc (Nat.le_refl _) _
        have hr5 : W5.heap[g5]? = some (.cells #[.int .i64 a0, .int .i64 a1, .int .i64 a2, .int .i64 a3, .int .i64 a4, .int .i64 a5, .int .i64 a6, .int .i64 a7, .int .i64 a8, .int .i64 a9, .int .i64 a10, .slice B5 p.ops.length k5] 28 (0, 0)) := by rw [hW5, hg5]; exact heap_alloc_new w5 _
        have hb45 : Below W4.heap.size W4 W5 := hb5.trans (hw55.mono hb5.size)
        have F5 : Hid (Below W4.heap.size W4 W5 ∧ Below w.heap.size w W5 ∧ W5.heap[g5]? = some (.cells #[.int .i64 a0, .int .i64 a1, .int .i64 a2, .int .i64 a3, .int .i64 a4, .int .i64 a5, .int .i64 a6, .int .i64 a7, .int .i64 a8, .int .i64 a9, .int .i64 a10, .slice B5 p.ops.length k5] 28 (0, 0)) ∧ OpsRow W5 W4.heap.size (.slice B5 p.ops.length k5) p.ops ∧ W4.heap.size ≤ g5) := Lib.hid ⟨hb45, F4.out.2.1.trans (hb45.mono F4.out.2.1.size), hr5, ho5.below hw55, by rw [hg5]; exact hb5.size⟩
        have HR45 : Hid (W5.heap[g4]? = some (.cells #[.int .i64 a0, .int .i64 a1, .int .i64 a2, .int .i64 a3, .int .i64 a4, .int .i64 a5, .int .i64 a6, .int .i64 a7, .int .i64 a8, .int .i64 a9, .int .i64 a10, .slice B4 p.ops.length k4] 28 (0, 0))) := Lib.hid ((hb45.block _ (row_lt F4.out.2.2.1)).trans F4.out.2.2.1)
        clear hW5 hg5 hw55 hr5 hb45 ho5 hb5 hcell4
        have tk1 := trivial
        go_upto_region 16 with (first
          | (have tq := tk1; refine wpList_load_row rfl 28 (.tmp 7) rfl g4 rfl 28 _ _ _ HR45.out Tryz.underlying28 rfl (by kernel_rfl) ?_; clear tk1 tq; have tk2 := trivial)
          | (have tq := tk2; refine wpList_load_row rfl 28 (.tmp 10) rfl g5 rfl 28 _ _ _ F5.out.2.2.1 Tryz.underlying28 rfl (by kernel_rfl) ?_; clear tk2 tq)
          | (go_at_call 16; refine (H16.out B4 B5 k4 k5 W5 (HV.out _ _ _ (F4.out.2.2.2.1.below F5.out.1)) (HV.out _ _ _ F5.out.2.2.2.1)).mono ?_; rintro e w6 ⟨rfl, hb6⟩))
        have F6 : Hid (Below W5.heap.size W5 w6 ∧ Below w.heap.size w w6) := Lib.hid ⟨hb6, F5.out.2.1.trans (hb6.mono F5.out.2.1.size)⟩
        have hr46 := (hb6.block _ (row_lt HR45.out)).trans HR45.out
        have hr56 := (hb6.block _ (row_lt F5.out.2.2.1)).trans F5.out.2.2.1
        have HR6 := Lib.hid (And.intro hr46 hr56)
        have HV6 : Hid (PlayV w6 p (.slice B4 p.ops.length k4)) := Lib.hid (HV.out _ _ _ ((F4.out.2.2.2.1.below F5.out.1).below hb6))
        have HONE : Hid (∀ (B : Option Addr) (k : Nat), ∀ u ∈ ([.int .i64 a0, .int .i64 a1, .int .i64 a2, .int .i64 a3, .int .i64 a4, .int .i64 a5, .int .i64 a6, .int .i64 a7, .int .i64 a8, .int .i64 a9, .int .i64 a10, .slice B p.ops.length k] : List Value), u.oneCell' = true) := Lib.hid (fun B k u hu => by
          have h : ([.int .i64 a0, .int .i64 a1, .int .i64 a2, .int .i64 a3, .int .i64 a4, .int .i64 a5, .int .i64 a6, .int .i64 a7, .int .i64 a8, .int .i64 a9, .int .i64 a10, .slice B p.ops.length k] : List Value).all (·.oneCell') = true := rfl
          exact List.all_eq_true.1 h u hu)
        obtain ⟨xs, hx1, hx2, hx3⟩ := HS.out.row
        have HX := Lib.hid (And.intro hx1 (And.intro hx2 hx3))
        clear hb6 hr46 hr56 hx1 hx2 hx3
        have tk1 := trivial
        go_upto_region 17 with (first
          | (have tq := tk1; refine wpList_load_row rfl 28 (.tmp 7) rfl g4 rfl 28 _ _ _ HR6.out.1 Tryz.underlying28 rfl (by kernel_rfl) ?_; clear tk1 tq; have tk2 := trivial)
          | (have tq := tk2; go_at_call 20; refine (H20.out B4 k4 w6 HV6.out).mono ?_; rintro e w7 ⟨B7, k7, rfl, ho7, hb7⟩; clear tk2 tq; have tk3 := trivial; have HXR : Hid (RP w7 w.heap.size (.slice Af i cf) xs) := Lib.hid (Kd.R_below HX.out.1 (belowTo F4.out.1 (belowTo F5.out.1 (belowTo F6.out.1 hb7)))); have HB7 : Hid (Below w.heap.size w w7) := Lib.hid (F6.out.2.trans (hb7.mono F6.out.2.size)))
          | (have tq := tk3; refine wpList_build_pl (W := w7) (x := .tmp 80) rfl rfl rfl ?_; clear tk3 tq; have tk4 := trivial)
          | (have tq := tk4; at_builtin; refine ap_pl (W := w7) (base := w.heap.size) (w0 := w) (v := .slice Af i cf) (xs := xs) (cs := [.int .i64 a0, .int .i64 a1, .int .i64 a2, .int .i64 a3, .int .i64 a4, .int .i64 a5, .int .i64 a6, .int .i64 a7, .int .i64 a8, .int .i64 a9, .int .i64 a10, .slice B7 p.ops.length k7]) rfl rfl rfl rfl rfl (HONE.out B7 k7) HXR.out HB7.out HB7.out.size (by have := HX.out.2.1; have := HN.out; omega) ?_; clear tk4 tq; intro v8 w8 z1 z2 z3; obtain ⟨A8, c8, hv8⟩ := Kd.R_slice z1; rw [List.length_append, List.length_singleton, HX.out.2.1] at hv8; subst hv8; have HZ := Lib.hid (And.intro z1 (And.intro z2 z3)); clear z1 z2 z3))
        have hon78 : OnlyT 28 w7 w8 := OnlyT.grown HZ.out.2.2 (fun k hk => by obtain ⟨c, hc⟩ := HXR.out.typed k hk; exact ⟨c, _, hc⟩)
        have hb37 : Below W3.heap.size W3 w7 := belowTo F4.out.1 (belowTo F5.out.1 (belowTo F6.out.1 hb7))
        have hb47 : Below W4.heap.size W4 w7 := belowTo F5.out.1 (belowTo F6.out.1 hb7)
        have hb57 : Below W5.heap.size W5 w7 := belowTo F6.out.1 hb7
        have k38 : Keep3 W3 w8 := (Keep3.below hb37).trans (Keep3.only hon78)
        have k48 : Keep3 W4 w8 := (Keep3.below hb47).trans (Keep3.only hon78)
        have k58 : Keep3 W5 w8 := (Keep3.below hb57).trans (Keep3.only hon78)
        have kept8 : Kept w8 w.heap.size g K cs L := (HS.out.kept.only (OnlyT.below hb37)).only hon78
        have hne : ∀ k : Nat, W3.heap.size ≤ k → some k ≠ (Value.slice Af i cf).ownBlock := fun k hk e => by have := Kd.R_lt HX.out.1 k e.symm; omega
        have hr47 := (hb7.block _ (row_lt HR6.out.1)).trans HR6.out.1
        have hr57 := (hb7.block _ (row_lt HR6.out.2)).trans HR6.out.2
        have hr48 := (HZ.out.2.2.block g4 (row_lt hr47) (hne g4 F4.out.2.2.2.2)).trans hr47
        have hr58 := (HZ.out.2.2.block g5 (row_lt hr57) (hne g5 (Nat.le_trans F4.out.1.size F5.out.2.2.2.2))).trans hr57
        obtain ⟨ts4, hin4⟩ := F4.out.2.2.2.1.open_
        obtain ⟨ts5, hin5⟩ := F5.out.2.2.2.1.open_
        obtain ⟨ts7, hin7⟩ := ho7.open_
        have hin48 := hin4.keep3 k48
        have hin58 := hin5.keep3 k58
        have hops : p.ops.length ≤ 2000 := HB.out.2
        have hi100 : i < 100 := by have := HN.out.2; omega
        have HNS : Hid ((L 2).length ≤ 8001 * i ∧ (L 5).length ≤ 4000 * i ∧ (L 17).length ≤ 2 * i ∧ i < 100 ∧ p.ops.length ≤ 2000) := Lib.hid ⟨HS.out.n2, HS.out.n5, HS.out.n17, hi100, hops⟩
        have H30a := Lib.hid (keepOps_any g w.heap.size 0 W3.heap.size cs L K (OpsD (.slice B4 p.ops.length k4) ts4) (.slice B4 p.ops.length k4) p.ops ts4 w8 kept8.bk kept8.u kept8.b kept8.o hin48 HS.out.below.size HZ.out.2.1.size (fun k hk hk2 => by have := (HS.out.kt k hk).1; have := (hin4.lt hk2).1; omega) (small_of HB.out) (by have := HNS.out; omega) (by have := HNS.out; omega) (by have := HNS.out; omega))
        have hx11 : w8.cell? ⟨g4, 11, none⟩ = some (.slice B4 p.ops.length k4) := by rw [cell_of_row _ _ _ _ _ _ hr48]; rfl
        have G8 := Lib.hid (And.intro kept8 (And.intro hin48 (And.intro hin58 (And.intro k38 (And.intro k48 k58)))))
        have GI := Lib.hid (And.intro hin4 (And.intro hin5 (And.intro hin7 (And.intro hb37 (And.intro hb47 (And.intro hb57 (And.intro hon78 hb7)))))))
        have GR := Lib.hid hr58
        clear hon78 hb37 hb47 hb57 k38 k48 k58 kept8 hne hr47 hr57 hr48 hr58 hin4 hin5 hin7 hin48 hin58 hops hi100 ho7 hb7 HR45 HR6
        go_upto_region 18 with (go_at_call 30; refine H30a.out.mono ?_; rintro e w9 ⟨⟨x9, rfl⟩, hk9⟩)
        obtain ⟨cs9, L9, kept9, n92, n95, n917, ha9, hb9⟩ := KeptO.kept G8.out.1 hk9 (by have := HNS.out; omega) (by have := HNS.out; omega) (by have := HNS.out; omega)
        have hr59 := heap_aside GR.out ha9 (by decide)
        have hin59 := G8.out.2.2.1.keep3 (Keep3.aside ha9)
        have kt9 : KT w9 (fun k => K k ∨ OpsD (.slice B4 p.ops.length k4) ts4 k) := ((HS.out.kt.keep3 G8.out.2.2.2.1).or G8.out.2.1.kt).keep3 (Keep3.aside ha9)
        have hb9w : Below w.heap.size w w9 := HZ.out.2.1.trans hb9
        have H30b := Lib.hid (keepOps_any g w.heap.size 0 W4.heap.size cs9 L9 _ (OpsD (.slice B5 p.ops.length k5) ts5) (.slice B5 p.ops.length k5) p.ops ts5 w9 kept9.bk kept9.u kept9.b kept9.o hin59 F4.out.2.1.size hb9w.size (fun k hk hk2 => by
          have h2 := (GI.out.2.1.lt hk2).1
          have h3 := F4.out.1.size
          rcases hk with hk | hk
          · have := (HS.out.kt k hk).1; omega
          · have := (GI.out.1.lt hk).2; omega) (small_of HB.out) (by have := HNS.out; omega) (by have := HNS.out; omega) (by have := HNS.out; omega))
        have hx11b : w9.cell? ⟨g5, 11, none⟩ = some (.slice B5 p.ops.length k5) := by rw [cell_of_row _ _ _ _ _ _ hr59]; rfl
        have G9 := Lib.hid (And.intro kept9 (And.intro n92 (And.intro n95 (And.intro n917 (And.intro ha9 (And.intro hb9w (And.intro kt9 hin59)))))))
        clear kept9 n92 n95 n917 ha9 hb9 hb9w kt9 hin59 hr59 hx11 hk9 H30a
        go_upto_region 19 with (go_at_call 30; refine H30b.out.mono ?_; rintro e w10 ⟨⟨x10, rfl⟩, hk10⟩)
        obtain ⟨cs10, L10, kept10, n102, n105, n1017, ha10, hb10⟩ := KeptO.kept G9.out.1 hk10 (by have := HNS.out; have := G9.out.2.1; omega) (by have := HNS.out; have := G9.out.2.2.1; omega) (by have := HNS.out; have := G9.out.2.2.2.1; omega)
        have kt10 := ((G9.out.2.2.2.2.2.2.1).or G9.out.2.2.2.2.2.2.2.kt).keep3 (Keep3.aside ha10)
        have hb10w : Below w.heap.size w w10 := G9.out.2.2.2.2.2.1.trans hb10
        have hcell10 := HRT.out w10 hb10w
        obtain ⟨cq, eq, hq⟩ : ∃ cq eq, Sp.parseCall t = (cq, eq) := ⟨_, _, rfl⟩
        have hdq : cq.data.length ≤ 65536 := by
          have h := parseCall_dat t
          rw [hq] at h
          exact Nat.le_trans h HTL.out
        have H28 := Lib.hid (parseCall28 t cq eq hq w10 (HENV.out _ hb10w) (by have := HTL.out; omega))
        have G10 := Lib.hid (And.intro kept10 (And.intro n102 (And.intro n105 (And.intro n1017 (And.intro ha10 (And.intro hb10w (And.intro kt10 hdq)))))))
        clear kept10 n102 n105 n1017 ha10 hb10 hb10w kt10 hdq hx11b hk10 H30b hq
        go_upto_region 20 with (go_at_call 28; refine H28.out.mono ?_; rintro e w11 ⟨B11, k11, rfl, hu11, hb11⟩)
        obtain ⟨W11, hW11⟩ : ∃ W11, W11 = w11.alloc (.cells #[.int .i64 cq.op, .int .i64 cq.h, .int .i64 cq.h2, .int .i64 cq.off, .int .i64 cq.len, .string (str cq.path), .string (str cq.name), .string (str cq.name2), .slice B11 cq.data.length k11] 51) := ⟨_, rfl⟩
        rw [← hW11]
        obtain ⟨g11, hg11⟩ : ∃ g11, g11 = w11.heap.size := ⟨_, rfl⟩
        rw [← hg11]
        have hw1111 : Below w11.heap.size w11 W11 := by rw [hW11]; exact (Below.refl _ _).alloc (Nat.le_refl _) _
        have hr11 : W11.heap[g11]? = some (.cells #[.int .i64 cq.op, .int .i64 cq.h, .int .i64 cq.h2, .int .i64 cq.off, .int .i64 cq.len, .string (str cq.path), .string (str cq.name), .string (str cq.name2), .slice B11 cq.data.length k11] 51 (0, 0)) := by rw [hW11, hg11]; exact heap_alloc_new w11 _
        have hb1011 : Below w10.heap.size w10 W11 := belowTo hb11 hw1111
        have hx8 : W11.cell? ⟨g11, 8, none⟩ = some (.slice B11 cq.data.length k11) := by rw [cell_of_row _ _ _ _ _ _ hr11]; rfl
        have hu11b : OU W11 w10.heap.size (.slice B11 cq.data.length k11) cq.data := hu11.below hw1111
        have hb11w : Below w.heap.size w W11 := G10.out.2.2.2.2.2.1.trans (hb1011.mono G10.out.2.2.2.2.2.1.size)
        have kept11 := G10.out.1.only (OnlyT.below hb1011)
        have H31 := Lib.hid (keepBytes_any g w.heap.size 0 cs10 L10 _ (.slice B11 cq.data.length k11) cq.data W11 kept11.bk kept11.u (hu11b.lower G10.out.2.2.2.2.2.1.size) (by have := G10.out.2.2.2.2.2.2.2; omega) (fun k hk hk2 => by
          have h1 := (G10.out.2.2.2.2.2.2.1 k hk2).1
          have h2 := (hu11b.lt k hk).1
          omega) (by have := HNS.out; have := G9.out.2.1; have := G10.out.2.1; omega) hb11w.size)
        have G11 := Lib.hid (And.intro kept11 (And.intro hu11b (And.intro hb1011 hb11w)))
        clear hW11 hg11 hw1111 hr11 hb1011 hu11 hu11b hb11 hb11w kept11 hcell10 H28
        have hn100 : (texts.length : Int) ≤ 100 := by have := HN.out.2; omega
        go_wp2_with (go_at_call 31; refine H31.out.mono ?_; rintro e w12 ⟨⟨x12, rfl⟩, hk12⟩)
        go_roundw
        case rel =>
          obtain ⟨cs12, L12, kept12, n122, n125, n1217, ha12, hb12⟩ := KeptU.kept G11.out.1 hk12 (by have := HNS.out; have := G9.out.2.1; have := G10.out.2.1; omega)
          obtain ⟨kept8, hin48, hin58, k38, k48, k58⟩ := G8.out
          obtain ⟨hin4, hin5, hin7, hb37, hb47, hb57, hon78, hb7⟩ := GI.out
          obtain ⟨_, n92, n95, n917, ha9, hb9w, kt9, hin59⟩ := G9.out
          obtain ⟨_, n102, n105, n1017, ha10, hb10w, kt10, hdq⟩ := G10.out
          obtain ⟨_, hu11, hb1011, hb11w⟩ := G11.out
          obtain ⟨m1, m2, m3, m4, m5⟩ := HNS.out
          obtain ⟨x1, x2, x3⟩ := HX.out
          have ha812 : ∀ {b : Nat} {v : Value} {ys : List (List Value)}, RP w8 b v ys → RP w12 b v ys := fun h => RP.aside (Kd.R_below (RP.aside (RP.aside h ha9) ha10) hb1011) ha12
          have k812 : Keep3 w8 w12 := (Keep3.aside ha9).trans ((Keep3.aside ha10).trans ((Keep3.below hb1011).trans (Keep3.aside ha12)))
          have k312 : Keep3 W3 w12 := k38.trans k812
          have k712 : Keep3 w7 w12 := (Keep3.only hon78).trans k812
          have s37 : W3.heap.size ≤ w7.heap.size := hb37.size
          have s34 := F4.out.1.size
          have s45 := F5.out.1.size
          have s56 := F6.out.1.size
          have s67 := hb7.size
          have s712 : w7.heap.size ≤ w10.heap.size := Nat.le_trans hon78.1 (Nat.le_trans ha9.1 ha10.1)
          refine ⟨i + 1, A8, c8, rfl, by go_num, by omega, Lib.hid ⟨_, cs12, L12, ⟨kept12, ?_, ?_, ?_, ?_, ⟨xs ++ [[.int .i64 a0, .int .i64 a1, .int .i64 a2, .int .i64 a3, .int .i64 a4, .int .i64 a5, .int .i64 a6, .int .i64 a7, .int .i64 a8, .int .i64 a9, .int .i64 a10, .slice B7 p.ops.length k7]], ha812 HZ.out.1, by rw [List.length_append, x2]; rfl, fun j x t2 hx ht2 => ?_⟩, hb11w.trans hb12, fun j t2 hj ht2 => ?_⟩⟩⟩
          · rw [n122, n102, n92]; omega
          · rw [n125, n105, n95]; omega
          · rw [n1217, n1017, n917]; omega
          · exact ((kt10.keep3 (Keep3.below hb1011)).or (hu11.kt (by simp))).keep3 (Keep3.aside ha12)
          · rcases Nat.lt_or_ge j i with hj | hj
            · rw [List.getElem?_append_left (by omega)] at hx
              refine FirstOk.keep3 ((((x3 j x t2 hx ht2).more (D := OpsD (.slice B4 p.ops.length k4) ts4) (fun k hk => (hin4.lt hk).1)).more (D := OpsD (.slice B5 p.ops.length k5) ts5) (fun k hk => ?_)).more (D := fun k => (Value.slice B11 cq.data.length k11).ownBlock = some k) (fun k hk => ?_)) k312
              · have := (hin5.lt hk).1; omega
              · have := (hu11.lt k hk).1; omega
            · rw [List.getElem?_append_right (by omega)] at hx
              have hj0 : j - xs.length = 0 := by
                have := (List.getElem?_eq_some_iff.1 hx).1
                simp at this; omega
              have hji : j = i := by omega
              subst hji
              rw [hj0] at hx
              have e1 : [.int .i64 a0, .int .i64 a1, .int .i64 a2, .int .i64 a3, .int .i64 a4, .int .i64 a5, .int .i64 a6, .int .i64 a7, .int .i64 a8, .int .i64 a9, .int .i64 a10, .slice B7 p.ops.length k7] = x := by simpa using hx
              have e2 : t2 = t := Option.some.inj (ht2.symm.trans HTI.out)
              subst e2
              rw [HPP.out]
              refine ⟨B7, k7, ts7, by rw [← e1, HEA.out]; rfl, (hin7.keep3 k712).lower (Nat.le_trans F6.out.2.size (Nat.le_refl _)), fun k hk hk2 => ?_⟩
              have h7 := hin7.lt hk
              rcases hk2 with ((hk2 | hk2) | hk2) | hk2
              · have := (HS.out.kt k hk2).1; omega
              · have := (hin4.lt hk2).2; omega
              · have := (hin5.lt hk2).2; omega
              · have := (hu11.lt k hk2).1; omega
          · rcases Nat.lt_or_ge j i with hj2 | hj2
            · exact HS.out.lens j t2 hj2 ht2
            · have hji : j = i := by omega
              subst hji
              have e2 : t2 = t := Option.some.inj (ht2.symm.trans HTI.out)
              subst e2
              exact HTL.out
        case measure => simp [intOf]; omega
    · have hie : i = texts.length := by omega
      subst hie
      obtain ⟨xs, hx1, hx2, hx3⟩ := HS.out.row
      have FR : Hid (FirstsRd W3 texts Af) := Lib.hid (firsts_rd hx1 hx2 hx3)
      have HX := Lib.hid (And.intro hx1 (And.intro hx2 hx3))
      have HB0 : Hid (Below w.heap.size w W3) := Lib.hid HS.out.below
      have hn100 : (texts.length : Int) ≤ 100 := by have := HN.out.2; omega
      clear hx1 hx2 hx3
      go_wp2
      go_loopw [16] (fun v16 wr => ∃ (j : Nat), v16 = .int .i64 (j : Int) ∧ j ≤ texts.length ∧ Below W3.heap.size W3 wr) (fun v16 _ => texts.length - (intOf v16).toNat)
      case atStart => exact ⟨0, rfl, Nat.zero_le _, Below.refl _ _⟩
      case round =>
        obtain ⟨j, rfl, hj, HBr⟩ := hrel
        obtain ⟨Wr, rfl⟩ : ∃ Wr, Wr = wr := ⟨_, rfl⟩
        have HBR := Lib.hid HBr
        clear HBr
        have hbw : Below w.heap.size w Wr := HB0.out.trans (HBR.out.mono HB0.out.size)
        have HBW := Lib.hid hbw
        clear hbw
        by_cases hlt : j < texts.length
        · obtain ⟨ad, hA, hcell⟩ := (HR.out.below HBW.out).at_ j hlt
          obtain ⟨t, ht⟩ : ∃ t, t = texts[j]'hlt := ⟨_, rfl⟩
          rw [← ht] at hcell
          have hti : texts[j]? = some t := by rw [ht]; exact List.getElem?_eq_getElem hlt
          have HTL : Hid (t.length ≤ 65536) := Lib.hid (HS.out.lens j t hlt hti)
          obtain ⟨adf, Af1, cf1, hAf, hC, hPV⟩ := FR.out j t hti
          clear ht
          subst hA
          subst hAf
          have q2 : (0 : Int) ≤ (j : Int) ∧ (j : Int) < (texts.length : Int) := ⟨by omega, by omega⟩
          obtain ⟨p, n, er, hp⟩ : ∃ p n er, Sp.parse t = (p, n, er) := ⟨_, _, _, rfl⟩
          rw [hp] at hC hPV
          simp only at hC hPV
          have na : p.nums.length = 11 := by have h := nums_of t; rwa [hp] at h
          have HB : Hid (PlayB p ∧ p.ops.length ≤ 2000) := Lib.hid (by have h := parse_B t; rwa [hp] at h)
          obtain ⟨a0, a1, a2, a3, a4, a5, a6, a7, a8, a9, a10, ea⟩ := list11 na
          have H14 : Hid (∀ w', Env w' → Calls Tryz.prog 14 #[.string (str t)] w' (P14O p a0 a1 a2 a3 a4 a5 a6 a7 a8 a9 a10 n er w')) := Lib.hid (fun w' h => parse14 t p n er hp _ _ _ _ _ _ _ _ _ _ _ ea w' h (by have := HTL.out; omega))
          have H16 : Hid (∀ A B j k w', PlayV w' p (.slice A p.ops.length j) → PlayV w' p (.slice B p.ops.length k) → Calls Tryz.prog 16 #[.agg #[.int .i64 a0, .int .i64 a1, .int .i64 a2, .int .i64 a3, .int .i64 a4, .int .i64 a5, .int .i64 a6, .int .i64 a7, .int .i64 a8, .int .i64 a9, .int .i64 a10, .slice A p.ops.length j], .agg #[.int .i64 a0, .int .i64 a1, .int .i64 a2, .int .i64 a3, .int .i64 a4, .int .i64 a5, .int .i64 a6, .int .i64 a7, .int .i64 a8, .int .i64 a9, .int .i64 a10, .slice B p.ops.length k]] w' (BRet w' (.bool true))) := Lib.hid (fun A B j k w' h1 h2 => play16 p _ _ _ _ _ _ _ _ _ _ _ ea A B j k w' h1 h2)
          have H19 : Hid (∀ A k w', Env w' → PlayV w' p (.slice A p.ops.length k) → Calls Tryz.prog 19 #[.agg #[.int .i64 a0, .int .i64 a1, .int .i64 a2, .int .i64 a3, .int .i64 a4, .int .i64 a5, .int .i64 a6, .int .i64 a7, .int .i64 a8, .int .i64 a9, .int .i64 a10, .slice A p.ops.length k]] w' (W2 w' (Sp.print p))) := Lib.hid (fun A k w' h1 h2 => play19 p _ _ _ _ _ _ _ _ _ _ _ ea A k w' h1 h2 HB.out.1)
          have HV : Hid (∀ w' lo v, OpsRow w' lo v p.ops → PlayV w' p v) := Lib.hid (fun w' lo v h => playV_of h na HB.out.1 HB.out.2)
          rw [ea] at hC
          have HC := Lib.hid hC
          have HPV := Lib.hid hPV
          clear hp na ea hC hPV hti
          go_upto_region 25 with (go_at_call 14; refine (H14.out Wr (HENV.out _ HBW.out)).mono ?_; rintro e w4 ⟨B4, k4, rfl, ho4, hb4⟩)
          obtain ⟨W4, hW4⟩ : ∃ W4, W4 = w4.alloc (.cells #[.int .i64 a0, .int .i64 a1, .int .i64 a2, .int .i64 a3, .int .i64 a4, .int .i64 a5, .int .i64 a6, .int .i64 a7, .int .i64 a8, .int .i64 a9, .int .i64 a10, .slice B4 p.ops.length k4] 28) := ⟨_, rfl⟩
          rw [← hW4]
          obtain ⟨g4, hg4⟩ : ∃ g4, g4 = w4.heap.size := ⟨_, rfl⟩
          rw [← hg4]
          have hw44 : Below w4.heap.size w4 W4 := by rw [hW4]; exact (Below.refl _ _).alloc (Nat.le_refl _) _
          have hr4 : W4.heap[g4]? = some (.cells #[.int .i64 a0, .int .i64 a1, .int .i64 a2, .int .i64 a3, .int .i64 a4, .int .i64 a5, .int .i64 a6, .int .i64 a7, .int .i64 a8, .int .i64 a9, .int .i64 a10, .slice B4 p.ops.length k4] 28 (0, 0)) := by rw [hW4, hg4]; exact heap_alloc_new w4 _
          have hb34 : Below Wr.heap.size Wr W4 := belowTo hb4 hw44
          have F4 : Hid (Below W3.heap.size W3 W4 ∧ Below w.heap.size w W4 ∧ W4.heap[g4]? = some (.cells #[.int .i64 a0, .int .i64 a1, .int .i64 a2, .int .i64 a3, .int .i64 a4, .int .i64 a5, .int .i64 a6, .int .i64 a7, .int .i64 a8, .int .i64 a9, .int .i64 a10, .slice B4 p.ops.length k4] 28 (0, 0)) ∧ PlayV W4 p (.slice B4 p.ops.length k4)) := Lib.hid ⟨belowTo HBR.out hb34, HBW.out.trans (hb34.mono HBW.out.size), hr4, HV.out _ _ _ (ho4.below hw44)⟩
          clear hW4 hg4 hw44 hr4 hb34 ho4 hb4 hcell
          have tk1 := trivial
          go_upto_region 26 with (first
            | (have tq := tk1; refine wpList_load_row rfl 28 (.tmp 17) rfl g4 rfl 28 _ _ _ F4.out.2.2.1 Tryz.underlying28 rfl (by kernel_rfl) ?_; clear tk1 tq)
            | (go_at_call 19; refine (H19.out B4 k4 W4 (HENV.out _ F4.out.2.1) F4.out.2.2.2).mono ?_; rintro e w5 ⟨rfl, hb5⟩))
          have hr5 := (hb5.block _ (row_lt F4.out.2.2.1)).trans F4.out.2.2.1
          have F5 : Hid (Below W3.heap.size W3 w5.drew) := Lib.hid (belowTo F4.out.1 hb5).drew
          have HC1 : Hid (∀ (i : Nat) (u : Value), ([.int .i64 a0, .int .i64 a1, .int .i64 a2, .int .i64 a3, .int .i64 a4, .int .i64 a5, .int .i64 a6, .int .i64 a7, .int .i64 a8, .int .i64 a9, .int .i64 a10, .slice B4 p.ops.length k4] : List Value)[i]? = some u → w5.drew.cell? ((⟨g4, 0, none⟩ : Addr).add i) = some u) := Lib.hid (fun i u hu => by
            have e : w5.drew.cell? ((⟨g4, 0, none⟩ : Addr).add i) = w5.cell? ((⟨g4, 0, none⟩ : Addr).add i) := rfl
            rw [e, Lib.add_plain, cell_of_row _ _ _ _ _ _ hr5]
            simpa using hu)
          have HC2 : Hid (∀ (i : Nat) (u : Value), ([.int .i64 a0, .int .i64 a1, .int .i64 a2, .int .i64 a3, .int .i64 a4, .int .i64 a5, .int .i64 a6, .int .i64 a7, .int .i64 a8, .int .i64 a9, .int .i64 a10, .slice Af1 p.ops.length cf1] : List Value)[i]? = some u → w5.drew.cell? ((adf.add (j * 12)).add i) = some u) := Lib.hid (fun i u hu => pw_cell_below F5.out (HC.out i u hu))
          have HS16 := Lib.hid (H16.out B4 Af1 k4 cf1 w5.drew (F4.out.2.2.2.below hb5.drew) (HPV.out.below F5.out))
          clear hr5 hb5
          refine region_mix [] [0, 1, 2, 3, 4] [5, 6] mixed (by kernel_rfl) (fun _ _ _ _ _ h => h) ?_
          simp only [pick, List.getElem?_cons_zero, List.getElem?_cons_succ]
          refine wpPre_nil ?_
          refine still_load_any rfl 28 _ rfl ⟨g4, 0, none⟩ rfl _ _ HC1.out Tryz.underlying28 rfl (by kernel_rfl) ?_
          iterate 3 still_step
          refine still_load_any rfl 28 _ rfl (adf.add (j * 12)) rfl _ _ HC2.out Tryz.underlying28 rfl (by kernel_rfl) ?_
          refine wpStill_nil ?_
          go_wp2_with (go_at_call 16; refine HS16.out.mono ?_; rintro e w6 ⟨rfl, hb6⟩)
          go_roundw
          case rel => exact ⟨j + 1, by go_num, by omega, F5.out.trans (hb6.mono F5.out.size)⟩
          case measure => simp [intOf]; omega
        · have HFIN := Lib.hid (finish_any g w.heap.size cs L K Wr (HS.out.kept.only (OnlyT.below HBR.out)) HBW.out.size)
          go_upto_region 30 with (go_at_call 32; refine HFIN.out.mono ?_; rintro e w7 ⟨rfl, hhold, hfr, hb7⟩)
          have FR7 : Hid (FirstsRd w7 texts Af) := Lib.hid (by
            obtain ⟨x1, x2, x3⟩ := HX.out
            have x1r := Kd.R_below x1 HBR.out
            have ktr := HS.out.kt.keep3 (Keep3.below HBR.out)
            refine firsts_rd (RP.step x1r fun k hk => ?_) x2 fun j x t hx ht => ((x3 j x t hx ht).keep3 (Keep3.below HBR.out)).frb hfr
            obtain ⟨c, hc⟩ := RP.typed x1r k hk
            refine hfr.2 k c 28 _ hc (by decide) (fun hK => ?_)
            obtain ⟨_, c2, e2, fr2, hc2, he2⟩ := ktr k hK
            rw [hc] at hc2
            injection hc2 with hc2
            injection hc2 with _ hc2 _
            subst hc2
            revert he2; decide)
          have HH := Lib.hid hhold
          have HB7 : Hid (Below w.heap.size w w7) := Lib.hid (HBW.out.trans hb7)
          clear hhold hfr hb7 HFIN HX FR HBR HBW HB0
          go_wp2
          go_loopw [3, 21] (fun v3 v21 wr => ∃ (j : Nat), v3 = .bool true ∧ v21 = .int .i64 (j : Int) ∧ j ≤ texts.length ∧ Below w7.heap.size w7 wr) (fun _ v21 _ => texts.length - (intOf v21).toNat)
          case atStart => exact ⟨0, rfl, rfl, Nat.zero_le _, Below.refl _ _⟩
          case round =>
            obtain ⟨j, rfl, rfl, hj, HBr⟩ := hrel
            obtain ⟨Wr, rfl⟩ : ∃ Wr, Wr = wr := ⟨_, rfl⟩
            have HBR := Lib.hid HBr
            clear HBr
            have hbw : Below w.heap.size w Wr := HB7.out.trans (HBR.out.mono HB7.out.size)
            have HBW := Lib.hid hbw
            clear hbw
            by_cases hlt : j < texts.length
            · obtain ⟨ad, hA, hcell⟩ := (HR.out.below HBW.out).at_ j hlt
              obtain ⟨t, ht⟩ : ∃ t, t = texts[j]'hlt := ⟨_, rfl⟩
              rw [← ht] at hcell
              have hti : texts[j]? = some t := by rw [ht]; exact List.getElem?_eq_getElem hlt
              have HTL : Hid (t.length ≤ 65536) := Lib.hid (HS.out.lens j t hlt hti)
              obtain ⟨adf, Af1, cf1, hAf, hC, hPV⟩ := FR7.out j t hti
              clear ht
              subst hA
              subst hAf
              have q2 : (0 : Int) ≤ (j : Int) ∧ (j : Int) < (texts.length : Int) := ⟨by omega, by omega⟩
              obtain ⟨p, n, er, hp⟩ : ∃ p n er, Sp.parse t = (p, n, er) := ⟨_, _, _, rfl⟩
              rw [hp] at hC hPV
              simp only at hC hPV
              have na : p.nums.length = 11 := by have h := nums_of t; rwa [hp] at h
              have HB : Hid (PlayB p ∧ p.ops.length ≤ 2000) := Lib.hid (by have h := parse_B t; rwa [hp] at h)
              obtain ⟨a0, a1, a2, a3, a4, a5, a6, a7, a8, a9, a10, ea⟩ := list11 na
              have H14 : Hid (∀ w', Env w' → Calls Tryz.prog 14 #[.string (str t)] w' (P14O p a0 a1 a2 a3 a4 a5 a6 a7 a8 a9 a10 n er w')) := Lib.hid (fun w' h => parse14 t p n er hp _ _ _ _ _ _ _ _ _ _ _ ea w' h (by have := HTL.out; omega))
              have H16 : Hid (∀ A B j k w', PlayV w' p (.slice A p.ops.length j) → PlayV w' p (.slice B p.ops.length k) → Calls Tryz.prog 16 #[.agg #[.int .i64 a0, .int .i64 a1, .int .i64 a2, .int .i64 a3, .int .i64 a4, .int .i64 a5, .int .i64 a6, .int .i64 a7, .int .i64 a8, .int .i64 a9, .int .i64 a10, .slice A p.ops.length j], .agg #[.int .i64 a0, .int .i64 a1, .int .i64 a2, .int .i64 a3, .int .i64 a4, .int .i64 a5, .int .i64 a6, .int .i64 a7, .int .i64 a8, .int .i64 a9, .int .i64 a10, .slice B p.ops.length k]] w' (BRet w' (.bool true))) := Lib.hid (fun A B j k w' h1 h2 => play16 p _ _ _ _ _ _ _ _ _ _ _ ea A B j k w' h1 h2)
              have HV : Hid (∀ w' lo v, OpsRow w' lo v p.ops → PlayV w' p v) := Lib.hid (fun w' lo v h => playV_of h na HB.out.1 HB.out.2)
              rw [ea] at hC
              have HC := Lib.hid hC
              have HPV := Lib.hid hPV
              clear hp na ea hC hPV hti
              go_upto_region 34 with (go_at_call 14; refine (H14.out Wr (HENV.out _ HBW.out)).mono ?_; rintro e w4 ⟨B4, k4, rfl, ho4, hb4⟩)
              obtain ⟨W4, hW4⟩ : ∃ W4, W4 = w4.alloc (.cells #[.int .i64 a0, .int .i64 a1, .int .i64 a2, .int .i64 a3, .int .i64 a4, .int .i64 a5, .int .i64 a6, .int .i64 a7, .int .i64 a8, .int .i64 a9, .int .i64 a10, .slice B4 p.ops.length k4] 28) := ⟨_, rfl⟩
              rw [← hW4]
              obtain ⟨g4, hg4⟩ : ∃ g4, g4 = w4.heap.size := ⟨_, rfl⟩
              rw [← hg4]
              have hw44 : Below w4.heap.size w4 W4 := by rw [hW4]; exact (Below.refl _ _).alloc (Nat.le_refl _) _
              have hr4 : W4.heap[g4]? = some (.cells #[.int .i64 a0, .int .i64 a1, .int .i64 a2, .int .i64 a3, .int .i64 a4, .int .i64 a5, .int .i64 a6, .int .i64 a7, .int .i64 a8, .int .i64 a9, .int .i64 a10, .slice B4 p.ops.length k4] 28 (0, 0)) := by rw [hW4, hg4]; exact heap_alloc_new w4 _
              have hb34 : Below Wr.heap.size Wr W4 := belowTo hb4 hw44
              have F4 : Hid (Below w7.heap.size w7 W4.drew ∧ PlayV W4.drew p (.slice B4 p.ops.length k4)) := Lib.hid ⟨(belowTo HBR.out hb34).drew, (HV.out _ _ _ (ho4.below hw44)).below ((Below.refl _ _).drew)⟩
              have HC1 : Hid (∀ (i : Nat) (u : Value), ([.int .i64 a0, .int .i64 a1, .int .i64 a2, .int .i64 a3, .int .i64 a4, .int .i64 a5, .int .i64 a6, .int .i64 a7, .int .i64 a8, .int .i64 a9, .int .i64 a10, .slice B4 p.ops.length k4] : List Value)[i]? = some u → W4.drew.cell? ((⟨g4, 0, none⟩ : Addr).add i) = some u) := Lib.hid (fun i u hu => by
                have e : W4.drew.cell? ((⟨g4, 0, none⟩ : Addr).add i) = W4.cell? ((⟨g4, 0, none⟩ : Addr).add i) := rfl
                rw [e, Lib.add_plain, cell_of_row _ _ _ _ _ _ hr4]
                simpa using hu)
              have HC2 : Hid (∀ (i : Nat) (u : Value), ([.int .i64 a0, .int .i64 a1, .int .i64 a2, .int .i64 a3, .int .i64 a4, .int .i64 a5, .int .i64 a6, .int .i64 a7, .int .i64 a8, .int .i64 a9, .int .i64 a10, .slice Af1 p.ops.length cf1] : List Value)[i]? = some u → W4.drew.cell? ((adf.add (j * 12)).add i) = some u) := Lib.hid (fun i u hu => pw_cell_below F4.out.1 (HC.out i u hu))
              have HS16 := Lib.hid (H16.out B4 Af1 k4 cf1 W4.drew F4.out.2 (HPV.out.below F4.out.1))
              clear hW4 hg4 hw44 hr4 hb34 ho4 hb4 hcell
              refine region_mix [] [0, 1, 2, 3, 4] [5, 6] mixed (by kernel_rfl) (fun _ _ _ _ _ h => h) ?_
              simp only [pick, List.getElem?_cons_zero, List.getElem?_cons_succ]
              refine wpPre_nil ?_
              refine still_load_any rfl 28 _ rfl ⟨g4, 0, none⟩ rfl _ _ HC1.out Tryz.underlying28 rfl (by kernel_rfl) ?_
              iterate 3 still_step
              refine still_load_any rfl 28 _ rfl (adf.add (j * 12)) rfl _ _ HC2.out Tryz.underlying28 rfl (by kernel_rfl) ?_
              refine wpStill_nil ?_
              go_wp2_with (go_at_call 16; refine HS16.out.mono ?_; rintro e w6 ⟨rfl, hb6⟩)
              go_roundw
              case rel => exact ⟨j + 1, rfl, by go_num, by omega, F4.out.1.trans (hb6.mono F4.out.1.size)⟩
              case measure => simp [intOf]; omega
            · have H33 := Lib.hid (holds_any g w.heap.size 1 Wr (HH.out.below HBR.out) (Nat.le_refl _))
              go_wp2_with (go_at_call 33; refine H33.out.mono ?_; rintro e w9 ⟨rfl, hb9⟩)
              go_ret
              exact ⟨rfl, HBW.out.trans (hb9.mono HBW.out.size)⟩
end Go.Proofs.YthnhfddlmkhgkaaGreatDoor

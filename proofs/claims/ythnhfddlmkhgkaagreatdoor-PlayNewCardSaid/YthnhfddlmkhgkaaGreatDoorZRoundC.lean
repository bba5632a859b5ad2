/- Walks: what some functions of the play package and its laws compute, as contracts. -/
import Derived.Test.YthnhfddlmkhgkaaGreatDoorZFirst
set_option linter.unusedVariables false
namespace Go.Proofs.YthnhfddlmkhgkaaGreatDoor
open Go.RowKit Go.Proofs.YthnhfddlmkhgkaaGreatDoorW.PrintWords

/-- a play with its numbers told, as the laws hold it -/
theorem play19 (p : Sp.Play) (a0 a1 a2 a3 a4 a5 a6 a7 a8 a9 a10 : Int) (ea : p.nums = [a0, a1, a2, a3, a4, a5, a6, a7, a8, a9, a10]) (A : Option Addr) (k : Nat) (w : World) (he : Env w) (hv : PlayV w p (.slice A p.ops.length k)) (hb : PlayB p) :
    Calls Tryz.prog 19 #[.agg #[.int .i64 a0, .int .i64 a1, .int .i64 a2, .int .i64 a3, .int .i64 a4, .int .i64 a5, .int .i64 a6, .int .i64 a7, .int .i64 a8, .int .i64 a9, .int .i64 a10, .slice A p.ops.length k]] w (W2 w (Sp.print p)) := by
  have h := print_any p _ w he hv hb
  rw [ea] at h
  exact h
theorem play16 (p : Sp.Play) (a0 a1 a2 a3 a4 a5 a6 a7 a8 a9 a10 : Int) (ea : p.nums = [a0, a1, a2, a3, a4, a5, a6, a7, a8, a9, a10]) (A B : Option Addr) (j k : Nat) (w : World) (ha : PlayV w p (.slice A p.ops.length j)) (hb : PlayV w p (.slice B p.ops.length k)) :
    Calls Tryz.prog 16 #[.agg #[.int .i64 a0, .int .i64 a1, .int .i64 a2, .int .i64 a3, .int .i64 a4, .int .i64 a5, .int .i64 a6, .int .i64 a7, .int .i64 a8, .int .i64 a9, .int .i64 a10, .slice A p.ops.length j], .agg #[.int .i64 a0, .int .i64 a1, .int .i64 a2, .int .i64 a3, .int .i64 a4, .int .i64 a5, .int .i64 a6, .int .i64 a7, .int .i64 a8, .int .i64 a9, .int .i64 a10, .slice B p.ops.length k]] w (BRet w (.bool true)) := by
  have h := same_any p p _ _ w ha hb
  rw [decide_eq_true rfl, ea] at h
  exact h
def P14 (p : Sp.Play) (a0 a1 a2 a3 a4 a5 a6 a7 a8 a9 a10 : Int) (n er : Nat) (w : World) (e : Ending) (w' : World) : Prop :=
  ∃ A k, e = .returned (.tuple #[.agg #[.int .i64 a0, .int .i64 a1, .int .i64 a2, .int .i64 a3, .int .i64 a4, .int .i64 a5, .int .i64 a6, .int .i64 a7, .int .i64 a8, .int .i64 a9, .int .i64 a10, .slice A p.ops.length k], .int .i64 (n : Int), .int .i64 (er : Int)]) ∧ PlayV w' p (.slice A p.ops.length k) ∧ Below w.heap.size w w'
theorem play14 (t : Sp.Bs) (p : Sp.Play) (n er : Nat) (hp : Sp.parse t = (p, n, er)) (a0 a1 a2 a3 a4 a5 a6 a7 a8 a9 a10 : Int) (ea : p.nums = [a0, a1, a2, a3, a4, a5, a6, a7, a8, a9, a10]) (w : World) (he : Env w) (hs : t.length ≤ 140737488355328) :
    Calls Tryz.prog 14 #[.string (str t)] w (P14 p a0 a1 a2 a3 a4 a5 a6 a7 a8 a9 a10 n er w) := by
  have hb := parse_B t
  have h := parse_any t w he hs
  rw [hp] at h hb
  refine h.mono ?_
  rintro e w1 ⟨v, rfl, h11, ho, hbl⟩
  have hv := playV_of ho h11 hb.1 hb.2
  have hv' := hv
  obtain ⟨_, A, k, rfl, _⟩ := hv
  refine ⟨A, k, ?_, hv', hbl⟩
  simp only
  rw [ea]
  rfl
set_option maxHeartbeats 4000000 in
set_option maxRecDepth 100000 in
/-- the walk of PlayRound -/
theorem round_any (p : Sp.Play) (vp : Value) (w : World) (he : Env w) (hv : PlayV w p vp) (hb : PlayB p) :
    Calls Tryz.prog 5 #[.agg (playCells p.nums vp).toArray] w (BRet w (.bool true)) := by
  have hv0 := hv
  obtain ⟨na, A, k, rfl, _, _, _⟩ := hv
  obtain ⟨a0, a1, a2, a3, a4, a5, a6, a7, a8, a9, a10, ea⟩ := list11 na
  rw [ea]
  show Calls Tryz.prog 5 #[.agg #[.int .i64 a0, .int .i64 a1, .int .i64 a2, .int .i64 a3, .int .i64 a4, .int .i64 a5, .int .i64 a6, .int .i64 a7, .int .i64 a8, .int .i64 a9, .int .i64 a10, .slice A p.ops.length k]] w _
  have HE := Lib.hid he
  have H18 : Hid (∀ w, Env w → Calls Tryz.prog 18 #[] w (BRet w (.bool true))) := Lib.hid first_any
  have hb1 : Below w.heap.size w (w.alloc (.cells #[.int .i64 a0, .int .i64 a1, .int .i64 a2, .int .i64 a3, .int .i64 a4, .int .i64 a5, .int .i64 a6, .int .i64 a7, .int .i64 a8, .int .i64 a9, .int .i64 a10, .slice A p.ops.length k] 28)) := (Below.refl _ _).alloc (Nat.le_refl _) _
  have hr1 := heap_alloc_new w (.cells #[.int .i64 a0, .int .i64 a1, .int .i64 a2, .int .i64 a3, .int .i64 a4, .int .i64 a5, .int .i64 a6, .int .i64 a7, .int .i64 a8, .int .i64 a9, .int .i64 a10, .slice A p.ops.length k] 28)
  have HR1 := Lib.hid (And.intro hb1 (And.intro (hv0.below hb1) hr1))
  clear hb1 hr1 hv0
  have H19 : Hid (∀ A k w, Env w → PlayV w p (.slice A p.ops.length k) → Calls Tryz.prog 19 #[.agg #[.int .i64 a0, .int .i64 a1, .int .i64 a2, .int .i64 a3, .int .i64 a4, .int .i64 a5, .int .i64 a6, .int .i64 a7, .int .i64 a8, .int .i64 a9, .int .i64 a10, .slice A p.ops.length k]] w (W2 w (Sp.print p))) := Lib.hid (fun A k w h1 h2 => play19 p _ _ _ _ _ _ _ _ _ _ _ ea A k w h1 h2 hb)
  have H16 : Hid (∀ A B j k w, PlayV w p (.slice A p.ops.length j) → PlayV w p (.slice B p.ops.length k) → Calls Tryz.prog 16 #[.agg #[.int .i64 a0, .int .i64 a1, .int .i64 a2, .int .i64 a3, .int .i64 a4, .int .i64 a5, .int .i64 a6, .int .i64 a7, .int .i64 a8, .int .i64 a9, .int .i64 a10, .slice A p.ops.length j], .agg #[.int .i64 a0, .int .i64 a1, .int .i64 a2, .int .i64 a3, .int .i64 a4, .int .i64 a5, .int .i64 a6, .int .i64 a7, .int .i64 a8, .int .i64 a9, .int .i64 a10, .slice B p.ops.length k]] w (BRet w (.bool true))) := Lib.hid (fun A B j k w h1 h2 => play16 p _ _ _ _ _ _ _ _ _ _ _ ea A B j k w h1 h2)
  obtain ⟨t, er, hpr⟩ : ∃ t er, Sp.print p = (t, er) := ⟨_, _, rfl⟩
  rw [hpr] at H19
  by_cases he0 : er = 0
  · subst he0
    have hpb := Sp.print_back na (by rw [hpr])
    rw [hpr] at hpb
    have hlen : t.length ≤ 1048576 := by
      obtain ⟨_, _, t2, _, h4, h5⟩ := Sp.print_open (p := p) (by rw [hpr])
      rw [hpr] at h4
      simp only at h4
      rw [h4]; exact h5
    have H14 : Hid (∀ w, Env w → Calls Tryz.prog 14 #[.string (str t)] w (P14 p a0 a1 a2 a3 a4 a5 a6 a7 a8 a9 a10 0 0 w)) := Lib.hid (fun w h => play14 t p 0 0 hpb _ _ _ _ _ _ _ _ _ _ _ ea w h (by omega))
    clear hpb hlen hpr ea na hb he
    go_enter Tryz.func5, Tryz.ntmps5
    go_wp2_with (first
      | (go_at_call 18; refine (H18.out _ (HE.out.below HR1.out.1)).mono ?_; rintro e w1 ⟨rfl, hb⟩; have HR2 := Lib.hid (And.intro (HR1.out.1.trans (hb.mono HR1.out.1.size)) (And.intro (HR1.out.2.1.below hb) ((hb.block _ (row_lt HR1.out.2.2)).trans HR1.out.2.2))); clear hb)
      | (refine wpList_load_row rfl 28 (.tmp 1) rfl w.heap.size rfl 28 _ _ _ HR4.out.2.2.2 Tryz.underlying28 rfl (by kernel_rfl) ?_)
      | (refine wpList_load_row rfl 28 (.tmp 1) rfl w.heap.size rfl 28 _ _ _ HR2.out.2.2 Tryz.underlying28 rfl (by kernel_rfl) ?_)
      | (go_at_call 19; refine (H19.out A k _ (HE.out.below HR2.out.1) HR2.out.2.1).mono ?_; rintro e w2 ⟨rfl, hb2⟩; have HR3 := Lib.hid (And.intro (HR2.out.1.trans (hb2.mono HR2.out.1.size)) (And.intro (HR2.out.2.1.below hb2) ((hb2.block _ (row_lt HR2.out.2.2)).trans HR2.out.2.2))); clear hb2)
      | (go_at_call 14; refine (H14.out _ (HE.out.below HR3.out.1)).mono ?_; rintro e w3 ⟨B, j, rfl, hv3, hb3⟩; have hb4 : Below w3.heap.size w3 (w3.alloc (.cells #[.int .i64 a0, .int .i64 a1, .int .i64 a2, .int .i64 a3, .int .i64 a4, .int .i64 a5, .int .i64 a6, .int .i64 a7, .int .i64 a8, .int .i64 a9, .int .i64 a10, .slice B p.ops.length j] 28)) := (Below.refl _ _).alloc (Nat.le_refl _) _; have HR4 := Lib.hid (And.intro ((HR3.out.1.trans (hb3.mono HR3.out.1.size)).trans (hb4.mono (Nat.le_trans HR3.out.1.size hb3.size))) (And.intro ((HR3.out.2.1.below hb3).below hb4) (And.intro (hv3.below hb4) ((hb4.block _ (Nat.lt_of_lt_of_le (row_lt HR3.out.2.2) hb3.size)).trans ((hb3.block _ (row_lt HR3.out.2.2)).trans HR3.out.2.2))))); clear hb4 hb3 hv3)
      | (go_at_call 16; refine (H16.out B A j k _ HR4.out.2.2.1 HR4.out.2.1).mono ?_; rintro e w5 ⟨rfl, hb5⟩; have HR5 := Lib.hid (HR4.out.1.trans (hb5.mono HR4.out.1.size)); clear hb5)
      | (go_at_call 17; refine (num_any _ _).mono ?_; rintro e w6 ⟨rfl, rfl⟩))
    go_ret
    exact ⟨rfl, HR5.out⟩
  · have T : ((er : Int) != 0) = true := by rw [bne_iff_ne]; omega
    have ht : t = [] := by have h := Sp.print_bad (p := p) (by rw [hpr]; exact he0); rwa [hpr] at h
    subst ht
    have HS : str [] = ⟨#[]⟩ := rfl
    rw [show str ((([] : Sp.Bs), er).1) = ⟨#[]⟩ from rfl] at *
    clear hpr ea na hb he he0
    go_enter Tryz.func5, Tryz.ntmps5
    go_wp2_with (first
      | (go_at_call 18; refine (H18.out _ (HE.out.below HR1.out.1)).mono ?_; rintro e w1 ⟨rfl, hb⟩; have HR2 := Lib.hid (And.intro (HR1.out.1.trans (hb.mono HR1.out.1.size)) (And.intro (HR1.out.2.1.below hb) ((hb.block _ (row_lt HR1.out.2.2)).trans HR1.out.2.2))); clear hb)
      | (refine wpList_load_row rfl 28 (.tmp 1) rfl w.heap.size rfl 28 _ _ _ HR2.out.2.2 Tryz.underlying28 rfl (by kernel_rfl) ?_)
      | (go_at_call 19; refine (H19.out A k _ (HE.out.below HR2.out.1) HR2.out.2.1).mono ?_; rintro e w2 ⟨rfl, hb2⟩; have HR3 := Lib.hid (HR2.out.1.trans (hb2.mono HR2.out.1.size)); clear hb2)
      | (go_at_call 17; refine (num_any _ _).mono ?_; rintro e w6 ⟨rfl, rfl⟩))
    go_ret
    exact ⟨ret_bool (by rw [Lib.toList_data]; rfl), HR3.out⟩
end Go.Proofs.YthnhfddlmkhgkaaGreatDoor

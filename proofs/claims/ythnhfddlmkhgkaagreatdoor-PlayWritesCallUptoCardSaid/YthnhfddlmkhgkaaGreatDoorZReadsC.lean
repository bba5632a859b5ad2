/- Walks: what some functions of the play package and its laws compute, as contracts. -/
import Derived.Test.YthnhfddlmkhgkaaGreatDoorZRefAll
set_option linter.unusedVariables false
namespace Go.Proofs.YthnhfddlmkhgkaaGreatDoor
open Go.RowKit Go.Proofs.YthnhfddlmkhgkaaGreatDoorW.PrintWords

/-- the end of a call that is read, right or not -/
def PCV (c : Sp.Call) (n : Nat) (w : World) (e : Ending) (w' : World) : Prop := ∃ A k, e = .returned (.tuple #[.agg #[.int .i64 c.op, .int .i64 c.h, .int .i64 c.h2, .int .i64 c.off, .int .i64 c.len, .string (str c.path), .string (str c.name), .string (str c.name2), .slice A c.data.length k], .int .i64 (n : Int)]) ∧ CallV w' c (.slice A c.data.length k) ∧ Below w.heap.size w w'
theorem pcv_of {f : FuncId} {args : Array Value} {w : World} {c : Sp.Call} {n : Nat} (h : Calls Tryz.prog f args w (PCallPost w (c, n))) : Calls Tryz.prog f args w (PCV c n w) := by
  refine h.mono ?_
  rintro e w1 ⟨v, rfl, ho, hb⟩
  obtain ⟨A, k, rfl, _, hr⟩ := ho.reads
  exact ⟨A, k, rfl, ⟨A, k, rfl, hr⟩, hb⟩
theorem fillCall_data : ∀ (ls : Sp.Bs) (ws : List Sp.Bs) (c c' : Sp.Call) (m : Nat), Sp.fillCall ls ws c = some c' → c.data.length ≤ m → (∀ x ∈ ws, x.length ≤ m) → c'.data.length ≤ m
  | [], ws, c, c', m, h, hc, _ => by
    cases ws <;> (simp [Sp.fillCall] at h; subst h; exact hc)
  | l :: ls, [], c, c', m, h, hc, _ => by simp [Sp.fillCall] at h; subst h; exact hc
  | l :: ls, x :: ws, c, c', m, h, hc, hw => by
    simp only [Sp.fillCall] at h
    split at h
    · split at h
      · refine fillCall_data ls ws _ c' m h ?_ (fun y hy => hw y (List.mem_cons_of_mem _ hy))
        unfold Sp.Call.setN
        repeat' split
        all_goals exact hc
      · cases h
    · refine fillCall_data ls ws _ c' m h ?_ (fun y hy => hw y (List.mem_cons_of_mem _ hy))
      have := hw x List.mem_cons_self
      unfold Sp.Call.setT
      repeat' split
      all_goals first | exact hc | exact this
theorem parseCall_data (t : Sp.Bs) : (Sp.parseCall t).1.data.length ≤ t.length := by
  unfold Sp.parseCall
  split
  · simp
  · cases hs : Sp.split t with
    | none => simp
    | some ws =>
      simp only
      split
      · simp
      · split
        · simp
        · unfold Sp.call
          split
          · rename_i c hc
            have hl := (Sp.split_len _ t (Nat.le_refl _) ws hs).1
            exact fillCall_data _ _ _ c t.length hc (by simp) (fun x hx => hl x (List.drop_subset _ _ hx))
          · simp
theorem below_new (w : World) (o : Obj) : Below w.heap.size w (w.alloc o) := (Below.refl _ _).alloc (Nat.le_refl _) o
theorem two_rows {w1 w2 : World} {o1 : Obj} (hb : Below (w1.alloc o1).heap.size (w1.alloc o1) w2) (o2 : Obj) : (w2.alloc o2).heap[w1.heap.size]? = some o1 := by
  have h1 := heap_alloc_new w1 o1
  have h2 := (hb.block _ (row_lt h1)).trans h1
  exact ((below_new w2 o2).block _ (row_lt h2)).trans h2
set_option maxHeartbeats 8000000 in
set_option maxRecDepth 100000 in
/-- the walk of PlayReadsCall -/
theorem reads_any (t : Sp.Bs) (w : World) (he : EnvR w) (hs : t.length ≤ 140737488355328) : Calls Tryz.prog 10 #[.string (str t)] w (BRet w (.bool true)) := by
  obtain ⟨c, n, hcn⟩ : ∃ c n, Sp.parseCall t = (c, n) := ⟨_, _, rfl⟩
  have hdl : c.data.length ≤ 140737488355328 := by
    have h := parseCall_data t
    rw [hcn] at h
    exact Nat.le_trans h hs
  have H28 : Hid (∀ w, Env w → Calls Tryz.prog 28 #[.string (str t)] w (PCV c n w)) := Lib.hid (fun w h => pcv_of (by rw [← hcn]; exact parseCall_any t w h hs))
  have H29 : Hid (∀ w, EnvR w → Calls Tryz.prog 29 #[.string (str t)] w (PCV c n w)) := Lib.hid (fun w h => pcv_of (by rw [← hcn]; exact rparseCall_any t w h hs))
  have H27 : Hid (∀ w (v v' : Value), CallV w c v → CallV w c v' → Calls Tryz.prog 27 #[.agg (callCells c v).toArray, .agg (callCells c v').toArray] w (BRet w (.bool true))) := Lib.hid (fun w v v' h h' => by
    have h2 := sameCall_any c c v v' w h h' hdl
    rwa [decide_eq_true rfl] at h2)
  have H18 : Hid (∀ w, Env w → Calls Tryz.prog 18 #[] w (BRet w (.bool true))) := Lib.hid first_any
  have HE := Lib.hid he
  clear he hs hcn hdl
  go_enter Tryz.func10, Tryz.ntmps10
  go_wp2_with (first
    | (go_at_call 28; refine (H28.out _ HE.out.env).mono ?_; rintro e w1 ⟨A, k, rfl, hv1, hb1⟩)
    | (go_at_call 29; refine (H29.out _ (HE.out.below (hb1.alloc hb1.size _))).mono ?_; rintro e w2 ⟨B, k2, rfl, hv2, hb2⟩; have hrA := two_rows hb2 (.cells (callCells c (.slice B c.data.length k2)).toArray 51); have hrB := heap_alloc_new w2 (.cells (callCells c (.slice B c.data.length k2)).toArray 51); have HV := Lib.hid (And.intro (((hv1.under ((Below.refl _ _).alloc (Nat.le_refl _) _)).under hb2).under (below_new w2 (.cells (callCells c (.slice B c.data.length k2)).toArray 51))) (hv2.under (below_new w2 (.cells (callCells c (.slice B c.data.length k2)).toArray 51)))); have HB2 := Lib.hid (((hb1.alloc hb1.size _).trans (hb2.mono (hb1.alloc hb1.size _).size)).alloc ((hb1.alloc hb1.size _).trans (hb2.mono (hb1.alloc hb1.size _).size)).size (.cells (callCells c (.slice B c.data.length k2)).toArray 51)); clear hv1 hb1 hv2 hb2; have tk1 := trivial)
    | (have tq := tk1; refine wpList_load_row rfl 51 (.tmp 3) rfl w1.heap.size rfl 51 (callCells c (.slice A c.data.length k)).toArray (0, 0) _ hrA Tryz.underlying51 rfl (by kernel_rfl) ?_)
    | (have tq := tk1; refine wpList_load_row rfl 51 (.tmp 5) rfl w2.heap.size rfl 51 (callCells c (.slice B c.data.length k2)).toArray (0, 0) _ hrB Tryz.underlying51 rfl (by kernel_rfl) ?_)
    | (go_at_call 27; refine (H27.out _ _ _ HV.out.1 HV.out.2).mono ?_; rintro e w3 ⟨rfl, hb3⟩; have HB3 := Lib.hid (HB2.out.trans (hb3.mono HB2.out.size)); clear hb3)
    | (go_at_call 17; refine (num_any _ _).mono ?_; rintro e w7 ⟨rfl, rfl⟩)
    | (go_at_call 18; refine (H18.out _ (HE.out.env.below HB3.out)).mono ?_; rintro e w8 ⟨rfl, hb8⟩))
  go_ret
  exact ⟨rfl, HB3.out.trans (hb8.mono HB3.out.size)⟩
end Go.Proofs.YthnhfddlmkhgkaaGreatDoor

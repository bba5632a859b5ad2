/- Walks: what some functions of the play package and its laws compute, as contracts. -/
import Derived.Test.YthnhfddlmkhgkaaGreatDoorZRefI
set_option linter.unusedVariables false
namespace Go.Proofs.YthnhfddlmkhgkaaGreatDoor
open Go.RowKit Go.Proofs.YthnhfddlmkhgkaaGreatDoorW.PrintWords
set_option maxHeartbeats 8000000 in
set_option maxRecDepth 100000 in
theorem rstep_other (A : Option Addr) (ws : List Sp.Bs) (cap : Nat) (w : World) (he : EnvP w) (hr : ReadS w A ws) (hcap : ws.length ≤ cap) (w0 : Sp.Bs) (r0 : List Sp.Bs) (hw0 : ws = w0 :: r0) (hl : ws.length ≤ 1099511627776) (hws : ∀ x ∈ ws, x.length ≤ 1099511627776) (hkk0 : Sp.findRow Sp.stepRows w0 ≠ 0) (hkk1 : Sp.findRow Sp.stepRows w0 ≠ 1) :
    Calls Tryz.prog 42 #[.slice A ws.length cap] w (StepPost w (Sp.step ws)) := by
  obtain ⟨kind, hkind⟩ : ∃ kind, kind = Sp.findRow Sp.stepRows w0 := ⟨_, rfl⟩
  obtain ⟨R, hR⟩ : ∃ R, R = Sp.step ws := ⟨_, rfl⟩
  rw [← hR]
  have hRS := Sp.step_eq w0 r0
  rw [← hw0, ← hR, ← hkind] at hRS
  have hrl : ws.length = r0.length + 1 := by rw [hw0]; rfl
  have hrl1 : ws.length ≤ r0.length + 1 := by omega
  have hrl2 : r0.length + 1 ≤ ws.length := by omega
  clear hrl
  obtain ⟨ad0, hA0, hcell0⟩ := hr.at_ 0 (by omega)
  have hcell00 : w.cell? ad0 = some (.string (str w0)) := by
    have h := hcell0
    rw [Addr.add_zero'] at h
    rw [h]
    simp [hw0]
  have HC85 : Hid (∀ w, EnvP w → Calls Tryz.prog 85 #[.string (str w0)] w (BRet w (.int .i64 (kind : Int)))) := Lib.hid (fun w h => by rw [hkind]; exact rkindOf_any w0 w h)
  have HE := Lib.hid he
  have HRD := Lib.hid hr
  have HW := Lib.hid hws
  have HW0 := Lib.hid hw0
  have hbA : Below w.heap.size w (w.alloc (.cells (opCells {} (.slice none 0 0) (.slice none 0 0) (.slice none 0 0)).toArray 80)) := (Below.refl _ _).alloc (Nat.le_refl _) _
  have hzA : ZeroOp (w.alloc (.cells (opCells {} (.slice none 0 0) (.slice none 0 0) (.slice none 0 0)).toArray 80)) w.heap.size := heap_alloc_new _ _
  have hcellA : (w.alloc (.cells #[.int .i64 0, .int .i64 0, .int .i64 0, .int .i64 0, .int .i64 0, .int .i64 0, .int .i64 0, .int .i64 0, .int .i64 0, .int .i64 0, .string ⟨#[]⟩, .string ⟨#[]⟩, .string ⟨#[]⟩, .slice none 0 0, .slice none 0 0, .slice none 0 0] 80)).cell? ad0 = some (.string (str w0)) := below_read hbA hcell00
  subst hA0
  have hk15 : kind < 15 := by
    by_cases h : kind = 0
    · omega
    · have h2 := (Sp.find_lt (rows := Sp.stepRows) (l := w0) (by rw [← hkind]; exact h)).1
      rw [← hkind] at h2
      exact h2
  have hk0 : ¬ kind = 0 := by rw [hkind]; exact hkk0
  have hk1 : ¬ kind = 1 := by rw [hkind]; exact hkk1
  clear hR hcell0 hcell00 he hr hws hw0 hkind
  have T0 : ((kind : Int) == 0) = false := beq_eq_false_iff_ne.2 (by omega)
  rw [if_neg hk0] at hRS
  · have T1 : ((kind : Int) == 1) = false := beq_eq_false_iff_ne.2 (by omega)
    rw [if_neg hk1] at hRS
    obtain ⟨F, hF⟩ : ∃ F, F = (Sp.stepRows.getD kind ([], [])).2 := ⟨_, rfl⟩
    rw [← hF] at hRS
    obtain ⟨FR, hFR⟩ : ∃ FR, FR = F.map Sp.trS := ⟨_, rfl⟩
    have hFl : F.length ≤ 4 := by rw [hF]; exact form_len kind hk15
    have hfs : (str FR).size = F.length := by rw [str_size, hFR, List.length_map]
    have HLE : Hid (∀ l ∈ F, l = 97 ∨ l = 107 ∨ l = 109 ∨ l = 120 ∨ l = 106 ∨ l = 100 ∨ l = 98) := Lib.hid (by rw [hF]; exact step_letters kind hk15 hk1)
    have HCF : Hid (∀ w, EnvP w → w.cell? ⟨1, kind, none⟩ = some (.string (str FR))) := Lib.hid (fun w h => by
      rw [hFR, hF, ← form_tr kind hk15 hk1]
      exact col_cell gForms h.forms kind (by have : Sp.formsR.length = 15 := rfl; omega))
    have HFR := Lib.hid hFR
    clear hF hFR
    by_cases hlen : r0.length = F.length
    case neg =>
      have T4 : ((ws.length : Int) - 1 != (F.length : Int)) = true := by rw [bne_iff_ne]; omega
      have HF : Hid (R = ({}, 215)) := Lib.hid (by rw [hRS, if_pos hlen])
      clear hRS hlen
      have hk1' := Lib.hid hk1
      clear hk1
      go_enter Tryz.func42, Tryz.ntmps42
      go_wp2_with (first | (go_at_call 85; refine (HC85.out _ (HE.out.below hbA)).mono ?_; rintro e w1 ⟨rfl, hb1⟩; have hz1 := (hzA.below hb1).below (below_al w1 (.cells (nilRow kind) 80)); have HB1 := Lib.hid ((hbA.trans (hb1.mono hbA.size)).alloc (hbA.trans (hb1.mono hbA.size)).size (.cells (nilRow kind) 80)); clear hb1; (have hcf1 : (w1.alloc (.cells #[.int .i64 (kind : Int), .int .i64 0, .int .i64 0, .int .i64 0, .int .i64 0, .int .i64 0, .int .i64 0, .int .i64 0, .int .i64 0, .int .i64 0, .string ⟨#[]⟩, .string ⟨#[]⟩, .string ⟨#[]⟩, .slice none 0 0, .slice none 0 0, .slice none 0 0] 80)).cell? ⟨1, kind, none⟩ = some (.string (str FR)) := HCF.out _ (HE.out.below HB1.out)); have tk1 := trivial) | (have tq := tk1; refine wpList_store_row rfl 80 (.tmp 2) (.tmp 67) rfl w.heap.size (opCells {} (.slice none 0 0) (.slice none 0 0) (.slice none 0 0)).toArray rfl rfl 80 _ hz1 (by kernel_rfl) rfl (op_one _ rfl rfl rfl) ?_))
      refine bodyPost_ret (results_ct rfl _ _ w.heap.size 80 (opCells {} (.slice none 0 0) (.slice none 0 0) (.slice none 0 0)).toArray (0, 0) _ rfl (setRow_heap _ _ _ _ _ _ hz1) Tryz.underlying80 rfl (by kernel_rfl)) rfl ?_
      rw [HF.out]
      exact ⟨_, _, _, rfl, OpRows.zero _ _ _ ⟨rfl, rfl, rfl⟩, setRow_below HB1.out (Nat.le_refl _) _⟩
    have T4 : ((ws.length : Int) - 1 != (F.length : Int)) = false := by rw [bne_eq_false_iff_eq]; omega
    have HSP : Hid (R = Sp.fillStep 0 F r0 { kind := kind } 0) := Lib.hid (by rw [hRS, if_neg (by simpa using hlen)])
    clear hRS
    have hk1' := Lib.hid hk1
    clear hk1
    go_enter Tryz.func42, Tryz.ntmps42
    go_wp2_with (first | (go_at_call 85; refine (HC85.out _ (HE.out.below hbA)).mono ?_; rintro e w1 ⟨rfl, hb1⟩; have hz1 := hzA.below hb1; have hlt1 := row_lt hz1; have HB1 := Lib.hid (hbA.trans (hb1.mono hbA.size)); clear hb1; (have hcf1 : (w1.alloc (.cells #[.int .i64 (kind : Int), .int .i64 0, .int .i64 0, .int .i64 0, .int .i64 0, .int .i64 0, .int .i64 0, .int .i64 0, .int .i64 0, .int .i64 0, .string ⟨#[]⟩, .string ⟨#[]⟩, .string ⟨#[]⟩, .slice none 0 0, .slice none 0 0, .slice none 0 0] 80)).cell? ⟨1, kind, none⟩ = some (.string (str FR)) := HCF.out _ (HE.out.below (below_call HB1.out (below_al w1 _) (Nat.le_refl _)))))) 
    clear hcf1
    generalize hW5 : w1.alloc _ = W5
    have h51 : W5.heap[w1.heap.size]? = some (.cells (nilRow kind) 80 (0, 0)) := by rw [← hW5]; exact heap_alloc_new _ _
    have hbw : Below w1.heap.size w1 W5 := by rw [← hW5]; exact below_al _ _
    have hz5 := hz1.below hbw
    have HB5 := Lib.hid (below_call HB1.out hbw (Nat.le_refl _))
    clear hW5 hbw hz1 HB1 hbA hzA hcellA
    obtain ⟨g5, hg5⟩ : ∃ g5, g5 = w1.heap.size := ⟨_, rfl⟩
    rw [← hg5] at h51 hlt1 ⊢
    clear hg5
    have HO5 : Hid (OpAt W5 w.heap.size g5 { kind := kind } ∧ ZeroOp W5 w.heap.size) := Lib.hid ⟨⟨_, _, _, h51, OpRows.zero _ _ _ ⟨rfl, rfl, rfl⟩, fun k hk => by simp [Value.ownBlock] at hk⟩, hz5⟩
    clear h51 hz5
    go_loopw [10, 11] (fun v10 v11 wr => ∃ (i : Nat) (o : Sp.Op) (late : Bool), v10 = .bool late ∧ v11 = .int .i64 (i : Int) ∧ i ≤ F.length ∧ OpAt wr w.heap.size g5 o ∧ ZeroOp wr w.heap.size ∧ Hid (R = Sp.fillStep 0 (F.drop i) (r0.drop i) o (if late then 217 else 0)) ∧ Below w.heap.size w wr) (fun _ v11 _ => F.length - (intOf v11).toNat)
    case atStart => exact ⟨0, _, false, rfl, rfl, Nat.zero_le _, HO5.out.1, HO5.out.2, Lib.hid HSP.out, HB5.out⟩
    case round =>
      obtain ⟨i, o, late, rfl, rfl, hi, HOA, HZ, HQ, HB⟩ := hrel
      clear HO5 HSP HB5
      by_cases hlt : i < F.length
      · obtain ⟨v1, v2, v3, hrow, hrows, hown⟩ := HOA
        have hgl := row_lt hrow
        obtain ⟨ad, hA, hcell⟩ := (HRD.out.below HB).at_ (i + 1) (by omega)
        injection hA with hA
        subst hA
        obtain ⟨x, hxw⟩ : ∃ x, x = ws[i + 1]'(by omega) := ⟨_, rfl⟩
        rw [← hxw, Addr.add, if_neg (by omega)] at hcell
        have hxr : x = r0[i]'(by omega) := by rw [hxw]; simp [HW0.out]
        obtain ⟨l, hl⟩ : ∃ l, l = F[i]'hlt := ⟨_, rfl⟩
        have hxl := HW.out x (by rw [hxw]; exact List.getElem_mem _)
        have hll := HLE.out l (by rw [hl]; exact List.getElem_mem _)
        have hl99 : ∀ y ∈ F, y ≠ 99 := fun y hy => by rcases HLE.out y hy with h | h | h | h | h | h | h <;> (rw [h]; decide)
        have hQ2 : R = Sp.fillStep 0 (l :: F.drop (i + 1)) (x :: r0.drop (i + 1)) o (if late then 217 else 0) := by
          rw [HQ.out, List.drop_eq_getElem_cons hlt, ← hl, List.drop_eq_getElem_cons (show i < r0.length by omega), ← hxr]
        rw [Sp.fill_set (hl99 l (by rw [hl]; exact List.getElem_mem _)) (fun y hy => hl99 y (List.mem_of_mem_drop hy))] at hQ2
        obtain ⟨ro, rn, hro⟩ : ∃ ro rn, Sp.setR o l x = (ro, rn) := ⟨_, _, rfl⟩
        rw [hro] at hQ2
        simp only at hQ2
        obtain ⟨L, hL⟩ : ∃ L : Int, L = ((Sp.trS l).toNat : Int) := ⟨_, rfl⟩
        have hx : ∀ h : i < (str FR).size, (((str FR)[i]'h).toNat : Int) = L := fun h => by
          rw [hL, hl]
          have h2 : i < FR.length := by rw [HFR.out, List.length_map]; exact hlt
          show ((FR[i]'h2).toNat : Int) = _
          simp only [HFR.out, List.getElem_map]
        have hL0 : 0 ≤ L := by omega
        have hL1 : L ≤ 255 := by have := (Sp.trS l).toNat_lt; omega
        have hraise := hrows.raise (b2 := g5 + 1) (fun k hk => hown k hk)
        have HC86 : Hid (∀ w', Below wr.heap.size wr w' → Calls Tryz.prog 86 #[.agg #[.int .i64 o.kind, .int .i64 o.a, .int .i64 o.k, .int .i64 o.m, .int .i64 o.x, .int .i64 o.call.op, .int .i64 o.call.h, .int .i64 o.call.h2, .int .i64 o.call.off, .int .i64 o.call.len, .string (str o.call.path), .string (str o.call.name), .string (str o.call.name2), v1, v2, v3], .int .u8 L, .string (str x)] w' (SetV (g5 + 1) (ro, rn) w')) := Lib.hid (fun w' hb => setV_of (by
          rw [← hro]
          exact rset_any o v1 v2 v3 (g5 + 1) l L hll hL x hxl w' (Nat.le_trans hgl hb.size) (hraise.below hb)))
        have HKS : Hid (∀ w' : World, Below wr.heap.size wr w' → w'.cell? ⟨g5, 0, none⟩ = some (.int .i64 o.kind) ∧ w'.cell? ⟨g5, 1, none⟩ = some (.int .i64 o.a) ∧ w'.cell? ⟨g5, 2, none⟩ = some (.int .i64 o.k) ∧ w'.cell? ⟨g5, 3, none⟩ = some (.int .i64 o.m) ∧ w'.cell? ⟨g5, 4, none⟩ = some (.int .i64 o.x) ∧ w'.cell? ⟨g5, 5, none⟩ = some (.int .i64 o.call.op) ∧ w'.cell? ⟨g5, 6, none⟩ = some (.int .i64 o.call.h) ∧ w'.cell? ⟨g5, 7, none⟩ = some (.int .i64 o.call.h2) ∧ w'.cell? ⟨g5, 8, none⟩ = some (.int .i64 o.call.off) ∧ w'.cell? ⟨g5, 9, none⟩ = some (.int .i64 o.call.len) ∧ w'.cell? ⟨g5, 10, none⟩ = some (.string (str o.call.path)) ∧ w'.cell? ⟨g5, 11, none⟩ = some (.string (str o.call.name)) ∧ w'.cell? ⟨g5, 12, none⟩ = some (.string (str o.call.name2)) ∧ w'.cell? ⟨g5, 13, none⟩ = some (v1) ∧ w'.cell? ⟨g5, 14, none⟩ = some (v2) ∧ w'.cell? ⟨g5, 15, none⟩ = some (v3) ∧ w'.cell? ⟨ad0.block, ad0.off + (i + 1), none⟩ = some (.string (str x))) := Lib.hid (fun w' hb => by
          have h := op_cells16 ((hb.block _ hgl).trans hrow)
          obtain ⟨q0, q1, q2, q3, q4, q5, q6, q7, q8, q9, q10, q11, q12, q13, q14, q15⟩ := h
          exact ⟨q0, q1, q2, q3, q4, q5, q6, q7, q8, q9, q10, q11, q12, q13, q14, q15, below_read hb hcell⟩)
        obtain ⟨q0, q1, q2, q3, q4, q5, q6, q7, q8, q9, q10, q11, q12, q13, q14, q15, q16⟩ := HKS.out wr (Below.refl _ _)
        have hne := World.new_ne wr _ q0
        have HQ3 := Lib.hid hQ2
        have HST := Lib.hid (And.intro hrow (And.intro hrows (And.intro hown (And.intro HZ HB))))
        clear hQ2 hl hxw hxr hxl hll hl99 hL hraise hcell HQ hro hrow hrows hown HZ HB
        go_wp2
        have hw1 : IntKind.i64.wrap ((i : Int) + 1) = (i : Int) + 1 := by rw [IntKind.wrap_i64]; omega
        have qq1 : (0 : Int) ≤ (i : Int) + 1 ∧ (i : Int) + 1 < (ws.length : Int) := ⟨by omega, by omega⟩
        have qq2 : ((i : Int) + 1).toNat = i + 1 := by omega
        have qq3 : (0 : Int) ≤ (i : Int) ∧ (i : Int) < (F.length : Int) := ⟨by omega, by omega⟩
        go_cut [12, 13] (fun v12 v13 wx => ∃ g12, v12 = .pointer (some ⟨g12, 0, none⟩) ∧ v13 = .int .i64 (rn : Int) ∧ SetAt wr wx (g5 + 1) g12 (ro, rn))
        case first =>
          go_region_held3 (fun w' => w'.cell? ⟨g5, 0, none⟩ = some (.int .i64 o.kind) ∧ w'.cell? ⟨g5, 1, none⟩ = some (.int .i64 o.a) ∧ w'.cell? ⟨g5, 2, none⟩ = some (.int .i64 o.k) ∧ w'.cell? ⟨g5, 3, none⟩ = some (.int .i64 o.m) ∧ w'.cell? ⟨g5, 4, none⟩ = some (.int .i64 o.x) ∧ w'.cell? ⟨g5, 5, none⟩ = some (.int .i64 o.call.op) ∧ w'.cell? ⟨g5, 6, none⟩ = some (.int .i64 o.call.h) ∧ w'.cell? ⟨g5, 7, none⟩ = some (.int .i64 o.call.h2) ∧ w'.cell? ⟨g5, 8, none⟩ = some (.int .i64 o.call.off) ∧ w'.cell? ⟨g5, 9, none⟩ = some (.int .i64 o.call.len) ∧ w'.cell? ⟨g5, 10, none⟩ = some (.string (str o.call.path)) ∧ w'.cell? ⟨g5, 11, none⟩ = some (.string (str o.call.name)) ∧ w'.cell? ⟨g5, 12, none⟩ = some (.string (str o.call.name2)) ∧ w'.cell? ⟨g5, 13, none⟩ = some (v1) ∧ w'.cell? ⟨g5, 14, none⟩ = some (v2) ∧ w'.cell? ⟨g5, 15, none⟩ = some (v3) ∧ w'.cell? ⟨ad0.block, ad0.off + (i + 1), none⟩ = some (.string (str x))) ((refine HKS.out _ ?_; (repeat' (first | exact Below.refl _ _ | apply Below.drew | refine below_al2 ?_ _ | refine below_setCells (Nat.le_refl _) _ _ _ _ ?_ | refine below_step ?_ (by assumption) | refine Below.setCell ?_ (by first | (simp; done) | (simp; omega) | omega) _)))) (first | (go_at_call 86; refine (HC86.out _ (by (repeat' (first | exact Below.refl _ _ | apply Below.drew | refine below_al2 ?_ _ | refine below_setCells (Nat.le_refl _) _ _ _ _ ?_ | refine below_step ?_ (by assumption) | refine Below.setCell ?_ (by first | (simp; done) | (simp; omega) | omega) _)))).mono ?_; rintro e w2 ⟨CS, u1, u2, u3, rfl, hcs, hsz, hone, hrs, hb2⟩; have hn1 := run_storeCells_new (P := Tryz.prog) w2 80 #[.int .i64 0, .int .i64 0, .int .i64 0, .int .i64 0, .int .i64 0, .int .i64 0, .int .i64 0, .int .i64 0, .int .i64 0, .int .i64 0, .string ⟨#[]⟩, .string ⟨#[]⟩, .string ⟨#[]⟩, .slice none 0 0, .slice none 0 0, .slice none 0 0] CS (by rw [hsz]; kernel_rfl) (by rw [hsz]; rfl) hone; have hn2 := run_storeAt_new (P := Tryz.prog) w2 80 #[.int .i64 0, .int .i64 0, .int .i64 0, .int .i64 0, .int .i64 0, .int .i64 0, .int .i64 0, .int .i64 0, .int .i64 0, .int .i64 0, .string ⟨#[]⟩, .string ⟨#[]⟩, .string ⟨#[]⟩, .slice none 0 0, .slice none 0 0, .slice none 0 0] CS (by rw [hsz]; kernel_rfl) (by rw [hsz]; rfl) hone; (try (have hz12 : ZeroOp w2 wr.heap.size := zero_kept rfl hb2; have hst1 := store_zero4 hz12 CS hsz hone; have hst2 := store_zero3 hz12 CS hsz hone))))
          all_goals (go_wp2_with fail; go_meet)
          · exact ⟨w2.heap.size, rfl, rfl, set_at1 hcs.out hrs hb2⟩
          · exact ⟨wr.heap.size, rfl, rfl, set_at2 hcs.out hrs hb2⟩
          · exact ⟨wr.heap.size, rfl, rfl, set_at2 hcs.out hrs hb2⟩
        case rest =>
          obtain ⟨g12, rfl, rfl, u1, u2, u3, hr12, hrs, hbx, hg12⟩ := hcut
          obtain ⟨hrow, hrows, hown, HZ, HB⟩ := HST.out
          have hO := OpAt.below ⟨v1, v2, v3, hrow, hrows, hown⟩ hbx
          have hrow5 := (hbx.block _ hgl).trans hrow
          have hZ := HZ.below hbx
          have HB' := Lib.hid (below_call HB hbx (Nat.le_refl _))
          have HRS := Lib.hid hrs
          have o1 := hrs.1.one
          have o2 := hrs.2.1.one
          have o3 := hrs.2.2.1.one
          clear HST HKS HC86 q0 q1 q2 q3 q4 q5 q6 q7 q8 q9 q10 q11 q12 q13 q14 q15 q16 hne hw1 qq1 qq2 qq3 hrow hrows hown HZ HB hbx hrs hx
          by_cases h217 : rn = 217
          · have T5 : ((rn : Int) == 217) = true := beq_iff_eq.2 (by omega)
            have HQ4 : Hid (R = Sp.fillStep 0 (F.drop (i + 1)) (r0.drop (i + 1)) o (if true then 217 else 0)) := Lib.hid (by rw [HQ3.out, if_pos h217]; rfl)
            clear h217
            go_wp2
            go_roundw
            case rel => exact ⟨i + 1, o, true, rfl, by go_num, by omega, hO, hZ, HQ4, HB'.out⟩
            case measure => simp [intOf]; omega
          have T5 : ((rn : Int) == 217) = false := beq_eq_false_iff_ne.2 (by omega)
          by_cases hn0 : rn = 0
          · have T6 : ((rn : Int) != 0) = false := by rw [bne_eq_false_iff_eq]; omega
            have HQ4 : Hid (R = Sp.fillStep 0 (F.drop (i + 1)) (r0.drop (i + 1)) ro (if late then 217 else 0)) := Lib.hid (by rw [HQ3.out, if_neg h217, if_neg (by simpa using hn0)])
            clear h217 hn0
            go_wp2_with (first | (refine wpList_load_row rfl 80 (.tmp 12) rfl g12 rfl 80 (opCells ro u1 u2 u3).toArray (0, 0) _ hr12 Tryz.underlying80 rfl (by kernel_rfl) ?_) | (refine wpList_store_row rfl 80 (.tmp 5) (.tmp 93) rfl g5 (opCells ro u1 u2 u3).toArray rfl rfl 80 _ hrow5 (by kernel_rfl) rfl (op_one _ o1 o2 o3) ?_))
            go_roundw
            case rel => exact ⟨i + 1, ro, late, rfl, by go_num, by omega, setrow_at hrow5 HRS.out hlt1, (setRow_other _ (show w.heap.size ≠ g5 by omega)).trans hZ, HQ4, setRow_below HB'.out (by omega) _⟩
            case measure => simp [intOf]; omega
          · have T6 : ((rn : Int) != 0) = true := by rw [bne_iff_ne]; omega
            have HF : Hid (R = ({}, rn)) := Lib.hid (by rw [HQ3.out, if_neg h217, if_pos hn0])
            clear h217 hn0
            have tk1 := trivial
            go_wp2_with (first | (have tq := tk1; refine wpList_store_row rfl 80 (.tmp 2) (.tmp 91) rfl w.heap.size (opCells {} (.slice none 0 0) (.slice none 0 0) (.slice none 0 0)).toArray rfl rfl 80 _ hZ (by kernel_rfl) rfl (op_one _ rfl rfl rfl) ?_))
            refine bodyPost_ret (results_ct rfl _ _ w.heap.size 80 (opCells {} (.slice none 0 0) (.slice none 0 0) (.slice none 0 0)).toArray (0, 0) _ rfl (setRow_heap _ _ _ _ _ _ hZ) Tryz.underlying80 rfl (by kernel_rfl)) rfl ?_
            rw [HF.out]
            exact ⟨_, _, _, rfl, OpRows.zero _ _ _ ⟨rfl, rfl, rfl⟩, setRow_below HB'.out (Nat.le_refl _) _⟩
      · have hF0 : F.drop i = [] := List.drop_eq_nil_of_le (by omega)
        cases late with
        | true =>
          have HF : Hid (R = ({}, 217)) := Lib.hid (by rw [HQ.out, hF0]; unfold Sp.fillStep; simp)
          clear hF0 HQ
          have HB' := Lib.hid HB
          have tk1 := trivial
          go_wp2_with (first | (have tq := tk1; refine wpList_store_row rfl 80 (.tmp 2) (.tmp 95) rfl w.heap.size (opCells {} (.slice none 0 0) (.slice none 0 0) (.slice none 0 0)).toArray rfl rfl 80 _ HZ (by kernel_rfl) rfl (op_one _ rfl rfl rfl) ?_))
          refine bodyPost_ret (results_ct rfl _ _ w.heap.size 80 (opCells {} (.slice none 0 0) (.slice none 0 0) (.slice none 0 0)).toArray (0, 0) _ rfl (setRow_heap _ _ _ _ _ _ HZ) Tryz.underlying80 rfl (by kernel_rfl)) rfl ?_
          rw [HF.out]
          exact ⟨_, _, _, rfl, OpRows.zero _ _ _ ⟨rfl, rfl, rfl⟩, setRow_below HB'.out (Nat.le_refl _) _⟩
        | false =>
          have HF : Hid (R = (o, 0)) := Lib.hid (by rw [HQ.out, hF0]; unfold Sp.fillStep; simp)
          clear hF0 HQ
          obtain ⟨v1, v2, v3, hrow, hrows, hown⟩ := HOA
          have o1 := hrows.1.one
          have o2 := hrows.2.1.one
          have o3 := hrows.2.2.1.one
          have HX := Lib.hid (And.intro hrows (And.intro hown HB))
          clear hrows hown HB
          go_wp2_with (first | (refine wpList_load_row rfl 80 (.tmp 5) rfl g5 rfl 80 (opCells o v1 v2 v3).toArray (0, 0) _ hrow Tryz.underlying80 rfl (by kernel_rfl) ?_) | (refine wpList_store_row rfl 80 (.tmp 2) (.tmp 96) rfl w.heap.size (opCells o v1 v2 v3).toArray rfl rfl 80 _ HZ (by kernel_rfl) rfl (op_one _ o1 o2 o3) ?_))
          refine bodyPost_ret (results_ct rfl _ _ w.heap.size 80 (opCells o v1 v2 v3).toArray (0, 0) _ rfl (setRow_heap _ _ _ _ _ _ HZ) Tryz.underlying80 rfl (by kernel_rfl)) rfl ?_
          rw [HF.out]
          exact ⟨_, _, _, rfl, HX.out.1.step (by simp [World.setRow]) (fun k hk => setRow_other _ (show k ≠ w.heap.size by have := HX.out.2.1 k hk; omega)), setRow_below HX.out.2.2 (Nat.le_refl _) _⟩
theorem rstep_any (A : Option Addr) (ws : List Sp.Bs) (cap : Nat) (w : World) (he : EnvP w) (hr : ReadS w A ws) (hcap : ws.length ≤ cap) (w0 : Sp.Bs) (r0 : List Sp.Bs) (hw0 : ws = w0 :: r0) (hl : ws.length ≤ 1099511627776) (hws : ∀ x ∈ ws, x.length ≤ 1099511627776) :
    Calls Tryz.prog 42 #[.slice A ws.length cap] w (StepPost w (Sp.step ws)) := by
  by_cases h0 : Sp.findRow Sp.stepRows w0 = 0
  · exact rstep_zero A ws cap w he hr hcap w0 r0 hw0 hl hws h0
  · by_cases h1 : Sp.findRow Sp.stepRows w0 = 1
    · exact rstep_call A ws cap w he hr hcap w0 r0 hw0 hl hws h1
    · exact rstep_other A ws cap w he hr hcap w0 r0 hw0 hl hws h0 h1
end Go.Proofs.YthnhfddlmkhgkaaGreatDoor

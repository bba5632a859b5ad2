/- Walks: what some functions of the play package and its laws compute, as contracts. -/
import Derived.Test.YthnhfddlmkhgkaaGreatDoorZOps
set_option linter.unusedVariables false
namespace Go.Proofs.YthnhfddlmkhgkaaGreatDoor
open Go.RowKit Go.Proofs.YthnhfddlmkhgkaaGreatDoorW.PrintWords

theorem lines_nil (n : Nat) (b : Bool) (p : Sp.Play) : Sp.lines [] n b p = if b then (p, 0, 0) else ({}, 0, 211) := by
  unfold Sp.lines; rfl
theorem lines_cons {t : Sp.Bs} (h : t ≠ []) (n : Nat) (b : Bool) (p : Sp.Play) : Sp.lines t n b p = if (Sp.lineOf (Sp.line1 t) b p).2.2 ≠ 0 then ({}, n, (Sp.lineOf (Sp.line1 t) b p).2.2) else Sp.lines (Sp.rest1 t) (n + 1) (Sp.lineOf (Sp.line1 t) b p).2.1 (Sp.lineOf (Sp.line1 t) b p).1 := by
  cases t with
  | nil => exact absurd rfl h
  | cons c r => conv => lhs; unfold Sp.lines
theorem rest1_lt {t : Sp.Bs} (h : t ≠ []) : (Sp.rest1 t).length < t.length := by
  cases t with
  | nil => exact absurd rfl h
  | cons c r => exact Sp.rest1_len c r
def SplitS (w : World) (ws : List Sp.Bs) (e : Ending) (w' : World) : Prop := ∃ A cap, e = .returned (.tuple #[.slice A ws.length cap, .bool true]) ∧ ReadS w' A ws ∧ ws.length ≤ cap ∧ Below w.heap.size w w'
theorem split_some {l : Sp.Bs} {ws : List Sp.Bs} (h : Sp.split l = some ws) (hl : l.length ≤ 1099511627776) (w : World) : Calls Tryz.prog 37 #[.string (str l)] w (SplitS w ws) := by
  refine (split_any l w hl).mono ?_
  rintro e w1 (⟨v, ws2, hs, rfl, hv, hb⟩ | ⟨hs, rfl, hb⟩)
  · rw [h] at hs
    injection hs with hs
    subst hs
    obtain ⟨A, c, rfl, h1, h2⟩ := hv.reads
    exact ⟨A, c, rfl, h2, h1, hb⟩
  · rw [h] at hs; cases hs
theorem split_none {l : Sp.Bs} (h : Sp.split l = none) (hl : l.length ≤ 1099511627776) (w : World) : Calls Tryz.prog 37 #[.string (str l)] w (BRet w (.tuple #[.slice none 0 0, .bool false])) := by
  refine (split_any l w hl).mono ?_
  rintro e w1 (⟨v, ws2, hs, rfl, hv, hb⟩ | ⟨hs, rfl, hb⟩)
  · rw [h] at hs; cases hs
  · exact ⟨rfl, hb⟩
theorem world_shape (ws : List Sp.Bs) : (Sp.world ws).1.nums.length = 11 ∧ (Sp.world ws).1.ops = [] := by
  have hf : ∀ (l : List Sp.Bs) (r : List Int), Sp.fillWorld l = some r → r.length = l.length := by
    intro l
    induction l with
    | nil => intro r h; simp [Sp.fillWorld] at h; subst h; rfl
    | cons a l ih =>
      intro r h
      unfold Sp.fillWorld at h
      cases hn : Sp.number a with
      | none => rw [hn] at h; cases h
      | some x =>
        rw [hn] at h
        cases hr : Sp.fillWorld l with
        | none => simp [hr] at h
        | some r2 =>
          simp [hr] at h
          subst h
          simp [ih r2 hr]
  unfold Sp.world
  split
  · exact ⟨rfl, rfl⟩
  · split
    · exact ⟨rfl, rfl⟩
    · rename_i h12
      cases h : Sp.fillWorld (ws.drop 1) with
      | none => exact ⟨rfl, rfl⟩
      | some l =>
        have := hf _ _ h
        rw [List.length_drop] at this
        refine ⟨?_, rfl⟩
        show l.length = 11
        omega
def SplitN (w : World) (e : Ending) (w' : World) : Prop := ∃ (A : Option Addr) (cap : Nat), e = .returned (.tuple #[.slice A 0 cap, .bool true]) ∧ Below w.heap.size w w'
theorem split_nil' {l : Sp.Bs} (h : Sp.split l = some []) (hl : l.length ≤ 1099511627776) (w : World) : Calls Tryz.prog 37 #[.string (str l)] w (SplitN w) := by
  refine (split_some h hl w).mono ?_
  rintro e w1 ⟨A, cap, rfl, _, _, hb⟩
  exact ⟨A, cap, rfl, hb⟩
theorem play_last {l : List Int} (h : l.length = 11) (v : Value) : (playCells l v).toArray[11]? = some v := by
  simp [playCells, h]
theorem play_set_last {l : List Int} (h : l.length = 11) (v u : Value) : (playCells l v).toArray.setIfInBounds 11 u = (playCells l u).toArray := by
  simp [playCells, h]
def CutPost (w : World) (t : Sp.Bs) (e : Ending) (w' : World) : Prop := ∃ b, e = .returned (.tuple #[.string (str (Sp.line1 t)), .string (str (Sp.rest1 t)), .bool b]) ∧ Below w.heap.size w w'
theorem cut_line (t : Sp.Bs) (w : World) (he : Env w) (hs : t.length ≤ 1048576) : Calls Tryz.prog 36 #[.string (str t), .string ⟨#[10]⟩] w (CutPost w t) := by
  refine (cut_any (str t) ⟨#[10]⟩ w he (by rw [str_size]; omega)).mono ?_
  rintro e w1 ⟨rfl, hb⟩
  have h := cut10 t
  rw [show bl (str t) = t from rfl, show bl (⟨#[10]⟩ : ByteArray) = [10] from rfl, h.1, h.2]
  exact ⟨_, rfl, hb⟩
/-- a play's cells in a block of its own -/
def PlayAt (w : World) (base P : Nat) (p : Sp.Play) : Prop := ∃ v, w.heap[P]? = some (.cells (playCells p.nums v).toArray 28 (0, 0)) ∧ p.nums.length = 11 ∧ OpsRow w base v p.ops
theorem PlayAt.below {w w1 : World} {base P : Nat} {p : Sp.Play} (h : PlayAt w base P p) (hb : Below w.heap.size w w1) : PlayAt w1 base P p := by
  obtain ⟨v, h1, h2, h3⟩ := h
  exact ⟨v, (hb.block P (row_lt h1)).trans h1, h2, h3.below hb⟩
theorem PlayAt.app {w : World} {base P : Nat} {p : Sp.Play} {q : Sp.Op} {u v : Value} (h : w.heap[P]? = some (.cells (playCells p.nums u).toArray 28 (0, 0))) (h11 : p.nums.length = 11) (ho : OpsRow w base v (p.ops ++ [q])) : PlayAt (w.setCell ⟨P, 11, none⟩ v) base P { p with ops := p.ops ++ [q] } :=
  ⟨v, by rw [row_set h, play_set_last h11], h11, ho.far h (by simp [World.setCell]) (fun k hk => Below.heap_setCell w ⟨P, 11, none⟩ v k hk)⟩
def ParsePost (w : World) (r : Sp.Play × Nat × Nat) (e : Ending) (w' : World) : Prop :=
  ∃ v, e = .returned (.tuple #[.agg (playCells r.1.nums v).toArray, .int .i64 (r.2.1 : Int), .int .i64 (r.2.2 : Int)]) ∧ r.1.nums.length = 11 ∧ OpsRow w' w.heap.size v r.1.ops ∧ Below w.heap.size w w'

set_option maxHeartbeats 8000000 in
set_option maxRecDepth 100000 in
theorem parse_any (t0 : Sp.Bs) (w : World) (he : Env w) (hs : t0.length ≤ 140737488355328) :
    Calls Tryz.prog 14 #[.string (str t0)] w (ParsePost w (Sp.parse t0)) := by
  have HE := Lib.hid he
  clear he
  have hsz : (str t0).size = t0.length := str_size t0
  have hb0 : Below w.heap.size w (w.alloc (.cells #[.int .i64 0, .int .i64 0, .int .i64 0, .int .i64 0, .int .i64 0, .int .i64 0, .int .i64 0, .int .i64 0, .int .i64 0, .int .i64 0, .int .i64 0, .slice none 0 0] 28)) := (Below.refl _ _).alloc (Nat.le_refl _) _
  have hz0 : ZeroPlay (w.alloc (.cells #[.int .i64 0, .int .i64 0, .int .i64 0, .int .i64 0, .int .i64 0, .int .i64 0, .int .i64 0, .int .i64 0, .int .i64 0, .int .i64 0, .int .i64 0, .slice none 0 0] 28)) w.heap.size := heap_alloc_new w _
  by_cases hbig : 1048576 < t0.length
  · have HSP : Hid (Sp.parse t0 = ({}, 0, 216)) := Lib.hid (by unfold Sp.parse; rw [if_pos hbig])
    go_enter Tryz.func14, Tryz.ntmps14
    go_wp2_with (refine wpList_store_row rfl 28 (.tmp 2) (.tmp 18) rfl w.heap.size (playCells zeros (.slice none 0 0)).toArray rfl rfl 28 _ hz0 (by kernel_rfl) rfl (play_one _ rfl) ?_)
    refine bodyPost_ret (results_ctt rfl _ _ w.heap.size 28 (playCells zeros (.slice none 0 0)).toArray (0, 0) _ rfl (setRow_heap _ _ _ _ _ _ hz0) Tryz.underlying28 rfl (by kernel_rfl)) rfl ?_
    rw [HSP.out]
    exact ⟨_, rfl, rfl, OpsRow.nil _ _, setRow_below hb0 (Nat.le_refl _) _⟩
  · have HSP : Hid (Sp.parse t0 = Sp.lines t0 1 false {}) := Lib.hid (by unfold Sp.parse; rw [if_neg hbig])
    obtain ⟨W0, hW0⟩ : ∃ W0, W0 = ((w.alloc (.cells #[.int .i64 0, .int .i64 0, .int .i64 0, .int .i64 0, .int .i64 0, .int .i64 0, .int .i64 0, .int .i64 0, .int .i64 0, .int .i64 0, .int .i64 0, .slice none 0 0] 28)).alloc (.cells #[.int .i64 0, .int .i64 0, .int .i64 0, .int .i64 0, .int .i64 0, .int .i64 0, .int .i64 0, .int .i64 0, .int .i64 0, .int .i64 0, .int .i64 0, .slice none 0 0] 28)) := ⟨_, rfl⟩
    have hb1 : Below w.heap.size w W0 := by rw [hW0]; exact hb0.alloc hb0.size _
    have hz1 : ZeroPlay W0 w.heap.size := by rw [hW0]; exact (heap_alloc_old _ _ (row_lt hz0)).trans hz0
    have hp1 : PlayAt W0 w.heap.size (w.heap.size + 1) {} := by
      have h := heap_alloc_new (w.alloc (.cells #[.int .i64 0, .int .i64 0, .int .i64 0, .int .i64 0, .int .i64 0, .int .i64 0, .int .i64 0, .int .i64 0, .int .i64 0, .int .i64 0, .int .i64 0, .slice none 0 0] 28)) (.cells #[.int .i64 0, .int .i64 0, .int .i64 0, .int .i64 0, .int .i64 0, .int .i64 0, .int .i64 0, .int .i64 0, .int .i64 0, .int .i64 0, .int .i64 0, .slice none 0 0] 28)
      rw [World.size_alloc] at h
      rw [hW0]
      exact ⟨_, h, rfl, OpsRow.nil _ _⟩
    clear hb0 hz0
    go_enter Tryz.func14, Tryz.ntmps14
    go_wp2
    rw [← hW0]
    clear hW0
    go_loopw [0, 6, 7] (fun v0 v6 v7 wr => ∃ (t : Sp.Bs) (n : Nat) (begun : Bool) (p : Sp.Play), v0 = .string (str t) ∧ v6 = .bool begun ∧ v7 = .int .i64 (n : Int) ∧ t.length + n ≤ 1048577 ∧ 1 ≤ n ∧ p.ops.length ≤ 2000 ∧ PlayAt wr w.heap.size (w.heap.size + 1) p ∧ ZeroPlay wr w.heap.size ∧ Hid (Sp.parse t0 = Sp.lines t n begun p) ∧ Below w.heap.size w wr) (fun v0 _ _ _ => match v0 with | .string b => b.size | _ => 0)
    case atStart => exact ⟨t0, 1, false, {}, rfl, rfl, rfl, by omega, Nat.le_refl _, by simp, hp1, hz1, HSP, hb1⟩
    case round =>
      obtain ⟨t, n, begun, p, rfl, rfl, rfl, htn, hn1, hpl, HP, HZ, HQ, HB⟩ := hrel
      clear hp1 hz1 hb1 HSP hsz hs hbig
      have HBS := Lib.hid HB.size
      by_cases ht : t = []
      · subst ht
        have hne : (str []).toList.isEmpty = true := by rw [Lib.toList_data]; rfl
        rw [lines_nil] at HQ
        cases begun with
        | false =>
          go_wp2_with (refine wpList_store_row rfl 28 (.tmp 2) (.tmp 73) rfl w.heap.size (playCells zeros (.slice none 0 0)).toArray rfl rfl 28 _ HZ (by kernel_rfl) rfl (play_one _ rfl) ?_)
          refine bodyPost_ret (results_ctt rfl _ _ w.heap.size 28 (playCells zeros (.slice none 0 0)).toArray (0, 0) _ rfl (setRow_heap _ _ _ _ _ _ HZ) Tryz.underlying28 rfl (by kernel_rfl)) rfl ?_
          rw [HQ.out]
          exact ⟨_, rfl, rfl, OpsRow.nil _ _, setRow_below HB (Nat.le_refl _) _⟩
        | true =>
          obtain ⟨v, hv1, hv2, hv3⟩ := HP
          have hsz1 : (Tryz.prog.info? 28).map (·.size) = some ((playCells p.nums v).toArray).size := by
            rw [show ((playCells p.nums v).toArray).size = 12 by simp [playCells, hv2]]; kernel_rfl
          have hsz2 : ((playCells zeros (.slice none 0 0)).toArray).size = ((playCells p.nums v).toArray).size := by simp [playCells, hv2, zeros]
          have HSZ := Lib.hid (And.intro hsz1 (And.intro hsz2 (And.intro hv2 (And.intro hv3 hv1))))
          have hone := hv3.one
          clear hsz1 hsz2 hv2 hv3
          go_wp2_with (first | (refine wpList_load_row rfl 28 (.tmp 5) rfl (w.heap.size + 1) rfl 28 (playCells p.nums v).toArray _ _ hv1 Tryz.underlying28 rfl HSZ.out.1 ?_) | (refine wpList_store_row rfl 28 (.tmp 2) (.tmp 74) rfl w.heap.size (playCells p.nums v).toArray rfl rfl 28 _ HZ HSZ.out.1 HSZ.out.2.1 (play_one _ hone) ?_))
          refine bodyPost_ret (results_ctt rfl _ _ w.heap.size 28 (playCells p.nums v).toArray (0, 0) _ rfl (setRow_heap _ _ _ _ _ _ HZ) Tryz.underlying28 rfl HSZ.out.1) rfl ?_
          rw [HQ.out]
          exact ⟨v, rfl, HSZ.out.2.2.1, HSZ.out.2.2.2.1.far HZ (by simp) (fun k hk => setRow_other _ hk), setRow_below HB (Nat.le_refl _) _⟩
      · have hne : (str t).toList.isEmpty = false := empty_f (by rw [str_size]; intro h; exact ht (List.eq_nil_of_length_eq_zero h))
        have HQL : Hid (Sp.parse t0 = if (Sp.lineOf (Sp.line1 t) begun p).2.2 ≠ 0 then ({}, n, (Sp.lineOf (Sp.line1 t) begun p).2.2) else Sp.lines (Sp.rest1 t) (n + 1) (Sp.lineOf (Sp.line1 t) begun p).2.1 (Sp.lineOf (Sp.line1 t) begun p).1) := Lib.hid (by rw [HQ.out, lines_cons ht])
        have hlt := rest1_lt ht
        have HLT := Lib.hid (And.intro ht hlt)
        have hl1 : (Sp.line1 t).length ≤ 1099511627776 := by
          have := (List.takeWhile_sublist (l := t) (· ≠ 10)).length_le
          have h2 : (Sp.line1 t).length ≤ t.length := this
          omega
        have HT : Hid (t.length ≤ 1048576) := Lib.hid (by omega)
        clear HQ ht hlt
        obtain ⟨l1, hl1e⟩ : ∃ l, l = Sp.line1 t := ⟨_, rfl⟩
        obtain ⟨r1, hr1e⟩ : ∃ r, r = Sp.rest1 t := ⟨_, rfl⟩
        have HCUT : Hid (∀ w1, Below w.heap.size w w1 → Calls Tryz.prog 36 #[.string (str t), .string ⟨#[10]⟩] w1 (fun e w' => ∃ b, e = .returned (.tuple #[.string (str l1), .string (str r1), .bool b]) ∧ Below w1.heap.size w1 w')) := Lib.hid (fun w1 hb => by rw [hl1e, hr1e]; exact cut_line t w1 (HE.out.below hb) HT.out)
        rw [← hl1e] at HQL hl1
        rw [← hr1e] at HQL HLT
        clear hl1e hr1e
        have HL1 := Lib.hid hl1
        cases hspl : Sp.split l1 with
        | none =>
          have HSPL := Lib.hid hspl
          have HQ3 : Hid (Sp.parse t0 = ({}, n, 214)) := Lib.hid (by rw [HQL.out]; simp [Sp.lineOf, hspl])
          clear hspl hl1
          go_wp2_with (first | (go_at_call 36; refine (HCUT.out _ HB).mono ?_; rintro e w1 ⟨b, rfl, hb1⟩) | (go_at_call 37; refine (split_none HSPL.out HL1.out _).mono ?_; rintro e w2 ⟨rfl, hb2⟩; have hb3 := (hb1.trans (hb2.mono hb1.size)); have hz5 : ZeroPlay w2 w.heap.size := (hb3.block _ (row_lt HZ)).trans HZ; have HB3 := Lib.hid hb3; clear hb1 hb2 hb3) | (refine wpList_store_row rfl 28 (.tmp 2) (.tmp 68) rfl w.heap.size (playCells zeros (.slice none 0 0)).toArray rfl rfl 28 _ hz5 (by kernel_rfl) rfl (play_one _ rfl) ?_))
          refine bodyPost_ret (results_ctt rfl _ _ w.heap.size 28 (playCells zeros (.slice none 0 0)).toArray (0, 0) _ rfl (setRow_heap _ _ _ _ _ _ hz5) Tryz.underlying28 rfl (by kernel_rfl)) rfl ?_
          rw [HQ3.out]
          exact ⟨_, rfl, rfl, OpsRow.nil _ _, setRow_below (HB.trans (HB3.out.mono HBS.out)) (Nat.le_refl _) _⟩
        | some ws =>
          have HSPL := Lib.hid hspl
          have hsl := Sp.split_len _ l1 (Nat.le_refl _) ws hspl
          have HWS : Hid (∀ x ∈ ws, x.length ≤ 1099511627776) := Lib.hid (fun x hx => by have := hsl.1 x hx; omega)
          have hwl : ws.length ≤ 1099511627776 := by omega
          by_cases hws : ws.length = 0
          · obtain rfl : ws = [] := List.eq_nil_of_length_eq_zero hws
            have HQ3 : Hid (Sp.parse t0 = Sp.lines r1 (n + 1) begun p) := Lib.hid (by rw [HQL.out]; simp [Sp.lineOf, hspl])
            clear hspl hl1 hsl hws hwl
            go_wp2_with (first | (go_at_call 36; refine (HCUT.out _ HB).mono ?_; rintro e w1 ⟨b, rfl, hb1⟩) | (go_at_call 37; refine (split_nil' HSPL.out HL1.out _).mono ?_; rintro e w2 ⟨A, cap, rfl, hb2⟩; have hb3 := (hb1.trans (hb2.mono hb1.size)); have HB3 := Lib.hid hb3; clear hb1 hb2 hb3))
            go_roundw
            case rel => exact ⟨r1, n + 1, begun, p, rfl, rfl, by go_num, by have := HLT.out.2; omega, by omega, hpl, HP.below HB3.out, (HB3.out.block _ (row_lt HZ)).trans HZ, HQ3, HB.trans (HB3.out.mono HBS.out)⟩
            case measure => simp [str_size]; exact HLT.out.2
          · have hws0 : 0 < ws.length := by omega
            have TN : ((ws.length : Int) == 0) = false := beq_eq_false_iff_ne.2 (by omega)
            have hlo : Sp.lineOf l1 begun p = if begun = false then ((Sp.world ws).1, true, (Sp.world ws).2) else if p.ops.length = 2000 then (p, begun, 216) else ({ p with ops := p.ops ++ [(Sp.step ws).1] }, begun, (Sp.step ws).2) := by
              unfold Sp.lineOf
              rw [hspl]
              cases ws with
              | nil => exact absurd rfl hws
              | cons a b => rfl
            rw [hlo] at HQL
            clear hspl hl1 hsl hws hlo
            cases begun with
            | false =>
              obtain ⟨q, er, hq⟩ : ∃ q er, Sp.world ws = (q, er) := ⟨_, _, rfl⟩
              rw [if_pos rfl, hq] at HQL
              have hq11 : q.nums.length = 11 ∧ q.ops = [] := by
                have := world_shape ws
                rw [hq] at this
                exact this
              have HWO : Hid (∀ (A : Option Addr) (cap : Nat) (w2 : World), Below w.heap.size w w2 → ReadS w2 A ws → Calls Tryz.prog 38 #[.slice A ws.length cap] w2 (WorldPost w2 (q, er))) := Lib.hid (fun A cap w2 hb hr => by rw [← hq]; exact world_any A ws cap w2 (HE.out.below hb) hr hws0 hwl HWS.out)
              have HQ11 := Lib.hid hq11
              have hsz1 : (Tryz.prog.info? 28).map (·.size) = some ((playCells q.nums (.slice none 0 0)).toArray).size := by
                rw [show ((playCells q.nums (.slice none 0 0)).toArray).size = 12 by simp [playCells, hq11.1]]; kernel_rfl
              have hsz2 : ∀ v, ((playCells p.nums v).toArray).size = ((playCells q.nums (.slice none 0 0)).toArray).size := fun v => by
                obtain ⟨_, _, h11, _⟩ := HP
                simp [playCells, hq11.1, h11]
              have HSZ := Lib.hid (And.intro hsz1 hsz2)
              clear hq hq11 hsz1 hsz2
              obtain ⟨v, hv1, hv2, hv3⟩ := HP
              clear hv2 hv3
              by_cases he0 : er = 0
              · have T2 : ((er : Int) != 0) = false := by rw [bne_eq_false_iff_eq]; omega
                have HQ3 : Hid (Sp.parse t0 = Sp.lines r1 (n + 1) true q) := Lib.hid (by rw [HQL.out]; simp [he0])
                clear he0
                go_wp2_with (first | (go_at_call 36; refine (HCUT.out _ HB).mono ?_; rintro e w1 ⟨b, rfl, hb1⟩) | (go_at_call 37; refine (split_some HSPL.out HL1.out _).mono ?_; rintro e w2 ⟨A, cap, rfl, hrs, hcap, hb2⟩; have hb3 := (hb1.trans (hb2.mono hb1.size)); have HRS := Lib.hid hrs; have HB3a := Lib.hid hb3; clear hb1 hb2 hb3 hrs) | (go_at_call 38; refine (HWO.out _ _ _ (HB.trans (HB3a.out.mono HBS.out)) HRS.out).mono ?_; rintro e w3 ⟨rfl, hb4⟩; have hb5 := HB3a.out.trans (hb4.mono HB3a.out.size); have hr5 := (hb5.block _ (row_lt hv1)).trans hv1; have hz5 : ZeroPlay w3 w.heap.size := (hb5.block _ (row_lt HZ)).trans HZ; have HB3 := Lib.hid (HB.trans (hb5.mono HBS.out)); clear hb4 hb5; have tk1 := trivial) | (have tq := tk1; refine wpList_store_row rfl 28 (.tmp 5) (.tmp 59) rfl (w.heap.size + 1) (playCells q.nums (.slice none 0 0)).toArray rfl rfl 28 _ hr5 HSZ.out.1 (HSZ.out.2 v) (play_one _ rfl) ?_; clear tk1 tq))
                go_roundw
                case rel => exact ⟨r1, n + 1, true, q, rfl, rfl, by go_num, by have := HLT.out.2; omega, by omega, by rw [HQ11.out.2]; simp, ⟨.slice none 0 0, setRow_heap _ _ _ _ _ _ hr5, HQ11.out.1, by rw [HQ11.out.2]; exact OpsRow.nil _ _⟩, (setRow_other _ (by omega)).trans hz5, HQ3, setRow_below HB3.out (by omega) _⟩
                case measure => simp [str_size]; exact HLT.out.2
              · have T2 : ((er : Int) != 0) = true := by rw [bne_iff_ne]; omega
                have HQ3 : Hid (Sp.parse t0 = ({}, n, er)) := Lib.hid (by rw [HQL.out]; simp [he0])
                clear he0
                go_wp2_with (first | (go_at_call 36; refine (HCUT.out _ HB).mono ?_; rintro e w1 ⟨b, rfl, hb1⟩) | (go_at_call 37; refine (split_some HSPL.out HL1.out _).mono ?_; rintro e w2 ⟨A, cap, rfl, hrs, hcap, hb2⟩; have hb3 := (hb1.trans (hb2.mono hb1.size)); have HRS := Lib.hid hrs; have HB3a := Lib.hid hb3; clear hb1 hb2 hb3 hrs) | (go_at_call 38; refine (HWO.out _ _ _ (HB.trans (HB3a.out.mono HBS.out)) HRS.out).mono ?_; rintro e w3 ⟨rfl, hb4⟩; have hb5 := HB3a.out.trans (hb4.mono HB3a.out.size); have hr5 := (hb5.block _ (row_lt hv1)).trans hv1; have hz5 : ZeroPlay w3 w.heap.size := (hb5.block _ (row_lt HZ)).trans HZ; have HB3 := Lib.hid (HB.trans (hb5.mono HBS.out)); clear hb4 hb5; have tk1 := trivial) | (have tq := tk1; refine wpList_store_row rfl 28 (.tmp 5) (.tmp 59) rfl (w.heap.size + 1) (playCells q.nums (.slice none 0 0)).toArray rfl rfl 28 _ hr5 HSZ.out.1 (HSZ.out.2 v) (play_one _ rfl) ?_; clear tk1 tq; obtain ⟨W6, hW6⟩ : ∃ W6, W6 = w3.setRow (w.heap.size + 1) (playCells q.nums (.slice none 0 0)).toArray := ⟨_, rfl⟩; have hz6 : ZeroPlay W6 w.heap.size := (by rw [hW6]; exact (setRow_other _ (by omega)).trans hz5); have HB6 := Lib.hid (show Below w.heap.size w W6 from (by rw [hW6]; exact setRow_below HB3.out (by omega) _)); rw [← hW6]; clear hW6; have tk2 := trivial) | (have tq := tk2; refine wpList_store_row rfl 28 (.tmp 2) (.tmp 68) rfl w.heap.size (playCells zeros (.slice none 0 0)).toArray rfl rfl 28 _ hz6 (by kernel_rfl) rfl (play_one _ rfl) ?_))
                refine bodyPost_ret (results_ctt rfl _ _ w.heap.size 28 (playCells zeros (.slice none 0 0)).toArray (0, 0) _ rfl (setRow_heap _ _ _ _ _ _ hz6) Tryz.underlying28 rfl (by kernel_rfl)) rfl ?_
                rw [HQ3.out]
                exact ⟨_, rfl, rfl, OpsRow.nil _ _, setRow_below HB6.out (Nat.le_refl _) _⟩
            | true =>
              rw [if_neg (show ¬ (true = false) by simp)] at HQL
              by_cases h2000 : p.ops.length = 2000
              · have T20 : ((p.ops.length : Int) == 2000) = true := beq_iff_eq.2 (by omega)
                have HQ3 : Hid (Sp.parse t0 = ({}, n, 216)) := Lib.hid (by rw [HQL.out]; simp [h2000])
                clear h2000
                go_wp2_with (first | (go_at_call 36; refine (HCUT.out _ HB).mono ?_; rintro e w1 ⟨b, rfl, hb1⟩) | (go_at_call 37; refine (split_some HSPL.out HL1.out _).mono ?_; rintro e w2 ⟨A, cap, rfl, hrs, hcap, hb2⟩; have hb3 := (hb1.trans (hb2.mono hb1.size)); have hz5 : ZeroPlay w2 w.heap.size := (hb3.block _ (row_lt HZ)).trans HZ; obtain ⟨v, hv1, hv11, hv3⟩ := HP.below hb3; obtain ⟨Av, cv, rfl, hcv⟩ := hv3.len; have hc11 : w2.cell? ⟨w.heap.size + 1, 11, none⟩ = some (.slice Av p.ops.length cv) := (by rw [cell_of_row _ _ _ _ _ _ hv1]; exact play_last hv11 _); have HRS := Lib.hid (And.intro hrs (And.intro hv11 (And.intro hv3 hcap))); have HB3 := Lib.hid (HB.trans (hb3.mono HBS.out)); clear hb1 hb2 hb3 hrs hv11 hv3 hcap) | (have tq := hc11; refine wpList_store_row rfl 28 (.tmp 2) (.tmp 68) rfl w.heap.size (playCells zeros (.slice none 0 0)).toArray rfl rfl 28 _ hz5 (by kernel_rfl) rfl (play_one _ rfl) ?_))
                refine bodyPost_ret (results_ctt rfl _ _ w.heap.size 28 (playCells zeros (.slice none 0 0)).toArray (0, 0) _ rfl (setRow_heap _ _ _ _ _ _ hz5) Tryz.underlying28 rfl (by kernel_rfl)) rfl ?_
                rw [HQ3.out]
                exact ⟨_, rfl, rfl, OpsRow.nil _ _, setRow_below HB3.out (Nat.le_refl _) _⟩
              · have T20 : ((p.ops.length : Int) == 2000) = false := beq_eq_false_iff_ne.2 (by omega)
                rw [if_neg h2000] at HQL
                obtain ⟨q, er, hq⟩ : ∃ q er, Sp.step ws = (q, er) := ⟨_, _, rfl⟩
                rw [hq] at HQL
                have HSO : Hid (∀ (A : Option Addr) (cap : Nat) (w2 : World), Below w.heap.size w w2 → ReadS w2 A ws → ws.length ≤ cap → Calls Tryz.prog 39 #[.slice A ws.length cap] w2 (StepPost w2 (q, er))) := Lib.hid (fun A cap w2 hb hr hc => by rw [← hq]; exact step_any A ws cap w2 (HE.out.below hb) hr hc hws0 hwl HWS.out)
                have hpl2 : p.ops.length + 1 ≤ 2000 := by omega
                clear hq h2000 hws0 hwl
                have HTL : Hid (∀ (w2 w3 W4 : World) (Av : Option Addr) (cv : Nat) (v1 v2 v3 : Value), Below w.heap.size w w2 → w2.heap[w.heap.size + 1]? = some (.cells (playCells p.nums (.slice Av p.ops.length cv)).toArray 28 (0, 0)) → OpsRow w2 w.heap.size (.slice Av p.ops.length cv) p.ops → Below (w2.heap.size + 1) (w2.alloc (.cells #[.int .i64 0, .int .i64 0, .int .i64 0, .int .i64 0, .int .i64 0, .int .i64 0, .int .i64 0, .int .i64 0, .int .i64 0, .int .i64 0, .string ⟨#[]⟩, .string ⟨#[]⟩, .string ⟨#[]⟩, .slice none 0 0, .slice none 0 0, .slice none 0 0] 80)) w3 → OpRows w3 (w2.heap.size + 1) q v1 v2 v3 → W4 = w3.setRow w2.heap.size (opCells q v1 v2 v3).toArray →
                    ∃ ts, OpList W4 w.heap.size p.ops ts ∧ kraw.R 80 W4 w.heap.size (fun _ => True) (.slice Av p.ops.length cv) ((p.ops.zip ts).map rawOf) ∧ OpRows W4 w.heap.size q v1 v2 v3 ∧ (∀ u ∈ ts, ∀ k, u.has k → ¬ V3.has (v1, v2, v3) k) ∧ Below w2.heap.size w2 W4 ∧ W4.heap[w2.heap.size]? = some (.cells (opCells q v1 v2 v3).toArray 80 (0, 0))) := Lib.hid (by
                  intro w2 w3 W4 Av cv v1 v2 v3 hb hrow hops hb3 hro hW4
                  have hzo : (w2.alloc (.cells #[.int .i64 0, .int .i64 0, .int .i64 0, .int .i64 0, .int .i64 0, .int .i64 0, .int .i64 0, .int .i64 0, .int .i64 0, .int .i64 0, .string ⟨#[]⟩, .string ⟨#[]⟩, .string ⟨#[]⟩, .slice none 0 0, .slice none 0 0, .slice none 0 0] 80)).heap[w2.heap.size]? = some (.cells #[.int .i64 0, .int .i64 0, .int .i64 0, .int .i64 0, .int .i64 0, .int .i64 0, .int .i64 0, .int .i64 0, .int .i64 0, .int .i64 0, .string ⟨#[]⟩, .string ⟨#[]⟩, .string ⟨#[]⟩, .slice none 0 0, .slice none 0 0, .slice none 0 0] 80 (0, 0)) := heap_alloc_new _ _
                  have hz3 := (hb3.block w2.heap.size (by omega)).trans hzo
                  have hba : Below w2.heap.size w2 (w2.alloc (.cells #[.int .i64 0, .int .i64 0, .int .i64 0, .int .i64 0, .int .i64 0, .int .i64 0, .int .i64 0, .int .i64 0, .int .i64 0, .int .i64 0, .string ⟨#[]⟩, .string ⟨#[]⟩, .string ⟨#[]⟩, .slice none 0 0, .slice none 0 0, .slice none 0 0] 80)) := (Below.refl _ _).alloc (Nat.le_refl _) _
                  have hb23 : Below w2.heap.size w2 w3 := hba.trans (hb3.mono (by omega))
                  have hb24 : Below w2.heap.size w2 W4 := by rw [hW4]; exact setRow_below hb23 (Nat.le_refl _) _
                  obtain ⟨ts, h1, h2⟩ := hops
                  refine ⟨ts, h1.under hb24, Kd.R_below h2 hb24, ?_, ?_, hb24, by rw [hW4]; exact setRow_heap _ _ _ _ _ _ hz3⟩
                  · rw [hW4]
                    exact (hro.lower (by have := hb.size; omega)).step (by simp) (fun k hk => setRow_other _ (by have := (hro.lt k hk).1; omega))
                  · intro u hu k hk hk2
                    have := (h1.lt u hu k hk).2
                    have := (hro.lt k hk2).1
                    omega)
                have C39 : Hid (∀ (w2 : World) (A : Option Addr) (cap : Nat), Below w.heap.size w w2 → ReadS w2 A ws → ws.length ≤ cap → Calls Tryz.prog 39 #[.slice A ws.length cap] (w2.alloc (.cells #[.int .i64 0, .int .i64 0, .int .i64 0, .int .i64 0, .int .i64 0, .int .i64 0, .int .i64 0, .int .i64 0, .int .i64 0, .int .i64 0, .string ⟨#[]⟩, .string ⟨#[]⟩, .string ⟨#[]⟩, .slice none 0 0, .slice none 0 0, .slice none 0 0] 80)) (StepPost (w2.alloc (.cells #[.int .i64 0, .int .i64 0, .int .i64 0, .int .i64 0, .int .i64 0, .int .i64 0, .int .i64 0, .int .i64 0, .int .i64 0, .int .i64 0, .string ⟨#[]⟩, .string ⟨#[]⟩, .string ⟨#[]⟩, .slice none 0 0, .slice none 0 0, .slice none 0 0] 80)) (q, er))) := Lib.hid (fun w2 A cap hb hr hc => by
                  have hba : Below w2.heap.size w2 (w2.alloc (.cells #[.int .i64 0, .int .i64 0, .int .i64 0, .int .i64 0, .int .i64 0, .int .i64 0, .int .i64 0, .int .i64 0, .int .i64 0, .int .i64 0, .string ⟨#[]⟩, .string ⟨#[]⟩, .string ⟨#[]⟩, .slice none 0 0, .slice none 0 0, .slice none 0 0] 80)) := (Below.refl _ _).alloc (Nat.le_refl _) _
                  exact HSO.out A cap _ (hb.trans (hba.mono hb.size)) (hr.below hba) hc)
                clear HSO
                by_cases he0 : er = 0
                · have T2 : ((er : Int) != 0) = false := by rw [bne_eq_false_iff_eq]; omega
                  have HQ3 : Hid (Sp.parse t0 = Sp.lines r1 (n + 1) true { p with ops := p.ops ++ [q] }) := Lib.hid (by rw [HQL.out]; simp [he0])
                  clear he0
                  go_wp2_with (first | (go_at_call 36; refine (HCUT.out _ HB).mono ?_; rintro e w1 ⟨b, rfl, hb1⟩) | (go_at_call 37; refine (split_some HSPL.out HL1.out _).mono ?_; rintro e w2 ⟨A, cap, rfl, hrs, hcap, hb2⟩; have hb3 := (hb1.trans (hb2.mono hb1.size)); have hz5 : ZeroPlay w2 w.heap.size := (hb3.block _ (row_lt HZ)).trans HZ; obtain ⟨v, hv1, hv11, hv3⟩ := HP.below hb3; obtain ⟨Av, cv, rfl, hcv⟩ := hv3.len; have hc11 : w2.cell? ⟨w.heap.size + 1, 11, none⟩ = some (.slice Av p.ops.length cv) := (by rw [cell_of_row _ _ _ _ _ _ hv1]; exact play_last hv11 _); have HRS := Lib.hid (And.intro hrs (And.intro hv11 (And.intro hv3 (And.intro hcap (And.intro hv1 hz5))))); have HB3 := Lib.hid (HB.trans (hb3.mono HBS.out)); clear hb1 hb2 hb3 hrs hv11 hv3 hcap hv1 hz5) | (go_at_call 39; refine (C39.out w2 A cap HB3.out HRS.out.1 HRS.out.2.2.2.1).mono ?_; rintro e w3 ⟨v1, v2, v3, rfl, hro, hb4⟩; rw [World.size_alloc] at hro hb4; have hzo : w3.heap[w2.heap.size]? = some _ := (hb4.block w2.heap.size (by omega)).trans (heap_alloc_new w2 _); have hone := op_one q hro.1.one hro.2.1.one hro.2.2.1.one; have HRO := Lib.hid (And.intro hro hb4); clear hro hb4 hc11; have tk1 := trivial) | (have tq := tk1; refine wpList_store_row rfl 80 (.tmp 14) (.tmp 38) rfl w2.heap.size (opCells q v1 v2 v3).toArray rfl rfl 80 _ hzo (by kernel_rfl) rfl hone ?_; clear tk1 tq hzo; obtain ⟨W4, hW4⟩ : ∃ W4, W4 = w3.setRow w2.heap.size (opCells q v1 v2 v3).toArray := ⟨_, rfl⟩; obtain ⟨ts, t1, t2, t3, t4, t5, t6⟩ := HTL.out w2 w3 W4 Av cv v1 v2 v3 HB3.out HRS.out.2.2.2.2.1 HRS.out.2.2.1 HRO.out.2 HRO.out.1 hW4; rw [← hW4]; have hr4 := (t5.block _ (row_lt HRS.out.2.2.2.2.1)).trans HRS.out.2.2.2.2.1; have hc12 : W4.cell? ⟨w.heap.size + 1, 11, none⟩ = some (.slice Av p.ops.length cv) := (by rw [cell_of_row _ _ _ _ _ _ hr4]; exact play_last HRS.out.2.1 _); have HT4 := Lib.hid (And.intro t1 (And.intro t2 (And.intro t3 (And.intro t4 (And.intro t5 (And.intro hr4 t6)))))); clear hW4 t1 t2 t3 t4 t5 hr4 t6; have tk2 := trivial) | (have tq := tk2; refine wpList_load_row rfl 80 (.tmp 14) rfl w2.heap.size rfl 80 (opCells q v1 v2 v3).toArray _ _ HT4.out.2.2.2.2.2.2 Tryz.underlying80 rfl (by kernel_rfl) ?_; clear tk2 tq; have tk3 := trivial) | (have tq := tk3; refine wpList_build_op (W := W4) (x := .tmp 42) (p := q) (v1 := v1) (v2 := v2) (v3 := v3) rfl rfl rfl ?_; clear tk3 tq; have tk4 := trivial) | (have tq := tk4; at_builtin; refine ap_op (W := W4) (base := w.heap.size) (w0 := w) (v := .slice Av p.ops.length cv) (os := p.ops) (p := q) (v1 := v1) (v2 := v2) (v3 := v3) (ts := ts) rfl rfl rfl rfl HT4.out.1 HT4.out.2.1 HT4.out.2.2.1 HT4.out.2.2.2.1 (HB3.out.trans (HT4.out.2.2.2.2.1.mono HB3.out.size)) (HB3.out.trans (HT4.out.2.2.2.2.1.mono HB3.out.size)).size (by omega) ?_; clear tk4 tq; intro v4 w5 a1 a2 a3 a4; obtain ⟨A5, c5, hv5, hc5⟩ := a1.len; subst hv5; have hr5 := grown_keeps a3 a4 HT4.out.2.2.2.2.2.1 (by decide); have hz4 : ZeroPlay W4 w.heap.size := (HT4.out.2.2.2.2.1.block _ (row_lt HRS.out.2.2.2.2.2)).trans HRS.out.2.2.2.2.2; have hz6 : ZeroPlay w5 w.heap.size := grown_keeps a3 a4 hz4 (by decide); have hc13 : w5.cell? ⟨w.heap.size + 1, 11, none⟩ = some (.slice Av p.ops.length cv) := (by rw [cell_of_row _ _ _ _ _ _ hr5]; exact play_last HRS.out.2.1 _); have hf13 := row_frozen hr5 11; have HA := Lib.hid (And.intro a1 (And.intro a2 (And.intro hr5 hz6))); clear a1 a2 a3 a4 hr5 hz4 hz6 hc12))
                  go_roundw
                  case rel =>
                    have h1 := HA.out.1
                    simp only [List.length_append, List.length_singleton] at h1
                    exact ⟨r1, n + 1, true, _, rfl, rfl, by go_num, by have := HLT.out.2; omega, by omega, by simp only [List.length_append, List.length_singleton]; exact hpl2, PlayAt.app HA.out.2.2.1 HRS.out.2.1 h1, (Below.heap_setCell w5 ⟨w.heap.size + 1, 11, none⟩ _ w.heap.size (by simp only; omega)).trans HA.out.2.2.2, HQ3, HA.out.2.1.setCell (by simp only; omega) _⟩
                  case measure => simp [str_size]; exact HLT.out.2
                · have T2 : ((er : Int) != 0) = true := by rw [bne_iff_ne]; omega
                  have HQ3 : Hid (Sp.parse t0 = ({}, n, er)) := Lib.hid (by rw [HQL.out]; simp [he0])
                  clear he0
                  go_wp2_with (first | (go_at_call 36; refine (HCUT.out _ HB).mono ?_; rintro e w1 ⟨b, rfl, hb1⟩) | (go_at_call 37; refine (split_some HSPL.out HL1.out _).mono ?_; rintro e w2 ⟨A, cap, rfl, hrs, hcap, hb2⟩; have hb3 := (hb1.trans (hb2.mono hb1.size)); have hz5 : ZeroPlay w2 w.heap.size := (hb3.block _ (row_lt HZ)).trans HZ; obtain ⟨v, hv1, hv11, hv3⟩ := HP.below hb3; obtain ⟨Av, cv, rfl, hcv⟩ := hv3.len; have hc11 : w2.cell? ⟨w.heap.size + 1, 11, none⟩ = some (.slice Av p.ops.length cv) := (by rw [cell_of_row _ _ _ _ _ _ hv1]; exact play_last hv11 _); have HRS := Lib.hid (And.intro hrs (And.intro hv11 (And.intro hv3 (And.intro hcap (And.intro hv1 hz5))))); have HB3 := Lib.hid (HB.trans (hb3.mono HBS.out)); clear hb1 hb2 hb3 hrs hv11 hv3 hcap hv1 hz5) | (go_at_call 39; refine (C39.out w2 A cap HB3.out HRS.out.1 HRS.out.2.2.2.1).mono ?_; rintro e w3 ⟨v1, v2, v3, rfl, hro, hb4⟩; rw [World.size_alloc] at hro hb4; have hzo : w3.heap[w2.heap.size]? = some _ := (hb4.block w2.heap.size (by omega)).trans (heap_alloc_new w2 _); have hone := op_one q hro.1.one hro.2.1.one hro.2.2.1.one; have HRO := Lib.hid (And.intro hro hb4); clear hro hb4 hc11; have tk1 := trivial) | (have tq := tk1; refine wpList_store_row rfl 80 (.tmp 14) (.tmp 38) rfl w2.heap.size (opCells q v1 v2 v3).toArray rfl rfl 80 _ hzo (by kernel_rfl) rfl hone ?_; clear tk1 tq hzo; obtain ⟨W4, hW4⟩ : ∃ W4, W4 = w3.setRow w2.heap.size (opCells q v1 v2 v3).toArray := ⟨_, rfl⟩; obtain ⟨ts, t1, t2, t3, t4, t5, t6⟩ := HTL.out w2 w3 W4 Av cv v1 v2 v3 HB3.out HRS.out.2.2.2.2.1 HRS.out.2.2.1 HRO.out.2 HRO.out.1 hW4; rw [← hW4]; have hr4 := (t5.block _ (row_lt HRS.out.2.2.2.2.1)).trans HRS.out.2.2.2.2.1; have hc12 : W4.cell? ⟨w.heap.size + 1, 11, none⟩ = some (.slice Av p.ops.length cv) := (by rw [cell_of_row _ _ _ _ _ _ hr4]; exact play_last HRS.out.2.1 _); have HT4 := Lib.hid (And.intro t1 (And.intro t2 (And.intro t3 (And.intro t4 (And.intro t5 (And.intro hr4 t6)))))); clear hW4 t1 t2 t3 t4 t5 hr4 t6; have tk2 := trivial) | (have tq := tk2; refine wpList_load_row rfl 80 (.tmp 14) rfl w2.heap.size rfl 80 (opCells q v1 v2 v3).toArray _ _ HT4.out.2.2.2.2.2.2 Tryz.underlying80 rfl (by kernel_rfl) ?_; clear tk2 tq; have tk3 := trivial) | (have tq := tk3; refine wpList_build_op (W := W4) (x := .tmp 42) (p := q) (v1 := v1) (v2 := v2) (v3 := v3) rfl rfl rfl ?_; clear tk3 tq; have tk4 := trivial) | (have tq := tk4; at_builtin; refine ap_op (W := W4) (base := w.heap.size) (w0 := w) (v := .slice Av p.ops.length cv) (os := p.ops) (p := q) (v1 := v1) (v2 := v2) (v3 := v3) (ts := ts) rfl rfl rfl rfl HT4.out.1 HT4.out.2.1 HT4.out.2.2.1 HT4.out.2.2.2.1 (HB3.out.trans (HT4.out.2.2.2.2.1.mono HB3.out.size)) (HB3.out.trans (HT4.out.2.2.2.2.1.mono HB3.out.size)).size (by omega) ?_; clear tk4 tq; intro v4 w5 a1 a2 a3 a4; obtain ⟨A5, c5, hv5, hc5⟩ := a1.len; subst hv5; have hr5 := grown_keeps a3 a4 HT4.out.2.2.2.2.2.1 (by decide); have hz4 : ZeroPlay W4 w.heap.size := (HT4.out.2.2.2.2.1.block _ (row_lt HRS.out.2.2.2.2.2)).trans HRS.out.2.2.2.2.2; have hz6 : ZeroPlay w5 w.heap.size := grown_keeps a3 a4 hz4 (by decide); have hc13 : w5.cell? ⟨w.heap.size + 1, 11, none⟩ = some (.slice Av p.ops.length cv) := (by rw [cell_of_row _ _ _ _ _ _ hr5]; exact play_last HRS.out.2.1 _); have hf13 := row_frozen hr5 11; have HA := Lib.hid (And.intro a1 (And.intro a2 (And.intro hr5 hz6))); have hz7 := (Below.heap_setCell w5 ⟨w.heap.size + 1, 11, none⟩ (.slice A5 (p.ops.length + 1) c5) w.heap.size (by simp only; omega)).trans hz6; clear a1 a2 a3 a4 hr5 hz4 hz6 hc12; have tk5 := trivial) | (have tq := tk5; refine wpList_store_row rfl 28 (.tmp 2) (.tmp 68) rfl w.heap.size (playCells zeros (.slice none 0 0)).toArray rfl rfl 28 _ hz7 (by kernel_rfl) rfl (play_one _ rfl) ?_))
                  refine bodyPost_ret (results_ctt rfl _ _ w.heap.size 28 (playCells zeros (.slice none 0 0)).toArray (0, 0) _ rfl (setRow_heap _ _ _ _ _ _ hz7) Tryz.underlying28 rfl (by kernel_rfl)) rfl ?_
                  rw [HQ3.out]
                  exact ⟨_, rfl, rfl, OpsRow.nil _ _, setRow_below (HA.out.2.1.setCell (p := ⟨w.heap.size + 1, 11, none⟩) (by simp only; omega) _) (Nat.le_refl _) _⟩
end Go.Proofs.YthnhfddlmkhgkaaGreatDoor

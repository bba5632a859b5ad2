/- Walks: what some functions of the play package and its laws compute, as contracts. -/
import Derived.Test.YthnhfddlmkhgkaaGreatDoorZSameAll
import Derived.Test.YthnhfddlmkhgkaaGreatDoorZSpecAll
set_option linter.unusedVariables false
namespace Go.Proofs.YthnhfddlmkhgkaaGreatDoor
open Go.RowKit Go.Proofs.YthnhfddlmkhgkaaGreatDoorW.PrintWords

theorem getT_eq {c : UInt8} {C : Int} (h : C = (c.toNat : Int)) (cl : Sp.Call) : cl.getT c = if C = 112 then cl.path else if C = 110 then cl.name else if C = 50 then cl.name2 else cl.data := by
  have e : ∀ (k : UInt8) (K : Int), (k.toNat : Int) = K → (c = k ↔ C = K) := fun k K hk => by
    rw [h, ← hk]; exact ⟨fun e => by rw [e], fun e => UInt8.toNat_inj.1 (by omega)⟩
  unfold Sp.Call.getT
  simp only [e 112 112 rfl, e 110 110 rfl, e 50 50 rfl]
set_option maxHeartbeats 2000000 in
set_option maxRecDepth 100000 in
theorem told_any (a : Sp.Call) (va : Value) (c : UInt8) (n : Int) (hn : n = (c.toNat : Int)) (w : World) (ha : CallV w a va) :
    Calls Tryz.prog 98 #[.agg (callCells a va).toArray, .int .u8 n] w (BRet w (.string (str (a.getT c)))) := by
  have h0 : 0 ≤ n := by omega
  have h1 : n ≤ 255 := by have := c.toNat_lt; omega
  obtain ⟨A, ka, rfl, hra⟩ := ha
  obtain ⟨r, hr⟩ : ∃ r, r = a.getT c := ⟨_, rfl⟩
  rw [← hr]
  rw [getT_eq hn] at hr
  have HR := Lib.hid hr
  clear hr hn
  have hbb : Below w.heap.size w (w.alloc (.cells #[.int .i64 a.op, .int .i64 a.h, .int .i64 a.h2, .int .i64 a.off, .int .i64 a.len, .string (str a.path), .string (str a.name), .string (str a.name2), .slice A a.data.length ka] 51)) := (Below.refl _ _).alloc (Nat.le_refl _) _
  have hcv : (convert 45 9 (.slice A a.data.length ka)).run Tryz.prog (w.alloc (.cells #[.int .i64 a.op, .int .i64 a.h, .int .i64 a.h2, .int .i64 a.off, .int .i64 a.len, .string (str a.path), .string (str a.name), .string (str a.name2), .slice A a.data.length ka] 51)) = .ok (.string (str a.data)) (w.alloc (.cells #[.int .i64 a.op, .int .i64 a.h, .int .i64 a.h2, .int .i64 a.off, .int .i64 a.len, .string (str a.path), .string (str a.name), .string (str a.name2), .slice A a.data.length ka] 51)) := by
    have hh := Kd.C_string (P := Tryz.prog) (src := 45) (dst := 9) (c := ka) Tryz.underlying45 Tryz.underlying5 Tryz.underlying9 (hra.below hbb)
    rw [hh, str_us]
  have HBB := Lib.hid hbb
  clear hbb hra
  show Calls Tryz.prog 98 #[.agg #[.int .i64 a.op, .int .i64 a.h, .int .i64 a.h2, .int .i64 a.off, .int .i64 a.len, .string (str a.path), .string (str a.name), .string (str a.name2), .slice A a.data.length ka], .int .u8 n] w _
  go_enter Tryz.func98, Tryz.ntmps98
  go_wp2
  all_goals go_ret
  all_goals (refine ⟨?_, HBB.out⟩; rw [HR.out]; simp only [beq_iff_eq, beq_eq_false_iff_ne, ne_eq] at *)
  · rw [if_pos (by assumption)]; rfl
  · rw [if_neg (by omega), if_pos (by assumption)]; rfl
  · rw [if_neg (by omega), if_neg (by omega), if_pos (by assumption)]; rfl
  · rw [if_neg (by omega), if_neg (by omega), if_neg (by omega)]; rfl
end Go.Proofs.YthnhfddlmkhgkaaGreatDoor

set_option linter.unusedVariables false
namespace Go.Proofs.YthnhfddlmkhgkaaGreatDoor
open Go.RowKit Go.Proofs.YthnhfddlmkhgkaaGreatDoorW.PrintWords

set_option maxHeartbeats 4000000 in
set_option maxRecDepth 100000 in
theorem hasAny_any (f ls : ByteArray) (w : World) (hf : f.size ≤ 1099511627776) (hl : ls.size ≤ 1099511627776) (af : ∀ c ∈ bl f, c.toNat < 128) (al : ∀ c ∈ bl ls, c.toNat < 128) :
    Calls Tryz.prog 143 #[.string f, .string ls] w (BRet w (.bool ((bl f).any fun c => (bl ls).contains c))) := by
  obtain ⟨r, hr⟩ : ∃ r, r = (bl f).any fun c => (bl ls).contains c := ⟨_, rfl⟩
  rw [← hr]
  have HR := Lib.hid hr
  have HA := Lib.hid (And.intro af al)
  clear hr af al
  go_enter Tryz.func143, Tryz.ntmps143
  go_wp2
  go_loopw [] (fun wr => ∃ (pos : Nat), pos ≤ f.size ∧ Hid (wr.heap[w.heap.size]? = some (.stringIter f pos)) ∧ Hid (∀ c ∈ (bl f).take pos, c ∉ bl ls) ∧ Below w.heap.size w wr) (fun wr => f.size - wr.iterPos w.heap.size)
  case atStart => exact ⟨0, Nat.zero_le _, Lib.hid (World.iter_heap w f 0), Lib.hid (by simp), (Below.refl _ _).alloc (Nat.le_refl _) _⟩
  case round =>
    obtain ⟨pos, hp, HI, HQ, HB⟩ := hrel
    by_cases hlt : pos < f.size
    · obtain ⟨c, hc⟩ : ∃ c, c = f[pos]'hlt := ⟨_, rfl⟩
      have hdr := bl_drop f pos hlt
      rw [← hc] at hdr
      have hmem : c ∈ bl f := List.mem_of_mem_drop (by rw [hdr]; exact List.mem_cons_self)
      have ha := HA.out.1 c hmem
      have hn := Lib.run_next_ascii_at (P := Tryz.prog) wr w.heap.size f pos 0 HI.out hlt (by rw [← hc]; exact ha)
      obtain ⟨C, hC⟩ : ∃ C : Int, C = (c.toNat : Int) := ⟨_, rfl⟩
      rw [← hc, ← hC] at hn
      have hC0 : 0 ≤ C := by omega
      have hC1 : C ≤ 127 := by omega
      have HCC := Lib.hid hC
      have HI1 : Hid ((wr.iterAt w.heap.size f (pos + 1)).heap[w.heap.size]? = some (.stringIter f (pos + 1))) := Lib.iterAt_heap wr w.heap.size f pos (pos + 1) HI.out
      have HB1 : Below w.heap.size w (wr.iterAt w.heap.size f (pos + 1)) := Lib.below_iterAt HB (Nat.le_refl _) f (pos + 1)
      have hpos := Lib.hid (show wr.iterPos w.heap.size = pos by simp only [World.iterPos, HI.out])
      have HT : Hid ((bl f).take (pos + 1) = (bl f).take pos ++ [c]) := Lib.hid (by
        rw [List.take_succ_eq_append_getElem (by rw [bl_len]; exact hlt), hc]; rfl)
      have HM := Lib.hid hmem
      generalize hW : wr.iterAt w.heap.size f (pos + 1) = W at *
      clear hC hc ha hW hdr hmem
      go_wp2
      go_loopw [] (fun wr2 => ∃ p2 : Nat, p2 ≤ ls.size ∧ wr2 = W.iter ls p2 ∧ Hid (∀ d ∈ (bl ls).take p2, d ≠ c)) (fun wr2 => ls.size - wr2.iterPos W.heap.size)
      case atStart => exact ⟨0, Nat.zero_le _, rfl, Lib.hid (by simp)⟩
      case round =>
        obtain ⟨p2, hp2, rfl, HQ2⟩ := hrel
        by_cases h2 : p2 < ls.size
        · obtain ⟨d, hd⟩ : ∃ d, d = ls[p2]'h2 := ⟨_, rfl⟩
          have hdr2 := bl_drop ls p2 h2
          rw [← hd] at hdr2
          have hmem2 : d ∈ bl ls := List.mem_of_mem_drop (by rw [hdr2]; exact List.mem_cons_self)
          have ha2 := HA.out.2 d hmem2
          have hn2 := run_next_ascii (P := Tryz.prog) W ls p2 0 h2 (by rw [← hd]; exact ha2)
          obtain ⟨D, hD⟩ : ∃ D : Int, D = (d.toNat : Int) := ⟨_, rfl⟩
          rw [← hd, ← hD] at hn2
          have hD0 : 0 ≤ D := by omega
          have hD1 : D ≤ 127 := by omega
          have HT2 : Hid ((bl ls).take (p2 + 1) = (bl ls).take p2 ++ [d]) := Lib.hid (by
            rw [List.take_succ_eq_append_getElem (by rw [bl_len]; exact h2), hd]; rfl)
          have HM2 := Lib.hid hmem2
          have T : (C == D) = decide (c = d) := by rw [hD]; exact u8_eqb d HCC.out rfl
          clear hD hd ha2 hdr2 hmem2
          by_cases e : c = d
          · rw [decide_eq_true e] at T
            have HE := Lib.hid e
            clear e
            go_wp2
            go_ret
            refine ⟨ret_bool ?_, HB1.trans (((Below.refl _ _).alloc (Nat.le_refl _) _).mono HB1.size)⟩
            rw [HR.out]
            symm
            rw [List.any_eq_true]
            exact ⟨c, HM.out, by rw [HE.out]; simpa using HM2.out⟩
          · rw [decide_eq_false e] at T
            have HE := Lib.hid e
            clear e
            go_wp2
            go_roundw
            case rel =>
              refine ⟨p2 + 1, by omega, rfl, Lib.hid ?_⟩
              intro y hy
              rw [HT2.out] at hy
              rcases List.mem_append.1 hy with hy | hy
              · exact HQ2.out y hy
              · rw [List.mem_singleton.1 hy]; exact fun q => HE.out q.symm
            case measure => simp; omega
        · have hn2 := run_next_end (P := Tryz.prog) W ls p2 0 h2
          have hI2 : (W.iter ls p2).heap[w.heap.size]? = some (.stringIter f (pos + 1)) := (((Below.refl W.heap.size W).alloc (Nat.le_refl _) _).block _ (row_lt HI1.out)).trans HI1.out
          have HI2 := Lib.hid hI2
          clear hI2
          go_wp2
          go_roundw
          case rel =>
            refine ⟨pos + 1, by omega, HI2, Lib.hid ?_, HB1.trans (((Below.refl _ _).alloc (Nat.le_refl _) _).mono HB1.size)⟩
            intro y hy
            rw [HT.out] at hy
            rcases List.mem_append.1 hy with hy | hy
            · exact HQ.out y hy
            · rw [List.mem_singleton.1 hy]
              intro q
              exact HQ2.out c (by rw [List.take_of_length_le (by rw [bl_len]; omega)]; exact q) rfl
          case measure =>
            rw [show (W.iter ls p2).iterPos w.heap.size = pos + 1 by simp only [World.iterPos, HI2.out], hpos.out]
            omega
    · have hn := Lib.run_next_end_at (P := Tryz.prog) wr w.heap.size f pos 0 HI.out hlt
      go_wp2
      go_ret
      refine ⟨ret_bool ?_, HB⟩
      rw [HR.out]
      symm
      rw [List.any_eq_false]
      intro c hc
      have := HQ.out c (by rw [List.take_of_length_le (by rw [bl_len]; omega)]; exact hc)
      simpa using this
end Go.Proofs.YthnhfddlmkhgkaaGreatDoor

set_option linter.unusedVariables false
namespace Go.Proofs.YthnhfddlmkhgkaaGreatDoor
open Go.RowKit Go.Proofs.YthnhfddlmkhgkaaGreatDoorW.PrintWords

theorem num_any (e : Int) (w : World) : Calls Tryz.prog 17 #[.int .i64 e] w (SRet w (.int .i64 e)) := by
  go_enter Tryz.func17, Tryz.ntmps17
  go_wp2
  go_ret
  exact ⟨rfl, rfl⟩
theorem bound_any (n : Int) (w : World) : Calls Tryz.prog 34 #[.int .i64 n] w (SRet w (.bool (decide (0 ≤ n ∧ n ≤ 1073741824)))) := by
  obtain ⟨r, hr⟩ : ∃ r, r = decide (0 ≤ n ∧ n ≤ 1073741824) := ⟨_, rfl⟩
  rw [← hr]
  have HR := Lib.hid hr
  clear hr
  go_enter Tryz.func34, Tryz.ntmps34
  go_wp2
  all_goals go_ret
  all_goals (refine ⟨ret_bool ?_, rfl⟩; rw [HR.out, Bool.eq_iff_iff, decide_eq_true_iff]; first | (simp; omega) | simp_all | omega)
set_option maxHeartbeats 2000000 in
set_option maxRecDepth 100000 in
/-- bytes in new memory -/
theorem bytes_any (A : Option Addr) (l : List UInt8) (c : Nat) (w : World) (h : ReadU w A l) (hl : l.length ≤ 1099511627776) :
    Calls Tryz.prog 24 #[.slice A l.length c] w (fun e w' => ∃ v, e = .returned v ∧ RowU w' w.heap.size v l ∧ Below w.heap.size w w') := by
  have HR := Lib.hid h
  clear h
  go_enter Tryz.func24, Tryz.ntmps24
  go_wp2
  go_loopw [3, 4] (fun v3 v4 wr => ∃ (i : Nat), v4 = .int .i64 (i : Int) ∧ i ≤ l.length ∧ RowU wr w.heap.size v3 (l.take i) ∧ Below w.heap.size w wr) (fun _ v4 _ => l.length - (intOf v4).toNat)
  case atStart => exact ⟨0, rfl, Nat.zero_le _, by simpa using RowU.nil _ _, Below.refl _ _⟩
  case round =>
    obtain ⟨i, rfl, hi, HO, HB⟩ := hrel
    by_cases hlt : i < l.length
    · obtain ⟨ad, hA, hcell⟩ := (HR.out.below HB).at_ i hlt
      obtain ⟨x, hx⟩ : ∃ x, x = l[i]'hlt := ⟨_, rfl⟩
      rw [← hx] at hcell
      obtain ⟨X, hX⟩ : ∃ X : Int, X = (x.toNat : Int) := ⟨_, rfl⟩
      rw [← hX] at hcell
      have HX := Lib.hid hX
      have HT : Hid (l.take (i + 1) = l.take i ++ [x]) := Lib.hid (by rw [List.take_succ_eq_append_getElem hlt, hx])
      subst hA
      clear hx hX
      go_wp2_with (at_builtin; refine ap_u8 (W := wr) (base := w.heap.size) (w0 := w) (v := u3) (l := l.take i) (c := x) rfl rfl rfl rfl HX.out HO HB HB.size (by rw [List.length_take]; omega) ?_; intro v1 w1 HO1 HB1 j1 j2; clear j1 j2)
      go_roundw
      case rel => exact ⟨i + 1, by go_num, by omega, by rw [HT.out]; exact HO1, HB1⟩
      case measure => simp [intOf]; omega
    · go_wp2
      go_ret
      exact ⟨_, rfl, by rw [List.take_of_length_le (by omega)] at HO; exact HO, HB⟩
end Go.Proofs.YthnhfddlmkhgkaaGreatDoor

set_option linter.unusedVariables false
namespace Go.Proofs.YthnhfddlmkhgkaaGreatDoor
open Go.RowKit Go.Proofs.YthnhfddlmkhgkaaGreatDoorW.PrintWords

/-- a whole struct loaded, as a step of a region that draws -/
theorem still_load_any {P : Program} {ops : Array Oper} {w : World} {L : Act → Prop} {rest : List Oper} {o : Oper} {a : Act} (hgd : o.guard = none) (ty : TypeId) (x : Operand) (ho : o.op = .load ty x)
    (p : Addr) (hx : a.eval x = .pointer (some p)) (cs : List Value) (d : TypeDesc) (hc : ∀ j v, cs[j]? = some v → w.cell? (p.add j) = some v)
    (hu : P.underlying ty = some d) (hd : d.isRow = true) (hi : (P.info? ty).map (·.size) = some cs.length)
    (h : wpStill P ops w L rest (a.put o.dst (.agg cs.toArray))) : wpStill P ops w L (o :: rest) a := by
  refine wpStill_step (fun K hK => ?_)
  have hw : Region.wanted o (yielded ops a.tmps) = true := by simp [Region.wanted, hgd]
  rw [if_pos hw]
  have hrun : (execOp a.eval o).run P w = .ok (.value (.agg cs.toArray)) w := by
    unfold execOp
    simp only [ho, hx]
    rw [Sem.run_bind, run_loadAt_any w p ty cs d hc hu hd hi]
    rfl
  unfold Oper.still
  rw [hrun]
  exact ⟨rfl, hK _ h⟩
end Go.Proofs.YthnhfddlmkhgkaaGreatDoor

set_option linter.unusedVariables false
namespace Go.Proofs.YthnhfddlmkhgkaaGreatDoor
open Go.RowKit Go.Proofs.YthnhfddlmkhgkaaGreatDoorW.PrintWords

/-- a play that is read, as a value -/
def PlayV (w : World) (p : Sp.Play) (v : Value) : Prop := p.nums.length = 11 ∧ ∃ A k, v = .slice A p.ops.length k ∧ ReadO w A p.ops ∧ p.ops.length ≤ 1099511627776 ∧ ∀ o ∈ p.ops, o.data.length ≤ 140737488355328 ∧ o.keep.length ≤ 140737488355328 ∧ o.call.data.length ≤ 140737488355328
theorem list11 {A : List Int} (ha : A.length = 11) : ∃ a0 a1 a2 a3 a4 a5 a6 a7 a8 a9 a10, A = [a0, a1, a2, a3, a4, a5, a6, a7, a8, a9, a10] := by
  match A, ha with
  | [a0, a1, a2, a3, a4, a5, a6, a7, a8, a9, a10], _ => exact ⟨a0, a1, a2, a3, a4, a5, a6, a7, a8, a9, a10, rfl⟩
/-- two plays laid into boxes -/
def pbox2 (w : World) (a b : List Int) (va vb : Value) : World := (w.alloc (.cells (playCells a va).toArray 28)).alloc (.cells (playCells b vb).toArray 28)
theorem pbox2_below (w : World) (a b : List Int) (va vb : Value) : Below w.heap.size w (pbox2 w a b va vb) := ((Below.refl _ _).alloc (Nat.le_refl _) _).alloc (by simp) _
theorem pbox2_rows (w : World) (a b : List Int) (va vb : Value) : (pbox2 w a b va vb).heap[w.heap.size]? = some (.cells (playCells a va).toArray 28 (0, 0)) ∧ (pbox2 w a b va vb).heap[w.heap.size + 1]? = some (.cells (playCells b vb).toArray 28 (0, 0)) := by
  have h2 : (pbox2 w a b va vb).heap[w.heap.size + 1]? = some (.cells (playCells b vb).toArray 28 (0, 0)) := by
    have q := heap_alloc_new (w.alloc (.cells (playCells a va).toArray 28)) (.cells (playCells b vb).toArray 28)
    rw [World.size_alloc] at q
    exact q
  exact ⟨(heap_alloc_old _ _ (by simp)).trans (heap_alloc_new w _), h2⟩
theorem play_ext (a b : Sp.Play) : a = b ↔ a.nums = b.nums ∧ a.ops = b.ops := by
  constructor
  · rintro rfl; simp
  · intro h; cases a; cases b; simp only [Sp.Play.mk.injEq] at *; exact h
end Go.Proofs.YthnhfddlmkhgkaaGreatDoor

set_option linter.unusedVariables false
namespace Go.Proofs.YthnhfddlmkhgkaaGreatDoor
open Go.RowKit Go.Proofs.YthnhfddlmkhgkaaGreatDoorW.PrintWords

set_option maxHeartbeats 8000000 in
set_option maxRecDepth 100000 in
theorem same_any (a b : Sp.Play) (va vb : Value) (w : World) (ha : PlayV w a va) (hb : PlayV w b vb) :
    Calls Tryz.prog 16 #[.agg (playCells a.nums va).toArray, .agg (playCells b.nums vb).toArray] w (BRet w (.bool (decide (a = b)))) := by
  obtain ⟨na, A, ka, rfl, hra, hla, hoa⟩ := ha
  obtain ⟨nb, B, kb, rfl, hrb, hlb, hob⟩ := hb
  obtain ⟨a0, a1, a2, a3, a4, a5, a6, a7, a8, a9, a10, ea⟩ := list11 na
  obtain ⟨b0, b1, b2, b3, b4, b5, b6, b7, b8, b9, b10, eb⟩ := list11 nb
  obtain ⟨r, hr⟩ : ∃ r, r = decide (a = b) := ⟨_, rfl⟩
  rw [← hr]
  have HR := Lib.hid (And.intro hr (And.intro ea eb))
  rw [ea, eb]
  obtain ⟨bs, hbs⟩ : ∃ x, x = decide ([a0, a1, a2, a3, a4, a5, a6, a7] = [b0, b1, b2, b3, b4, b5, b6, b7]) := ⟨_, rfl⟩
  have HC : Hid (∀ w1, Calls Tryz.prog 43 #[.agg #[.int .i64 a0, .int .i64 a1, .int .i64 a2, .int .i64 a3, .int .i64 a4, .int .i64 a5, .int .i64 a6, .int .i64 a7], .agg #[.int .i64 b0, .int .i64 b1, .int .i64 b2, .int .i64 b3, .int .i64 b4, .int .i64 b5, .int .i64 b6, .int .i64 b7]] w1 (BRet w1 (.bool bs))) := Lib.hid (fun w1 => by
    rw [hbs]; exact sameShape_any [a0, a1, a2, a3, a4, a5, a6, a7] [b0, b1, b2, b3, b4, b5, b6, b7] w1 rfl rfl)
  have HRD := Lib.hid (And.intro hra (And.intro hrb (And.intro hoa hob)))
  have HBS := Lib.hid hbs
  clear hr ea eb hbs hra hrb na nb hoa hob
  show Calls Tryz.prog 16 #[.agg #[.int .i64 a0, .int .i64 a1, .int .i64 a2, .int .i64 a3, .int .i64 a4, .int .i64 a5, .int .i64 a6, .int .i64 a7, .int .i64 a8, .int .i64 a9, .int .i64 a10, .slice A a.ops.length ka], .agg #[.int .i64 b0, .int .i64 b1, .int .i64 b2, .int .i64 b3, .int .i64 b4, .int .i64 b5, .int .i64 b6, .int .i64 b7, .int .i64 b8, .int .i64 b9, .int .i64 b10, .slice B b.ops.length kb]] w _
  have HB0 := Lib.hid (pbox2_below w [a0, a1, a2, a3, a4, a5, a6, a7, a8, a9, a10] [b0, b1, b2, b3, b4, b5, b6, b7, b8, b9, b10] (.slice A a.ops.length ka) (.slice B b.ops.length kb))
  have HRW := Lib.hid (pbox2_rows w [a0, a1, a2, a3, a4, a5, a6, a7, a8, a9, a10] [b0, b1, b2, b3, b4, b5, b6, b7, b8, b9, b10] (.slice A a.ops.length ka) (.slice B b.ops.length kb))
  have HCL : Hid (∀ (w1 : World) (g : Nat) (c0 c1 c2 c3 c4 c5 c6 c7 c8 c9 c10 : Int) (v : Value), w1.heap[g]? = some (.cells (playCells [c0, c1, c2, c3, c4, c5, c6, c7, c8, c9, c10] v).toArray 28 (0, 0)) → w1.cell? ⟨g, 8, none⟩ = some (.int .i64 c8) ∧ w1.cell? ⟨g, 9, none⟩ = some (.int .i64 c9) ∧ w1.cell? ⟨g, 10, none⟩ = some (.int .i64 c10) ∧ w1.cell? ⟨g, 11, none⟩ = some v) := Lib.hid (by
    intro w1 g c0 c1 c2 c3 c4 c5 c6 c7 c8 c9 c10 v h
    refine ⟨?_, ?_, ?_, ?_⟩ <;> (rw [cell_of_row _ _ _ _ _ _ h]; rfl))
  go_enter Tryz.func16, Tryz.ntmps16
  go_wp2_with (go_at_call 43; refine (HC.out (pbox2 w [a0, a1, a2, a3, a4, a5, a6, a7, a8, a9, a10] [b0, b1, b2, b3, b4, b5, b6, b7, b8, b9, b10] (.slice A a.ops.length ka) (.slice B b.ops.length kb))).mono ?_; rintro e w1 ⟨rfl, hb1⟩; have R1 := Lib.hid (And.intro ((hb1.block _ (row_lt HRW.out.1)).trans HRW.out.1) ((hb1.block _ (row_lt HRW.out.2)).trans HRW.out.2)); obtain ⟨x8, x9, x10, x11⟩ := HCL.out _ _ _ _ _ _ _ _ _ _ _ _ _ _ R1.out.1; obtain ⟨y8, y9, y10, y11⟩ := HCL.out _ _ _ _ _ _ _ _ _ _ _ _ _ _ R1.out.2; have HB1 := Lib.hid (HB0.out.trans (hb1.mono HB0.out.size)); clear hb1)
  all_goals try (go_ret; refine ⟨ret_bool ?_, HB1.out⟩; rw [HR.out.1]; symm; rw [decide_eq_false_iff_not, play_ext, HR.out.2.1, HR.out.2.2]; have hbs := HBS.out; clear HR HBS HC HCL HRW HB0 R1 HB1 HRD x8 x9 x10 x11 y8 y9 y10 y11; subst hbs; rintro ⟨e1, e2⟩; simp_all; done)
  obtain rfl : a8 = b8 := by assumption
  obtain rfl : a9 = b9 := by assumption
  obtain rfl : a10 = b10 := by assumption
  have hbne : ((a.ops.length : Int) != (b.ops.length : Int)) = false := by assumption
  rw [hbne]
  go_loopw [7] (fun v7 wr => ∃ (i : Nat), v7 = .int .i64 (i : Int) ∧ i ≤ a.ops.length ∧ Hid (a.ops.take i = b.ops.take i) ∧ Below w1.heap.size w1 wr) (fun v7 _ => a.ops.length - (intOf v7).toNat)
  case atStart => exact ⟨0, rfl, Nat.zero_le _, Lib.hid (by simp), Below.refl _ _⟩
  case round =>
    obtain ⟨i, rfl, hi, HQ, HB⟩ := hrel
    have R2 := Lib.hid (And.intro ((HB.block _ (row_lt R1.out.1)).trans R1.out.1) ((HB.block _ (row_lt R1.out.2)).trans R1.out.2))
    obtain ⟨p8, p9, p10, p11⟩ := HCL.out _ _ _ _ _ _ _ _ _ _ _ _ _ _ R2.out.1
    obtain ⟨q8, q9, q10, q11⟩ := HCL.out _ _ _ _ _ _ _ _ _ _ _ _ _ _ R2.out.2
    clear x8 x9 x10 x11 y8 y9 y10 y11 p8 p9 p10 q8 q9 q10
    have hlen : a.ops.length = b.ops.length := by
      have : ((a.ops.length : Int) != (b.ops.length : Int)) = false := by assumption
      rw [bne_eq_false_iff_eq] at this; omega
    have HLEN := Lib.hid hlen
    clear hlen
    by_cases hlt : i < a.ops.length
    · have hlt2 : i < b.ops.length := by rw [← HLEN.out]; exact hlt
      have HBW := Lib.hid (HB1.out.trans (HB.mono HB1.out.size))
      obtain ⟨ad1, u1, u2, u3, hA1, hO1, hC1⟩ := (HRD.out.1.below HBW.out).at_ i hlt
      obtain ⟨ad2, v1, v2, v3, hA2, hO2, hC2⟩ := (HRD.out.2.1.below HBW.out).at_ i hlt2
      have hC1' : ∀ j v, (opCells (a.ops[i]'hlt) u1 u2 u3)[j]? = some v → wr.drew.cell? ((ad1.add (i * 16)).add j) = some v := hC1
      have hC2' : ∀ j v, (opCells (b.ops[i]'hlt2) v1 v2 v3)[j]? = some v → wr.drew.cell? ((ad2.add (i * 16)).add j) = some v := hC2
      have HCC := Lib.hid (And.intro hC1' (And.intro hC2' (And.intro hO1 hO2)))
      clear hC1 hC2 hC1' hC2' hO1 hO2
      subst hA1
      subst hA2
      have q1 : (0 : Int) ≤ (i : Int) ∧ (i : Int) < (a.ops.length : Int) := ⟨by omega, by omega⟩
      have q2 : (0 : Int) ≤ (i : Int) ∧ (i : Int) < (b.ops.length : Int) := ⟨by omega, by omega⟩
      have p11' : wr.drew.cell? ⟨w.heap.size, 11, none⟩ = some (.slice (some ad1) a.ops.length ka) := p11
      have q11' : wr.drew.cell? ⟨w.heap.size + 1, 11, none⟩ = some (.slice (some ad2) b.ops.length kb) := q11
      go_wp2
      refine region_mix [] [0, 1, 2, 3, 4, 5, 6, 7, 8, 9] [10, 11] mixed (by kernel_rfl) (fun _ _ _ _ _ h => h) ?_
      simp only [pick, List.getElem?_cons_zero, List.getElem?_cons_succ]
      refine wpPre_nil ?_
      still_step
      still_step
      still_step
      still_step
      refine still_load_any rfl 80 _ rfl (ad1.add (i * 16)) rfl _ _ HCC.out.1 Tryz.underlying80 rfl (by kernel_rfl) ?_
      still_step
      still_step
      still_step
      still_step
      refine still_load_any rfl 80 _ rfl (ad2.add (i * 16)) rfl _ _ HCC.out.2.1 Tryz.underlying80 rfl (by kernel_rfl) ?_
      refine wpStill_nil ?_
      obtain ⟨bo, hbo⟩ : ∃ x, x = decide (a.ops[i]'hlt = b.ops[i]'hlt2) := ⟨_, rfl⟩
      have ho := HRD.out.2.2.1 (a.ops[i]'hlt) (List.getElem_mem _)
      have HC44 : Hid (Calls Tryz.prog 44 #[.agg (opCells (a.ops[i]'hlt) u1 u2 u3).toArray, .agg (opCells (b.ops[i]'hlt2) v1 v2 v3).toArray] wr.drew (BRet wr.drew (.bool bo))) := Lib.hid (by
        rw [hbo]
        have hd : Below wr.heap.size wr wr.drew := (Below.refl _ _).drew
        have h1 := HCC.out.2.2.1
        have h2 := HCC.out.2.2.2
        obtain ⟨⟨B1, j1, f1, g1⟩, ⟨B2, j2, f2, g2⟩, B3, j3, f3, g3⟩ := h1
        obtain ⟨⟨D1, k1, m1, n1⟩, ⟨D2, k2, m2, n2⟩, D3, k3, m3, n3⟩ := h2
        exact sameOp_any _ _ _ _ _ _ _ _ _ ⟨⟨B1, j1, f1, g1.below hd⟩, ⟨B2, j2, f2, g2.below hd⟩, B3, j3, f3, g3.below hd⟩ ⟨⟨D1, k1, m1, n1.below hd⟩, ⟨D2, k2, m2, n2.below hd⟩, D3, k3, m3, n3.below hd⟩ ho.1 ho.2.1 ho.2.2)
      have HBO := Lib.hid hbo
      have HE := Lib.hid (And.intro hlt hlt2)
      clear hbo ho q1 q2
      cases bo with
      | true =>
        go_wp2_with (go_at_call 44; refine HC44.out.mono ?_; rintro e w2 ⟨rfl, hb2⟩)
        go_roundw
        case rel => exact ⟨i + 1, by go_num, by omega, Lib.hid (take_eq_step HQ.out hlt hlt2 (of_decide_eq_true HBO.out.symm)), (HB.drew).trans (hb2.mono HB.drew.size)⟩
        case measure => simp [intOf]; omega
      | false =>
        go_wp2_with (go_at_call 44; refine HC44.out.mono ?_; rintro e w2 ⟨rfl, hb2⟩)
        go_ret
        refine ⟨ret_bool ?_, HB1.out.trans ((HB.drew.trans (hb2.mono HB.drew.size)).mono HB1.out.size)⟩
        rw [HR.out.1]; symm
        rw [decide_eq_false_iff_not, play_ext]
        exact fun e => ne_of_at hlt hlt2 (of_decide_eq_false HBO.out.symm) e.2
    · go_wp2
      go_ret
      refine ⟨ret_bool ?_, HB1.out.trans (HB.mono HB1.out.size)⟩
      have h := HQ.out
      rw [List.take_of_length_le (by omega), List.take_of_length_le (by have := HLEN.out; omega)] at h
      rw [HR.out.1]; symm
      rw [decide_eq_true_iff, play_ext, HR.out.2.1, HR.out.2.2]
      have hbs := HBS.out
      refine ⟨?_, h⟩
      subst hbs
      simp_all
end Go.Proofs.YthnhfddlmkhgkaaGreatDoor

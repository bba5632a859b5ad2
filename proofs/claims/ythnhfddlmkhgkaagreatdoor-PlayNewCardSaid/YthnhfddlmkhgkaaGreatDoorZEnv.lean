/- Words of the walks: rows of bytes, posts, append. -/
import Derived.Test.YthnhfddlmkhgkaaGreatDoorProg
import Derived.Test.YthnhfddlmkhgkaaGreatDoorZSpecAll
import Derived.Test.YthnhfddlmkhgkaaGreatDoorWWords
import Derived.WalkKit
import Derived.WalkSpells
import Derived.WalkLawsBesides
import Derived.Lib.Hide
import Derived.IntWalk
import Derived.Deep.QuietTactic
import Derived.BigQuiet
import Derived.KernelRfl
import Derived.StillTailTactics
import Derived.StillTactics
import Derived.Deep.DeepCutAuto
import Derived.Deep.LoopGhost
import Derived.Deep.RegionLaw
import Derived.Test.YthnhfddlmkhgkaaGreatDoorZReg
set_option linter.unusedVariables false
namespace Go.Proofs.YthnhfddlmkhgkaaGreatDoor
open Go.RowKit Go.Proofs.YthnhfddlmkhgkaaGreatDoorW.PrintWords

theorem info4 : (Tryz.prog.info? 4).map (fun i => (i.zero, i.size, i.bytes)) = some (some (.bool false), 1, 1) := by kernel_rfl
theorem info5 : (Tryz.prog.info? 5).map (fun i => (i.zero, i.size, i.bytes)) = some (some (.int .u8 0), 1, 1) := by kernel_rfl
theorem info9 : (Tryz.prog.info? 9).map (fun i => (i.zero, i.size, i.bytes)) = some (some (.string ⟨#[]⟩), 1, 16) := by kernel_rfl

/-- bytes as the numbers of their cells -/
def us (l : List UInt8) : List Int := l.map fun b => (b.toNat : Int)
theorem us_nil : us [] = [] := rfl
theorem us_app (a b : List UInt8) : us (a ++ b) = us a ++ us b := by simp [us]
theorem us_one (b : UInt8) : us [b] = [(b.toNat : Int)] := rfl
theorem us_len (l : List UInt8) : (us l).length = l.length := by simp [us]
/-- the string of some bytes -/
def str (l : List UInt8) : ByteArray := ⟨l.toArray⟩
theorem str_us (l : List UInt8) : strOfNums (us l) = str l := by
  have h : (us l).map (fun n => UInt8.ofNat n.toNat) = l := by
    rw [us, List.map_map]
    exact (List.map_congr_left (g := id) (fun b _ => by show UInt8.ofNat ((b.toNat : Int).toNat) = b; rw [Int.toNat_natCast]; exact UInt8.ofNat_toNat)).trans (List.map_id l)
  show (⟨((us l).map fun n => UInt8.ofNat n.toNat).toArray⟩ : ByteArray) = ⟨l.toArray⟩
  rw [h]
theorem str_size (l : List UInt8) : (str l).size = l.length := by show l.toArray.size = _; exact List.size_toArray
theorem str_bl (s : ByteArray) : str s.data.toList = s := by obtain ⟨⟨l⟩⟩ := s; rfl
theorem bl_str (l : List UInt8) : (str l).data.toList = l := rfl
/-- the bytes of a string -/
def bl (s : ByteArray) : List UInt8 := s.data.toList
theorem bl_len (s : ByteArray) : (bl s).length = s.size := by obtain ⟨⟨l⟩⟩ := s; exact List.size_toArray.symm

/-- the call returns v; what was there stays -/
def BRet (w : World) (v : Value) (e : Ending) (w' : World) : Prop := e = .returned v ∧ Below w.heap.size w w'
/-- the call returns v, and the world is as it was -/
def SRet (w : World) (v : Value) (e : Ending) (w' : World) : Prop := e = .returned v ∧ w = w'

theorem ret_int {k : IntKind} {a b : Int} (h : a = b) : Ending.returned (.int k a) = .returned (.int k b) := by rw [h]
theorem ret_bool {a b : Bool} (h : a = b) : Ending.returned (.bool a) = .returned (.bool b) := by rw [h]

/-- a byte's number, as the walk tests it -/
theorem u8_eqb {c : UInt8} (k : UInt8) {C K : Int} (hC : C = (c.toNat : Int)) (hK : (k.toNat : Int) = K) : (C == K) = decide (c = k) := by
  subst hC hK
  by_cases h : c = k
  · subst h; simp
  · rw [decide_eq_false h, beq_eq_false_iff_ne]
    intro e
    exact h (UInt8.toNat_inj.1 (by omega))
theorem u8_neb {c : UInt8} (k : UInt8) {C K : Int} (hC : C = (c.toNat : Int)) (hK : (k.toNat : Int) = K) : (C != K) = !decide (c = k) := by rw [bne, u8_eqb k hC hK]
theorem u8_ltb {c : UInt8} (k : UInt8) {C K : Int} (hC : C = (c.toNat : Int)) (hK : (k.toNat : Int) = K) : decide (C < K) = decide (c < k) := by
  subst hC hK; rw [decide_eq_decide, UInt8.lt_iff_toNat_lt]; omega
theorem u8_gtb {c : UInt8} (k : UInt8) {C K : Int} (hC : C = (c.toNat : Int)) (hK : (k.toNat : Int) = K) : decide (K < C) = decide (k < c) := by
  subst hC hK; rw [decide_eq_decide, UInt8.lt_iff_toNat_lt]; omega
theorem bl_drop (s : ByteArray) (i : Nat) (h : i < s.size) : (bl s).drop i = (s[i]'h) :: (bl s).drop (i + 1) := by
  rw [List.drop_eq_getElem_cons (by rw [bl_len]; exact h)]
  rfl

/-- a row of bytes of the call's own -/
abbrev RowU (w : World) (base : Nat) (v : Value) (l : List UInt8) : Prop := (Kd.int .u8).R 5 w base (fun _ => True) v (us l)
/-- a row of bools of the call's own -/
abbrev RowB (w : World) (base : Nat) (v : Value) (l : List Bool) : Prop := Kd.bool.R 4 w base (fun _ => True) v l
theorem RowU.nil (w : World) (base : Nat) : RowU w base (.slice none 0 0) [] := Kd.R_nil _ _ _ _ _

theorem ofInt_i64 (a : Nat) (ha : a < 9223372036854775808) : (BitVec.ofInt 64 (a : Int)).toNat = a := by
  rw [BitVec.ofInt_natCast, BitVec.toNat_ofNat]; exact Nat.mod_eq_of_lt (by omega)
theorem i64_and_nat (a b : Nat) (ha : a < 9223372036854775808) (hb : b < 9223372036854775808) : bits .and .i64 (a : Int) (b : Int) = ((a &&& b : Nat) : Int) := by
  have hx : a &&& b < 2 ^ 63 := Nat.and_lt_two_pow _ (by omega)
  show IntKind.i64.wrap ((BitVec.ofInt 64 (a : Int) &&& BitVec.ofInt 64 (b : Int)).toNat : Int) = _
  rw [BitVec.toNat_and, ofInt_i64 a ha, ofInt_i64 b hb, IntKind.wrap_i64]
  omega
theorem i64_or_nat (a b : Nat) (ha : a < 9223372036854775808) (hb : b < 9223372036854775808) : bits .or .i64 (a : Int) (b : Int) = ((a ||| b : Nat) : Int) := by
  have hx : a ||| b < 2 ^ 63 := Nat.or_lt_two_pow (by omega) (by omega)
  show IntKind.i64.wrap ((BitVec.ofInt 64 (a : Int) ||| BitVec.ofInt 64 (b : Int)).toNat : Int) = _
  rw [BitVec.toNat_or, ofInt_i64 a ha, ofInt_i64 b hb, IntKind.wrap_i64]
  omega
theorem or16 : ∀ a, a < 16 → ∀ b, b < 16 → (a * 16 ||| b) = a * 16 + b := by decide
theorem duo_bits {h l : UInt8} {A B : Int} (hA : Sp.digit h = A) (hB : Sp.digit l = B) (a0 : 0 ≤ A) (b0 : 0 ≤ B) : bits .or .i64 (A * 16) B % 256 = ((Sp.duo h l).toNat : Int) := by
  have h1 := Sp.digit_rng h
  have h2 := Sp.digit_rng l
  rw [hA] at h1
  rw [hB] at h2
  obtain ⟨a, rfl⟩ := Int.eq_ofNat_of_zero_le a0
  obtain ⟨b, rfl⟩ := Int.eq_ofNat_of_zero_le b0
  rw [show ((a : Int) * 16) = ((a * 16 : Nat) : Int) by omega, i64_or_nat _ _ (by omega) (by omega), or16 a (by omega) b (by omega), Sp.duo, hA, hB, UInt8.toNat_ofNat']
  omega

theorem SRet.still {f : FuncId} {args : Array Value} {w : World} {v : Value} (h : Calls Tryz.prog f args w (SRet w v)) : Calls Tryz.prog f args w fun e w' => e = .returned v ∧ w' = w :=
  h.mono fun _ _ ⟨h1, h2⟩ => ⟨h1, h2.symm⟩
theorem mixed : Tryz.prog.follows .mixedOrders = true := by kernel_rfl
theorem RowU.drew {w : World} {base : Nat} {v : Value} {l : List UInt8} (h : RowU w base v l) : RowU w.drew base v l := Kd.R_step h (fun _ _ _ => rfl)

section
variable {ops : Array Oper} {rest : List Oper} {o : Oper} {a : Act} {Q : Exit → Act → World → Prop}
/-- append(v, c) of one byte -/
theorem ap_u8 {W : World} {base : Nat} {w0 : World} {s x : Operand} {v : Value} {l : List UInt8} {c : UInt8} {n : Int}
    (hgd : o.guard = none)
    (ho : o.op = .call { callee := .builtin .append, args := #[s, x], argTypes := #[45, 45] })
    (hs : a.eval s = v) (hx : a.eval x = .slice (some ⟨W.heap.size, 0, none⟩) 1 1) (hn : n = (c.toNat : Int))
    (HO : RowU W base v l) (HB : Below base w0 W) (hbase : base ≤ W.heap.size) (hl : l.length + 1 ≤ 140737488355328)
    (h : ∀ v1 w1, RowU w1 base v1 (l ++ [c]) → Below base w0 w1 → W.grownBy w1 v.ownBlock → (v1.ownBlock = v.ownBlock ∨ ∃ b, v1.ownBlock = some b ∧ W.heap.size ≤ b) → wpList Tryz.prog ops Q rest (a.put o.dst v1) w1) :
    wpList Tryz.prog ops Q (o :: rest) a (W.alloc (.cells #[.int .u8 n] 5)) := by
  subst hn
  refine Kd.R_append (Kd.int .u8) (w0 := w0) base hgd s x 45 5 (.int .u8 0) 1 ho Tryz.underlying45 info5 rfl (by decide) (by omega) v (us l) (c.toNat : Int) [.int .u8 (c.toNat : Int)] (fun _ => True) (fun _ => False) hs hx rfl (fun _ hk => hk.elim) (fun _ _ => trivial) HO HB hbase (by rw [us_len]; omega) ?_
  intro v1 w1 h1 h2 h3 h4
  exact h v1 w1 (by rw [RowU, us_app, us_one]; exact h1) h2 h3 h4
/-- the same, as a step of a region that draws -/
theorem ap_u8_step {K : Act → World → Prop} {E : Prop} {W : World} {base : Nat} {w0 : World} {s x : Operand} {v : Value} {l : List UInt8} {c : UInt8} {n : Int}
    (hgd : o.guard = none)
    (ho : o.op = .call { callee := .builtin .append, args := #[s, x], argTypes := #[45, 45] })
    (hs : a.eval s = v) (hx : a.eval x = .slice (some ⟨W.heap.size, 0, none⟩) 1 1) (hn : n = (c.toNat : Int))
    (HO : RowU W base v l) (HB : Below base w0 W) (hbase : base ≤ W.heap.size) (hl : l.length + 1 ≤ 140737488355328)
    (h : ∀ v1 w1, RowU w1 base v1 (l ++ [c]) → Below base w0 w1 → W.grownBy w1 v.ownBlock → (v1.ownBlock = v.ownBlock ∨ ∃ b, v1.ownBlock = some b ∧ W.heap.size ≤ b) → K (a.put o.dst v1) w1) :
    if Region.wanted o (yielded ops a.tmps) = true then Oper.wp Tryz.prog o a (W.alloc (.cells #[.int .u8 n] 5)) K Q else E := by
  subst hn
  have hw : Region.wanted o (yielded ops a.tmps) = true := by simp [Region.wanted, hgd]
  have H := Kd.R_append_step (P := Tryz.prog) (ops := ops) (o := o) (a := a) (Q := Q) (Kc := K) (Kd.int .u8) (w0 := w0) (W := W) base hw s x 45 5 (.int .u8 0) 1 ho Tryz.underlying45 info5 rfl (by decide) (by omega) v (us l) (c.toNat : Int) [.int .u8 (c.toNat : Int)] (fun _ => True) (fun _ => False) hs hx rfl (fun _ hk => hk.elim) (fun _ _ => trivial) HO HB hbase (by rw [us_len]; omega) (fun v1 w1 h1 h2 h3 h4 => h v1 w1 (by rw [RowU, us_app, us_one]; exact h1) h2 h3 h4)
  rw [if_pos hw] at H ⊢
  exact H
theorem news_reads {W : World} {cs : List UInt8} {cells : List Value} (hc : cells = (us cs).map (Value.int .u8)) (hl : cs.length ≤ 65536) :
    ReadsRow (fun (x : Int) c => c = [Value.int .u8 x]) 1 (W.alloc (.cells cells.toArray 5)) (some ⟨W.heap.size, 0, none⟩) cs.length (us cs) := by
  refine ⟨us_len cs, by omega, fun _ => ⟨_, rfl, fun j p hj => ⟨[.int .u8 p], rfl, rfl, fun i u hu => ?_⟩⟩⟩
  have hi : i = 0 := by
    cases i with
    | zero => rfl
    | succ i => simp at hu
  subst hi
  have hu' : Value.int .u8 p = u := by simpa using hu
  subst hu'
  rw [add_plain, Nat.mul_one, Nat.add_zero]
  have hh : (W.alloc (.cells cells.toArray 5)).heap[W.heap.size]? = some (.cells cells.toArray 5 (0, 0)) := heap_alloc_new W _
  simp only [World.cell?, hh]
  simp [hc, hj]
/-- append(v, cs...) of some bytes that were laid in a new block -/
theorem ap_us {W : World} {base : Nat} {w0 : World} {s x : Operand} {v : Value} {l cs : List UInt8} {cells : List Value} {m : Nat}
    (hgd : o.guard = none)
    (ho : o.op = .call { callee := .builtin .append, args := #[s, x], argTypes := #[45, 45] })
    (hs : a.eval s = v) (hx : a.eval x = .slice (some ⟨W.heap.size, 0, none⟩) m m) (hm : cs.length = m) (hcells : cells = (us cs).map (Value.int .u8))
    (HO : RowU W base v l) (HB : Below base w0 W) (hbase : base ≤ W.heap.size) (hm2 : m ≤ 65536) (hl : l.length + m ≤ 140737488355328)
    (h : ∀ v1 w1, RowU w1 base v1 (l ++ cs) → Below base w0 w1 → W.grownBy w1 v.ownBlock → (v1.ownBlock = v.ownBlock ∨ ∃ b, v1.ownBlock = some b ∧ W.heap.size ≤ b) → wpList Tryz.prog ops Q rest (a.put o.dst v1) w1) :
    wpList Tryz.prog ops Q (o :: rest) a (W.alloc (.cells cells.toArray 5)) := by
  subst hm
  refine Kd.R_append_rows (Kd.int .u8) (Rr := fun (x : Int) c => c = [Value.int .u8 x]) (w0 := w0) base hgd s x 45 5 (.int .u8 0) 1 ho Tryz.underlying45 info5 rfl (by decide) (by omega) v (us l) (us cs) _ _ _ (fun _ => True) (fun _ => False) hs hx
    (Kd.R_step HO (fun k _ hk => Below.heap_alloc _ _ _ hk)) (news_reads hcells hm2) (fun _ _ hh => hh) (fun _ hk => hk.elim) (fun _ _ => trivial) (HB.alloc hbase _) (by simp; omega) (by rw [us_len]; omega) ?_
  intro v1 w1 h1 h2 h3 h4
  refine h v1 w1 (by rw [RowU, us_app]; exact h1) h2 (World.grownBy.trans (World.grownBy_alloc W _ _) h3) ?_
  rcases h4 with h4 | ⟨b, h4, h5⟩
  · exact .inl h4
  · exact .inr ⟨b, h4, by simp at h5; omega⟩
/-- append(v, b) of one bool -/
theorem ap_b {W : World} {base : Nat} {w0 : World} {s x : Operand} {v : Value} {l : List Bool} {c : Bool}
    (hgd : o.guard = none)
    (ho : o.op = .call { callee := .builtin .append, args := #[s, x], argTypes := #[78, 78] })
    (hs : a.eval s = v) (hx : a.eval x = .slice (some ⟨W.heap.size, 0, none⟩) 1 1)
    (HO : RowB W base v l) (HB : Below base w0 W) (hbase : base ≤ W.heap.size) (hl : l.length + 1 ≤ 140737488355328)
    (h : ∀ v1 w1, RowB w1 base v1 (l ++ [c]) → Below base w0 w1 → W.grownBy w1 v.ownBlock → (v1.ownBlock = v.ownBlock ∨ ∃ b, v1.ownBlock = some b ∧ W.heap.size ≤ b) → wpList Tryz.prog ops Q rest (a.put o.dst v1) w1) :
    wpList Tryz.prog ops Q (o :: rest) a (W.alloc (.cells #[.bool c] 4)) :=
  Kd.R_append Kd.bool (w0 := w0) base hgd s x 78 4 (.bool false) 1 ho Tryz.underlying78 info4 rfl (by decide) (by omega) v l c [.bool c] (fun _ => True) (fun _ => False) hs hx rfl (fun _ hk => hk.elim) (fun _ _ => trivial) HO HB hbase (by omega) h
end
end Go.Proofs.YthnhfddlmkhgkaaGreatDoor

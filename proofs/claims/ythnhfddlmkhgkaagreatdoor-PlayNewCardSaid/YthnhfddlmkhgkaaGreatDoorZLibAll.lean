/- The package-level variables that the walks lean on, and the library's contracts as the walks take them. -/
import Derived.Test.YthnhfddlmkhgkaaGreatDoorZLeafAll
import Derived.Test.YthnhfddlmkhgkaaGreatDoorZSpecAll
import Derived.Test.YthnhfddlmkhgkaaGreatDoorShelfP
import Derived.Shelf.Strings.SlTrimAscii
set_option linter.unusedVariables false
namespace Go.Proofs.YthnhfddlmkhgkaaGreatDoor
open Go.RowKit Go.Proofs.YthnhfddlmkhgkaaGreatDoorW.PrintWords

theorem gMax : Tryz.prog.globalNamed "internal/bytealg.MaxLen" = some 6 := by kernel_rfl
theorem gPow : Tryz.prog.globalNamed "internal/strconv.uint64pow10" = some 7 := by kernel_rfl
theorem gSyn : Tryz.prog.globalNamed "strconv.ErrSyntax" = some 10 := by kernel_rfl
theorem gRng : Tryz.prog.globalNamed "strconv.ErrRange" = some 11 := by kernel_rfl
theorem gSteps : Tryz.prog.globalNamed "annex/play.steps" = some 0 := by kernel_rfl
theorem gCalls : Tryz.prog.globalNamed "annex/play.calls" = some 3 := by kernel_rfl

def rowCells (l : List (Sp.Bs × Sp.Bs)) : Array Value := (l.flatMap fun r => [Value.string (str r.1), Value.string (str r.2)]).toArray

/-- what the package-level variables hold -/
structure Env (w : World) : Prop where
  maxlen : ∃ m, w.cell? ⟨6, 0, none⟩ = some (.int .i64 m)
  pow : Lib.TabIs Tryz.prog w "internal/strconv.uint64pow10" .u64 Lib.pow10Tab
  syn : ∃ tp p, w.var? Tryz.prog "strconv.ErrSyntax" = some #[.iface tp p]
  rng : ∃ tp p, w.var? Tryz.prog "strconv.ErrRange" = some #[.iface tp p]
  steps : w.var? Tryz.prog "annex/play.steps" = some (rowCells Sp.stepRows)
  calls : w.var? Tryz.prog "annex/play.calls" = some (rowCells Sp.callRows)
theorem var_lt {w : World} {n : String} {g : Nat} {cs : Array Value} (hg : Tryz.prog.globalNamed n = some g) (hv : w.var? Tryz.prog n = some cs) : g < w.heap.size := by
  unfold World.var? at hv
  rw [hg, Option.bind_some] at hv
  rcases Nat.lt_or_ge g w.heap.size with h | h
  · exact h
  · rw [Array.getElem?_eq_none h] at hv; cases hv
theorem var_below {w w' : World} {n : String} {g : Nat} {cs : Array Value} (hg : Tryz.prog.globalNamed n = some g) (hb : Below w.heap.size w w') (hv : w.var? Tryz.prog n = some cs) : w'.var? Tryz.prog n = some cs := by
  have hlt := var_lt hg hv
  unfold World.var? at hv ⊢
  rw [hg, Option.bind_some] at hv ⊢
  rw [hb.block g hlt]
  exact hv
theorem Env.below {w w' : World} (h : Env w) (hb : Below w.heap.size w w') : Env w' where
  maxlen := by obtain ⟨m, hm⟩ := h.maxlen; exact ⟨m, pw_cell_below hb hm⟩
  pow := var_below gPow hb h.pow
  syn := by obtain ⟨a, b, hv⟩ := h.syn; exact ⟨a, b, var_below gSyn hb hv⟩
  rng := by obtain ⟨a, b, hv⟩ := h.rng; exact ⟨a, b, var_below gRng hb hv⟩
  steps := var_below gSteps hb h.steps
  calls := var_below gCalls hb h.calls
theorem Env.drew {w : World} (h : Env w) : Env w.drew := h.below ((Below.refl _ _).drew)

/-! ### the library -/
theorem below_grow {w : World} (k : Nat) (os : Array Obj) : Below w.heap.size w (Go.Sort.grow (w.drewN k) os) :=
  ⟨rfl, rfl, rfl, by simp [Go.Sort.grow], fun i hi => by
    show (w.heap ++ os)[i]? = _
    rw [Array.getElem?_append_left hi]⟩
theorem itoa_any (n : Int) (w : World) (he : Env w) (h0 : -9223372036854775808 ≤ n) (h1 : n ≤ 9223372036854775807) :
    Calls Tryz.prog 50 #[.int .i64 n] w (BRet w (.string (str (Lib.itoa n)))) :=
  (Tryz.strconv_Itoa n h0 h1 w he.pow).mono fun e w' ⟨h, k, os, hw⟩ => ⟨h, by rw [hw]; exact below_grow k os⟩
theorem trim_any (s : ByteArray) (w : World) :
    Calls Tryz.prog 73 #[.string s, .string ⟨#[32, 9]⟩] w (BRet w (.string (str (Sp.trim (bl s))))) := by
  refine (Any.strings_TrimLeft_laid Tryz.lays161 (by kernel_rfl) s ⟨#[32, 9]⟩ w (by decide) (ascii_of_all (by decide))).mono fun e w' ⟨h, hb⟩ => ⟨?_, hb⟩
  rw [h, ← Sp.trimLeftS_eq]; rfl
theorem cut_any (s sep : ByteArray) (w : World) (he : Env w) (hs : s.size < 4294967281) :
    Calls Tryz.prog 36 #[.string s, .string sep] w (BRet w (.tuple #[.string (str (Lib.cut (bl s) (bl sep)).1), .string (str (Lib.cut (bl s) (bl sep)).2.1), .bool (Lib.cut (bl s) (bl sep)).2.2])) := by
  obtain ⟨m, hm⟩ := he.maxlen
  exact (Tryz.strings_Cut s sep m w hs hm).mono fun e w' ⟨h, n, hw⟩ => ⟨h, by rw [hw]; exact pw_below_drewN (Below.refl _ _) n⟩
theorem contains_any (s sub : ByteArray) (w : World) (he : Env w) (hs : s.size < 4294967281) :
    Calls Tryz.prog 56 #[.string s, .string sub] w (SRet w (.bool (Lib.contains (bl s) (bl sub)))) := by
  obtain ⟨m, hm⟩ := he.maxlen
  exact (Tryz.strings_Contains s sub m w hs hm).mono fun e w' ⟨h, hw⟩ => ⟨h, hw.symm⟩

/-- what Atoi answers -/
def AtoiPost (w : World) (l : Sp.Bs) (e : Ending) (w' : World) : Prop :=
  (∃ v, Lib.atoiAll l = .ok v ∧ e = .returned (.tuple #[.int .i64 v, .nilIface]) ∧ Below w.heap.size w w') ∨
  (Sp.number l = none ∧ ∃ x a, e = .returned (.tuple #[.int .i64 x, .iface 235 (.pointer (some a))]) ∧ Below w.heap.size w w')
theorem atoi_any (s : ByteArray) (w : World) (he : Env w) (hs : s.size ≤ 1099511627776) : Calls Tryz.prog 136 #[.string s] w (AtoiPost w (bl s)) := by
  cases h : Lib.atoiAll s.data.toList with
  | ok v =>
    refine (Tryz.strconv_Atoi_ok s (by omega) v h w).mono fun e w' ⟨h1, h2⟩ => .inl ⟨v, h, h1, ?_⟩
    rcases h2 with rfl | ⟨t, rfl⟩
    · exact Below.refl _ _
    · exact Lib.bytesWorld_below w 5 t
  | range =>
    obtain ⟨tp, p, hv⟩ := he.rng
    refine (Tryz.strconv_Atoi_range_var s (by omega) h tp p w hv).mono fun e w' ⟨N, h1, _, _, h2⟩ => .inr ⟨?_, _, _, h1, h2⟩
    simp [Sp.number, bl, h]
  | _ =>
    obtain ⟨tp, p, hv⟩ := he.syn
    refine (Any.strconv_Atoi_syntax_var Tryz.laysC172 s (by omega) h tp p w hv).mono fun e w' ⟨N, h1, _, _, h2⟩ => .inr ⟨?_, _, _, h1, h2⟩
    simp [Sp.number, bl, h]
end Go.Proofs.YthnhfddlmkhgkaaGreatDoor

set_option linter.unusedVariables false
namespace Go.Proofs.YthnhfddlmkhgkaaGreatDoor
open Go.RowKit Go.Proofs.YthnhfddlmkhgkaaGreatDoorW.PrintWords

theorem str_eqb (a b : Sp.Bs) : ((str a).toList == (str b).toList) = decide (a = b) := by
  rw [Lib.toList_data, Lib.toList_data]
  show (a == b) = _
  by_cases h : a = b
  · subst h; simp
  · rw [decide_eq_false h, beq_eq_false_iff_ne]; exact h
theorem str_of (s : ByteArray) : s = str (bl s) := (str_bl s).symm

/-- what `number` answers -/
def NumPost (w : World) (l : Sp.Bs) (e : Ending) (w' : World) : Prop :=
  ∃ (x : Int) (ok : Bool), e = .returned (.tuple #[.int .i64 x, .bool ok]) ∧ Sp.number l = (if ok then some x else none) ∧ Below w.heap.size w w'

set_option maxHeartbeats 2000000 in
set_option maxRecDepth 100000 in
theorem number_any (l : Sp.Bs) (w : World) (he : Env w) (hs : l.length ≤ 1099511627776) :
    Calls Tryz.prog 77 #[.string (str l)] w (NumPost w l) := by
  have HE := Lib.hid he
  have HS := Lib.hid hs
  clear he hs
  go_enter Tryz.func77, Tryz.ntmps77
  go_wp2_with (first | (go_at_call 136; refine (atoi_any _ _ HE.out (by rw [str_size]; exact HS.out)).mono ?_; intro e w1 HP; rcases HP with ⟨v, hv, rfl, HB⟩ | ⟨hv, v, a, rfl, HB⟩) | (go_at_call 50; refine (itoa_any _ _ (HE.out.below HB) (by omega) (by omega)).mono ?_; rintro e w2 ⟨rfl, HB2⟩))
  · go_ret2
    refine ⟨v, decide (Lib.itoa v = l), by rw [← str_eqb]; rfl, ?_, HB.trans (HB2.mono HB.size)⟩
    change Lib.atoiAll l = _ at hv
    simp only [Sp.number, hv]
    by_cases hw : Lib.itoa v = l
    · rw [if_pos ⟨by omega, by omega, hw⟩, if_pos (by simpa using hw)]
    · rw [if_neg (fun h => hw h.2.2), if_neg (by simpa using hw)]
  · go_ret2
    refine ⟨v, false, rfl, ?_, HB⟩
    change Lib.atoiAll l = _ at hv
    simp only [Sp.number, hv]
    rw [if_neg (by omega)]; rfl
  · go_ret2
    refine ⟨v, false, rfl, ?_, HB⟩
    change Lib.atoiAll l = _ at hv
    simp only [Sp.number, hv]
    rw [if_neg (by omega)]; rfl
  · go_ret2
    exact ⟨v, false, rfl, hv, HB⟩
end Go.Proofs.YthnhfddlmkhgkaaGreatDoor

set_option linter.unusedVariables false
namespace Go.Proofs.YthnhfddlmkhgkaaGreatDoor
open Go.RowKit Go.Proofs.YthnhfddlmkhgkaaGreatDoorW.PrintWords

/-- a row of strings of the call's own -/
abbrev RowS (w : World) (base : Nat) (v : Value) (l : List Sp.Bs) : Prop := Kd.string.R 9 w base (fun _ => True) v (l.map str)
theorem RowS.nil (w : World) (base : Nat) : RowS w base (.slice none 0 0) [] := Kd.R_nil _ _ _ _ _
section
variable {ops : Array Oper} {rest : List Oper} {o : Oper} {a : Act} {Q : Exit → Act → World → Prop}
/-- append(v, s) of one string -/
theorem ap_s {W : World} {base : Nat} {w0 : World} {s x : Operand} {v : Value} {l : List Sp.Bs} {c : Sp.Bs} {S : ByteArray}
    (hgd : o.guard = none)
    (ho : o.op = .call { callee := .builtin .append, args := #[s, x], argTypes := #[61, 61] })
    (hs : a.eval s = v) (hx : a.eval x = .slice (some ⟨W.heap.size, 0, none⟩) 1 1) (hS : S = str c)
    (HO : RowS W base v l) (HB : Below base w0 W) (hbase : base ≤ W.heap.size) (hl : l.length + 1 ≤ 140737488355328 / 16)
    (h : ∀ v1 w1, RowS w1 base v1 (l ++ [c]) → Below base w0 w1 → W.grownBy w1 v.ownBlock → (v1.ownBlock = v.ownBlock ∨ ∃ b, v1.ownBlock = some b ∧ W.heap.size ≤ b) → wpList Tryz.prog ops Q rest (a.put o.dst v1) w1) :
    wpList Tryz.prog ops Q (o :: rest) a (W.alloc (.cells #[.string S] 9)) := by
  subst hS
  refine Kd.R_append Kd.string (w0 := w0) base hgd s x 61 9 (.string ⟨#[]⟩) 16 ho Tryz.underlying61 info9 rfl (by decide) (by omega) v (l.map str) (str c) [.string (str c)] (fun _ => True) (fun _ => False) hs hx rfl (fun _ hk => hk.elim) (fun _ _ => trivial) HO HB hbase (by rw [List.length_map]; omega) ?_
  intro v1 w1 h1 h2 h3 h4
  exact h v1 w1 (by rw [RowS, List.map_append]; exact h1) h2 h3 h4
end
theorem trim_q (l q : Sp.Bs) (h : Sp.trim l = q) (w : World) :
    Calls Tryz.prog 73 #[.string (str l), .string ⟨#[32, 9]⟩] w (BRet w (.string (str q))) := by
  subst h; exact trim_any (str l) w

theorem cut_to {L : Sp.Bs} {N m : Nat} {t : Sp.Bs} (hd : L.drop N = t) (hm : N + t.length ≤ m) : (str L).extract N m = str t := by
  rw [Lib.extract_eq, bl_str, hd, List.take_of_length_le (by omega)]; rfl
theorem at_drop {L : Sp.Bs} {N : Nat} {d : UInt8} {t : Sp.Bs} (hd : L.drop N = d :: t) (h : N < (str L).size) : ((str L)[N]'h) = d := by
  have h3 := bl_drop (str L) N h
  rw [show bl (str L) = L from rfl, hd] at h3
  injection h3 with h3 _
  exact h3.symm
/-- what `split` answers -/
def SplitPost (w : World) (r : Option (List Sp.Bs)) (e : Ending) (w' : World) : Prop :=
  (∃ v ws, r = some ws ∧ e = .returned (.tuple #[v, .bool true]) ∧ RowS w' w.heap.size v ws ∧ Below w.heap.size w w') ∨
  (r = none ∧ e = .returned (.tuple #[.slice none 0 0, .bool false]) ∧ Below w.heap.size w w')

set_option maxHeartbeats 2000000 in
set_option maxRecDepth 100000 in
theorem split_any (s : Sp.Bs) (w : World) (hs : s.length ≤ 1099511627776) :
    Calls Tryz.prog 37 #[.string (str s)] w (SplitPost w (Sp.split s)) := by
  go_enter Tryz.func37, Tryz.ntmps37
  go_wp2
  go_loopw [0, 4] (fun v0 v4 wr => ∃ (q : Sp.Bs) (o : List Sp.Bs), v0 = .string (str q) ∧ o.length + q.length ≤ s.length ∧ RowS wr w.heap.size v4 o ∧ Hid (Sp.split s = (Sp.split q).map (o ++ ·)) ∧ Below w.heap.size w wr) (fun v0 _ _ => match v0 with | .string b => b.size | _ => 0)
  case atStart => exact ⟨s, [], rfl, by simp, RowS.nil _ _, Lib.hid (by simp), Below.refl _ _⟩
  case round =>
    obtain ⟨q, o, rfl, hl, HO, HQ, HBr⟩ := hrel
    have htl := Sp.trim_len q
    cases ht : Sp.trim q with
    | nil =>
      have hss := Sp.split_nil ht
      have HF := Lib.hid (And.intro ht hss)
      clear ht hss htl
      have hne : (str []).toList.isEmpty = true := by rw [Lib.toList_data]; rfl
      go_wp2_with (go_at_call 73; refine (trim_q _ _ HF.out.1 _).mono ?_; rintro e w1 ⟨rfl, HB1⟩)
      go_ret2
      refine .inl ⟨_, o, by rw [HQ.out, HF.out.2]; simp, rfl, Kd.R_below HO HB1, HBr.trans (HB1.mono HBr.size)⟩
    | cons c r =>
      have hss := Sp.split_cons ht
      have HF := Lib.hid (And.intro ht hss)
      rw [ht] at htl
      clear ht hss
      simp only [List.length_cons] at htl
      obtain ⟨b, hb⟩ : ∃ b, b = str (c :: r) := ⟨_, rfl⟩
      have hsz : b.size = r.length + 1 := by rw [hb, str_size]; rfl
      have hne := empty_f (s := b) (by omega)
      obtain ⟨C, hC⟩ : ∃ C : Int, C = (c.toNat : Int) := ⟨_, rfl⟩
      have hx : ∀ h : 0 < b.size, ((b[0]'h).toNat : Int) = C := fun h => by subst hb; rw [hC]; rfl
      have hC0 : 0 ≤ C := by omega
      have hC1 : C ≤ 255 := by have := c.toNat_lt; omega
      have T35 : (C == 35) = decide (c = 35) := u8_eqb 35 hC rfl
      have T34 : (C == 34) = decide (c = 34) := u8_eqb 34 hC rfl
      have HT : Hid (∀ w, Calls Tryz.prog 73 #[.string (str q), .string ⟨#[32, 9]⟩] w (BRet w (.string b))) := Lib.hid (by rw [hb]; exact fun w => trim_q q (c :: r) HF.out.1 w)
      have HX := Lib.hid (And.intro hb hC)
      clear hb hC
      by_cases e1 : c = 35
      · simp only [e1, decide_true] at T35
        have HE := Lib.hid e1
        clear e1
        go_wp2_with (go_at_call 73; refine (HT.out _).mono ?_; rintro e w1 ⟨rfl, HB1⟩)
        go_ret2
        refine .inl ⟨_, o, by rw [HQ.out, HF.out.2, if_pos HE.out]; simp, rfl, Kd.R_below HO HB1, HBr.trans (HB1.mono HBr.size)⟩
      · simp only [e1, decide_false] at T35
        have HE := Lib.hid e1
        clear e1
        obtain ⟨n, hn⟩ : ∃ n, n = Sp.run (bl b) := ⟨_, rfl⟩
        have hnl := Sp.run_le (bl b)
        rw [bl_len, ← hn] at hnl
        have HR : Hid (∀ w, Calls Tryz.prog 74 #[.string b] w (BRet w (.int .i64 (n : Int)))) := Lib.hid (by rw [hn]; exact fun w => run_any b w (by omega))
        have HN := Lib.hid hn
        clear hn
        have hcut1 : Hid (b.extract 1 (r.length + 1) = str r) := Lib.hid (by rw [Lib.extract_eq, HX.out.1, bl_str]; simp [str])
        by_cases e2 : c = 34
        · simp only [e2, decide_true] at T34
          cases hq : Sp.quoted r with
          | none =>
            have HQQ : Hid (∀ w, Calls Tryz.prog 75 #[.string (b.extract 1 (r.length + 1))] w (BRet w (.tuple #[.string ⟨#[]⟩, .int .i64 0, .bool false]))) := Lib.hid (fun w => by
              have h := quoted_any (b.extract 1 (r.length + 1)) w (by rw [hcut1.out, str_size]; omega)
              rw [hcut1.out] at h ⊢
              rw [show bl (str r) = r from rfl, hq] at h
              exact h)
            have HW : Hid (Sp.word c r = none) := Lib.hid (by rw [Sp.word, if_pos e2, hq])
            clear hq e2
            go_wp2_with (first | (go_at_call 73; refine (HT.out _).mono ?_; rintro e w1 ⟨rfl, HB1⟩) | (go_at_call 74; refine (HR.out _).mono ?_; rintro e w2 ⟨rfl, HB2⟩) | (go_at_call 75; refine (HQQ.out _).mono ?_; rintro e w2' ⟨rfl, HB2'⟩))
            go_ret2
            exact .inr ⟨by rw [HQ.out, HF.out.2, if_neg HE.out, HW.out]; rfl, rfl, ((HBr.trans (HB1.mono HBr.size)).trans (HB2.mono (Nat.le_trans HBr.size HB1.size))).trans (HB2'.mono (Nat.le_trans (Nat.le_trans HBr.size HB1.size) HB2.size))⟩
          | some p =>
            obtain ⟨wd, t⟩ := p
            have hql := Sp.quoted_len _ r (Nat.le_refl _) wd t hq
            obtain ⟨N, hNe⟩ : ∃ N, N = r.length + 1 - t.length := ⟨_, rfl⟩
            have hN : N + t.length = r.length + 1 := by omega
            have HQQ : Hid (∀ w, Calls Tryz.prog 75 #[.string (b.extract 1 (r.length + 1))] w (BRet w (.tuple #[.string (str wd), .int .i64 ((N : Int) - 1), .bool true]))) := Lib.hid (fun w => by
              have h := quoted_any (b.extract 1 (r.length + 1)) w (by rw [hcut1.out, str_size]; omega)
              rw [hcut1.out] at h ⊢
              rw [show bl (str r) = r from rfl, hq, str_size] at h
              rw [show (N : Int) - 1 = (r.length : Int) - t.length by omega]
              exact h)
            have HW : Hid (Sp.word c r = some (wd, t)) := Lib.hid (by rw [Sp.word, if_pos e2, hq])
            have hwr : IntKind.i64.wrap ((N : Int) - 1 + 1) = (N : Int) := by rw [IntKind.wrap_i64]; omega
            have HDR : Hid ((c :: r).drop N = t) := Lib.hid (by rw [hNe, show r.length + 1 - t.length = (r.length - t.length) + 1 by omega, List.drop_succ_cons]; exact Sp.quoted_drop _ r (Nat.le_refl _) wd t hq)
            obtain ⟨S, hS⟩ : ∃ S, S = str wd := ⟨_, rfl⟩
            rw [← hS] at HQQ
            have hwd : Hid (S = str wd) := Lib.hid hS
            clear hS
            have hNp : 0 < N := by omega
            have hql2 : wd.length ≤ r.length := by omega
            clear hq e2 hNe
            have hcut : Hid (b.extract N (r.length + 1) = str t) := Lib.hid (by rw [HX.out.1]; exact cut_to HDR.out (by omega))
            have hat : Hid (∀ d t', t = d :: t' → ∀ h : N < b.size, (b[N]'h) = d) := Lib.hid (fun d t' e => by rw [HX.out.1]; exact at_drop (HDR.out.trans e))
            have hN0 : ((N : Int) == 0) = false := beq_eq_false_iff_ne.2 (by omega)
            cases t with
            | nil =>
              have hN1 : r.length + 1 ≤ N := by simp at hN; omega
              have hN2 : N ≤ r.length + 1 := by omega
              clear hN
              go_wp2_with (first | (go_at_call 73; refine (HT.out _).mono ?_; rintro e w1 ⟨rfl, HB1⟩) | (go_at_call 74; refine (HR.out _).mono ?_; rintro e w2 ⟨rfl, HB2⟩) | (go_at_call 75; refine (HQQ.out _).mono ?_; rintro e w3 ⟨rfl, HB3q⟩; have HBA := Lib.hid ((HB1.trans (HB2.mono HB1.size)).trans (HB3q.mono (Nat.le_trans HB1.size HB2.size))); have HBB := Lib.hid (HBr.trans (HBA.out.mono HBr.size))) | (go_at_call 76; refine (blank_any d D HDD.out _).mono ?_; rintro e w4 ⟨rfl, rfl⟩; rw [HBL.out]) | (at_builtin; refine ap_s (W := w3) (base := w.heap.size) (w0 := w) (v := u4) (l := o) (c := wd) rfl rfl rfl rfl hwd.out (Kd.R_below HO HBA.out) HBB.out HBB.out.size (by omega) ?_; intro v1 w5 HO3 HB3 j1 j2; clear j1 j2))
              go_roundw
              case rel => exact ⟨[], o ++ [wd], by rw [hcut.out], by simp; omega, HO3, Lib.hid (by rw [HQ.out, HF.out.2, if_neg HE.out, HW.out]; simp [Sp.clean, Option.map_map, Function.comp_def]), HB3⟩
              case measure => simp [str_size]; omega
            | cons d t =>
              simp only [List.length_cons] at hN hql
              have hN1 : N < r.length + 1 := by omega
              obtain ⟨D, hD⟩ : ∃ D : Int, D = (d.toNat : Int) := ⟨_, rfl⟩
              have hy : ∀ h : N < b.size, ((b[N]'h).toNat : Int) = D := fun h => by rw [hD, hat.out d t rfl h]
              have hD0 : 0 ≤ D := by omega
              have hD1 : D ≤ 255 := by have := d.toNat_lt; omega
              have HDD := Lib.hid hD
              clear hD
              cases hb : Sp.isBlank d with
              | false =>
                have HBL := Lib.hid hb
                clear hb
                go_wp2_with (first | (go_at_call 73; refine (HT.out _).mono ?_; rintro e w1 ⟨rfl, HB1⟩) | (go_at_call 74; refine (HR.out _).mono ?_; rintro e w2 ⟨rfl, HB2⟩) | (go_at_call 75; refine (HQQ.out _).mono ?_; rintro e w3 ⟨rfl, HB3q⟩; have HBA := Lib.hid ((HB1.trans (HB2.mono HB1.size)).trans (HB3q.mono (Nat.le_trans HB1.size HB2.size))); have HBB := Lib.hid (HBr.trans (HBA.out.mono HBr.size))) | (go_at_call 76; refine (blank_any d D HDD.out _).mono ?_; rintro e w4 ⟨rfl, rfl⟩; rw [HBL.out]) | (at_builtin; refine ap_s (W := w3) (base := w.heap.size) (w0 := w) (v := u4) (l := o) (c := wd) rfl rfl rfl rfl hwd.out (Kd.R_below HO HBA.out) HBB.out HBB.out.size (by omega) ?_; intro v1 w5 HO3 HB3 j1 j2; clear j1 j2))
                go_ret2
                exact .inr ⟨by rw [HQ.out, HF.out.2, if_neg HE.out, HW.out]; simp [Sp.clean, HBL.out], rfl, HBB.out⟩
              | true =>
                have HBL := Lib.hid hb
                clear hb
                go_wp2_with (first | (go_at_call 73; refine (HT.out _).mono ?_; rintro e w1 ⟨rfl, HB1⟩) | (go_at_call 74; refine (HR.out _).mono ?_; rintro e w2 ⟨rfl, HB2⟩) | (go_at_call 75; refine (HQQ.out _).mono ?_; rintro e w3 ⟨rfl, HB3q⟩; have HBA := Lib.hid ((HB1.trans (HB2.mono HB1.size)).trans (HB3q.mono (Nat.le_trans HB1.size HB2.size))); have HBB := Lib.hid (HBr.trans (HBA.out.mono HBr.size))) | (go_at_call 76; refine (blank_any d D HDD.out _).mono ?_; rintro e w4 ⟨rfl, rfl⟩; rw [HBL.out]) | (at_builtin; refine ap_s (W := w3) (base := w.heap.size) (w0 := w) (v := u4) (l := o) (c := wd) rfl rfl rfl rfl hwd.out (Kd.R_below HO HBA.out) HBB.out HBB.out.size (by omega) ?_; intro v1 w5 HO3 HB3 j1 j2; clear j1 j2))
                go_roundw
                case rel => exact ⟨d :: t, o ++ [wd], by rw [hcut.out], by simp; omega, HO3, Lib.hid (by rw [HQ.out, HF.out.2, if_neg HE.out, HW.out]; simp [Sp.clean, HBL.out, Option.map_map, Function.comp_def]), HB3⟩
                case measure => simp [str_size]; omega
        · simp only [e2, decide_false] at T34
          have hnl2 : n ≤ r.length + 1 := by omega
          by_cases hn0 : n = 0
          · have T0 : ((n : Int) == 0) = true := beq_iff_eq.2 (by omega)
            have HW : Hid (Sp.word c r = none) := Lib.hid (by rw [Sp.word, if_neg e2, if_pos (by rw [← hn0, HN.out, HX.out.1]; rfl)])
            clear e2
            go_wp2_with (first | (go_at_call 73; refine (HT.out _).mono ?_; rintro e w1 ⟨rfl, HB1⟩) | (go_at_call 74; refine (HR.out _).mono ?_; rintro e w2 ⟨rfl, HB2⟩; have HBA := Lib.hid (HB1.trans (HB2.mono HB1.size)); have HBB := Lib.hid (HBr.trans (HBA.out.mono HBr.size))))
            go_ret2
            exact .inr ⟨by rw [HQ.out, HF.out.2, if_neg HE.out, HW.out]; rfl, rfl, HBB.out⟩
          · obtain ⟨t, hte⟩ : ∃ t, t = (c :: r).drop n := ⟨_, rfl⟩
            obtain ⟨wd, hwe⟩ : ∃ wd, wd = (c :: r).take n := ⟨_, rfl⟩
            have hN : n + t.length = r.length + 1 := by rw [hte]; simp; omega
            have HDR : Hid ((c :: r).drop n = t) := Lib.hid hte.symm
            have HW : Hid (Sp.word c r = some (wd, t)) := Lib.hid (by rw [Sp.word, if_neg e2, show Sp.run (c :: r) = n by rw [HN.out, HX.out.1]; rfl, if_neg hn0, hte, hwe])
            have hwd : Hid (b.extract 0 n = str wd) := Lib.hid (by rw [Lib.extract_eq, HX.out.1, bl_str, hwe]; simp [str])
            have hql : wd.length ≤ r.length + 1 := by rw [hwe]; simp; omega
            have hNp : 0 < n := by omega
            clear hte hwe e2 hn0
            obtain ⟨N, rfl⟩ : ∃ N, N = n := ⟨_, rfl⟩
            have hcut : Hid (b.extract N (r.length + 1) = str t) := Lib.hid (by rw [HX.out.1]; exact cut_to HDR.out (by omega))
            have hat : Hid (∀ d t', t = d :: t' → ∀ h : N < b.size, (b[N]'h) = d) := Lib.hid (fun d t' e => by rw [HX.out.1]; exact at_drop (HDR.out.trans e))
            have hN0 : ((N : Int) == 0) = false := beq_eq_false_iff_ne.2 (by omega)
            cases t with
            | nil =>
              have hN1 : r.length + 1 ≤ N := by simp at hN; omega
              have hN2 : N ≤ r.length + 1 := by omega
              clear hN
              go_wp2_with (first | (go_at_call 73; refine (HT.out _).mono ?_; rintro e w1 ⟨rfl, HB1⟩) | (go_at_call 74; refine (HR.out _).mono ?_; rintro e w2 ⟨rfl, HB2⟩; have HBA := Lib.hid (HB1.trans (HB2.mono HB1.size)); have HBB := Lib.hid (HBr.trans (HBA.out.mono HBr.size))) | (go_at_call 76; refine (blank_any d D HDD.out _).mono ?_; rintro e w4 ⟨rfl, rfl⟩; rw [HBL.out]) | (at_builtin; refine ap_s (W := w2) (base := w.heap.size) (w0 := w) (v := u4) (l := o) (c := wd) rfl rfl rfl rfl hwd.out (Kd.R_below HO HBA.out) HBB.out HBB.out.size (by omega) ?_; intro v1 w5 HO3 HB3 j1 j2; clear j1 j2))
              go_roundw
              case rel => exact ⟨[], o ++ [wd], by rw [hcut.out], by simp; omega, HO3, Lib.hid (by rw [HQ.out, HF.out.2, if_neg HE.out, HW.out]; simp [Sp.clean, Option.map_map, Function.comp_def]), HB3⟩
              case measure => simp [str_size]; omega
            | cons d t =>
              simp only [List.length_cons] at hN hql
              have hN1 : N < r.length + 1 := by omega
              obtain ⟨D, hD⟩ : ∃ D : Int, D = (d.toNat : Int) := ⟨_, rfl⟩
              have hy : ∀ h : N < b.size, ((b[N]'h).toNat : Int) = D := fun h => by rw [hD, hat.out d t rfl h]
              have hD0 : 0 ≤ D := by omega
              have hD1 : D ≤ 255 := by have := d.toNat_lt; omega
              have HDD := Lib.hid hD
              clear hD
              cases hb : Sp.isBlank d with
              | false =>
                have HBL := Lib.hid hb
                clear hb
                go_wp2_with (first | (go_at_call 73; refine (HT.out _).mono ?_; rintro e w1 ⟨rfl, HB1⟩) | (go_at_call 74; refine (HR.out _).mono ?_; rintro e w2 ⟨rfl, HB2⟩; have HBA := Lib.hid (HB1.trans (HB2.mono HB1.size)); have HBB := Lib.hid (HBr.trans (HBA.out.mono HBr.size))) | (go_at_call 76; refine (blank_any d D HDD.out _).mono ?_; rintro e w4 ⟨rfl, rfl⟩; rw [HBL.out]) | (at_builtin; refine ap_s (W := w2) (base := w.heap.size) (w0 := w) (v := u4) (l := o) (c := wd) rfl rfl rfl rfl hwd.out (Kd.R_below HO HBA.out) HBB.out HBB.out.size (by omega) ?_; intro v1 w5 HO3 HB3 j1 j2; clear j1 j2))
                go_ret2
                exact .inr ⟨by rw [HQ.out, HF.out.2, if_neg HE.out, HW.out]; simp [Sp.clean, HBL.out], rfl, HBB.out⟩
              | true =>
                have HBL := Lib.hid hb
                clear hb
                go_wp2_with (first | (go_at_call 73; refine (HT.out _).mono ?_; rintro e w1 ⟨rfl, HB1⟩) | (go_at_call 74; refine (HR.out _).mono ?_; rintro e w2 ⟨rfl, HB2⟩; have HBA := Lib.hid (HB1.trans (HB2.mono HB1.size)); have HBB := Lib.hid (HBr.trans (HBA.out.mono HBr.size))) | (go_at_call 76; refine (blank_any d D HDD.out _).mono ?_; rintro e w4 ⟨rfl, rfl⟩; rw [HBL.out]) | (at_builtin; refine ap_s (W := w2) (base := w.heap.size) (w0 := w) (v := u4) (l := o) (c := wd) rfl rfl rfl rfl hwd.out (Kd.R_below HO HBA.out) HBB.out HBB.out.size (by omega) ?_; intro v1 w5 HO3 HB3 j1 j2; clear j1 j2))
                go_roundw
                case rel => exact ⟨d :: t, o ++ [wd], by rw [hcut.out], by simp; omega, HO3, Lib.hid (by rw [HQ.out, HF.out.2, if_neg HE.out, HW.out]; simp [Sp.clean, HBL.out, Option.map_map, Function.comp_def]), HB3⟩
                case measure => simp [str_size]; omega
end Go.Proofs.YthnhfddlmkhgkaaGreatDoor

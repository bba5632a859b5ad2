/- Walks: what some functions of the play package and its laws compute, as contracts. -/
import Derived.Test.YthnhfddlmkhgkaaGreatDoorZLawF
import Derived.Test.YthnhfddlmkhgkaaGreatDoorZPrintC
import Derived.Test.YthnhfddlmkhgkaaGreatDoorZFirst
set_option linter.unusedVariables false
namespace Go.Proofs.YthnhfddlmkhgkaaGreatDoor
open Go.RowKit Go.Proofs.YthnhfddlmkhgkaaGreatDoorW.PrintWords

def okN (n : Int) : Prop := 0 ≤ n ∧ n ≤ 1073741824
def noN (n : Int) : Prop := ¬ (0 ≤ n ∧ n ≤ 1073741824)
theorem bound_ok {n : Int} (h : okN n) (w : World) : Calls Tryz.prog 34 #[.int .i64 n] w (SRet w (.bool true)) := by
  have := bound_any n w; rwa [decide_eq_true (show 0 ≤ n ∧ n ≤ 1073741824 from h)] at this
theorem bound_no {n : Int} (h : noN n) (w : World) : Calls Tryz.prog 34 #[.int .i64 n] w (SRet w (.bool false)) := by
  have := bound_any n w; rwa [decide_eq_false (show ¬ (0 ≤ n ∧ n ≤ 1073741824) from h)] at this
theorem flat_at : ∀ {l : List (Sp.Call × Value)} {i : Nat} {p : Sp.Call × Value}, l[i]? = some p → ∀ (j : Nat) (x : Value), (callCells p.1 p.2)[j]? = some x → (l.flatMap fun q => callCells q.1 q.2)[i * 9 + j]? = some x
  | [], i, p, h, _, _, _ => by simp at h
  | q :: l, 0, p, h, j, x, hx => by
    simp only [List.getElem?_cons_zero, Option.some.injEq] at h
    subst h
    have hj : j < (callCells q.1 q.2).length := (List.getElem?_eq_some_iff.1 hx).1
    rw [List.flatMap_cons, List.getElem?_append_left (by omega)]
    simpa using hx
  | q :: l, i + 1, p, h, j, x, hx => by
    rw [List.getElem?_cons_succ] at h
    have hq : (callCells q.1 q.2).length = 9 := rfl
    rw [List.flatMap_cons, List.getElem?_append_right (by omega), show (i + 1) * 9 + j - (callCells q.1 q.2).length = i * 9 + j by omega]
    exact flat_at h j x hx
/-- what a round of the law knows of its call -/
def CallOk (w : World) (ad : Addr) (i : Nat) (c : Sp.Call) (v : Value) (t : Sp.Bs) : Prop :=
  (CallV w c v ∧ ∀ j x, (callCells c v)[j]? = some x → w.cell? ((ad.add (i * 9)).add j) = some x) ∧ CallB c ∧ c.data.length ≤ 1048576 ∧ Sp.printCall c = (t, 0) ∧ t ≠ [] ∧ t.length + 8 ≤ 1048576 ∧ (∀ b ∈ t, 32 ≤ b.toNat ∧ b.toNat ≤ 126) ∧ Sp.parseCall (Sp.lead t) = (c, 0)
theorem CallV.under {w w1 : World} {c : Sp.Call} {v : Value} (h : CallV w c v) (hb : Below w.heap.size w w1) : CallV w1 c v := by
  obtain ⟨A, k, e, r⟩ := h
  exact ⟨A, k, e, r.below hb⟩
theorem below_read {w w1 : World} {p : Addr} {v : Value} (hb : Below w.heap.size w w1) (h : w.cell? p = some v) : w1.cell? p = some v := (hb.cell (World.block_lt_of_cell? _ _ h)).trans h
theorem CallOk.under {w w1 : World} {ad : Addr} {i : Nat} {c : Sp.Call} {v : Value} {t : Sp.Bs} (h : CallOk w ad i c v t) (hb : Below w.heap.size w w1) : CallOk w1 ad i c v t := by
  obtain ⟨⟨h1, h2⟩, h3⟩ := h
  exact ⟨⟨h1.under hb, fun j x hj => below_read hb (h2 j x hj)⟩, h3⟩
def callVals (v : Value) : List Value := [.slice none 0 0, .slice none 0 0, .slice none 0 0, v, .slice none 0 0, .slice none 0 0, .slice none 0 0, .slice none 0 0, .slice none 0 0, .slice none 0 0]
theorem calls_laid {h g off len : Int} {path name name2 data : Sp.Bs} {A : Option Addr} {k G : Nat} {w : World} (c1 : okN h) (c2 : okN g) (c3 : okN off) (c4 : okN len)
    (l1 : path.length ≤ 65536) (l2 : name.length ≤ 65536) (l3 : name2.length ≤ 65536) (l4 : data.length ≤ 65536) (hd : ReadU w A data)
    (hr : w.heap[G]? = some (.cells (((Sp.calls h g off len path name name2 data).zip (callVals (.slice A data.length k))).flatMap fun q => callCells q.1 q.2).toArray 51 (0, 0))) :
    ∀ i, i < 10 → ∃ c v t, CallOk w ⟨G, 0, none⟩ i c v t := by
  intro i hi
  have hcl : (Sp.calls h g off len path name name2 data).length = 10 := rfl
  have hmem : ∃ c v, ((Sp.calls h g off len path name name2 data).zip (callVals (.slice A data.length k)))[i]? = some (c, v) ∧ c ∈ Sp.calls h g off len path name name2 data ∧ CallV w c v := by
    have hn : ∀ c : Sp.Call, c.data = [] → CallV w c (.slice none 0 0) := fun c hc => ⟨none, 0, by rw [hc]; rfl, by rw [hc]; exact readU_nil w⟩
    match i, hi with
    | 0, _ => exact ⟨_, _, rfl, by simp [Sp.calls], hn _ rfl⟩
    | 1, _ => exact ⟨_, _, rfl, by simp [Sp.calls], hn _ rfl⟩
    | 2, _ => exact ⟨_, _, rfl, by simp [Sp.calls], hn _ rfl⟩
    | 3, _ => exact ⟨_, _, rfl, by simp [Sp.calls], A, k, rfl, hd⟩
    | 4, _ => exact ⟨_, _, rfl, by simp [Sp.calls], hn _ rfl⟩
    | 5, _ => exact ⟨_, _, rfl, by simp [Sp.calls], hn _ rfl⟩
    | 6, _ => exact ⟨_, _, rfl, by simp [Sp.calls], hn _ rfl⟩
    | 7, _ => exact ⟨_, _, rfl, by simp [Sp.calls], hn _ rfl⟩
    | 8, _ => exact ⟨_, _, rfl, by simp [Sp.calls], hn _ rfl⟩
    | 9, _ => exact ⟨_, _, rfl, by simp [Sp.calls], hn _ rfl⟩
    | n + 10, hi => omega
  obtain ⟨c, v, hz, hm, hv⟩ := hmem
  obtain ⟨t, ht⟩ := Sp.calls_back c1 c2 c3 c4 l1 l2 l3 l4 c hm
  have hB : CallB c := by
    unfold okN at *
    simp only [Sp.calls, List.mem_cons, List.not_mem_nil, or_false] at hm
    rcases hm with rfl | rfl | rfl | rfl | rfl | rfl | rfl | rfl | rfl | rfl
    all_goals (constructor <;> first | (unfold i64; simp only; omega) | (simp only [List.length_nil]; omega))
  refine ⟨c, v, t, ⟨hv, fun j x hj => ?_⟩, hB, hB.data, ht⟩
  rw [Addr.add_add]
  exact row_cells hr _ x (flat_at hz j x hj)
theorem str_ne {t : Sp.Bs} (h : t ≠ []) : (str t).toList.isEmpty = false := by
  rw [Lib.toList_data]
  show t.isEmpty = false
  cases t with
  | nil => exact absurd rfl h
  | cons => rfl
theorem str_cat (a b : Sp.Bs) : str a ++ str b = str (a ++ b) := by
  apply ByteArray.ext
  simp [str]
/-- the walk's end of a call that is read -/
def P28 (c : Sp.Call) (w : World) (e : Ending) (w' : World) : Prop := ∃ A k, e = .returned (.tuple #[.agg #[.int .i64 c.op, .int .i64 c.h, .int .i64 c.h2, .int .i64 c.off, .int .i64 c.len, .string (str c.path), .string (str c.name), .string (str c.name2), .slice A c.data.length k], .int .i64 0]) ∧ CallV w' c (.slice A c.data.length k) ∧ Below w.heap.size w w'
theorem call28 {t : Sp.Bs} {c : Sp.Call} (hp : Sp.parseCall t = (c, 0)) (w : World) (he : Env w) (hs : t.length ≤ 140737488355328) : Calls Tryz.prog 28 #[.string (str t)] w (P28 c w) := by
  have h := parseCall_any t w he hs
  rw [hp] at h
  refine h.mono ?_
  rintro e w1 ⟨v, rfl, ho, hb⟩
  obtain ⟨A, k, rfl, _, hr⟩ := ho.reads
  exact ⟨A, k, rfl, ⟨A, k, rfl, hr⟩, hb⟩
set_option maxHeartbeats 8000000 in
set_option maxRecDepth 100000 in
/-- the walk of PlayCalls -/
theorem calls_any (h g off len : Int) (path name name2 data : Sp.Bs) (A : Option Addr) (k : Nat) (w : World) (he : Env w) (hd : ReadU w A data) :
    Calls Tryz.prog 12 #[.int .i64 h, .int .i64 g, .int .i64 off, .int .i64 len, .string (str path), .string (str name), .string (str name2), .slice A data.length k] w (BRet w (.bool true)) := by
  have HE := Lib.hid he
  have HD := Lib.hid hd
  clear he hd
  have H18 : Hid (∀ w, Env w → Calls Tryz.prog 18 #[] w (BRet w (.bool true))) := Lib.hid first_any
  have hs1 : (str path).size = path.length := str_size path
  have hs2 : (str name).size = name.length := str_size name
  have hs3 : (str name2).size = name2.length := str_size name2
  by_cases c1 : okN h
  case neg =>
    have c1n : noN h := c1
    clear c1
    go_enter Tryz.func12, Tryz.ntmps12
    go_wp2_with (first | (go_at_call 18; refine (H18.out _ HE.out).mono ?_; rintro e w1 ⟨rfl, hb⟩; have HB1 := Lib.hid hb; clear hb) | (go_at_call 34; refine (bound_ok (by assumption) _).mono ?_; rintro e w' ⟨rfl, rfl⟩) | (go_at_call 34; refine (bound_no (by assumption) _).mono ?_; rintro e w' ⟨rfl, rfl⟩))
    go_ret
    exact ⟨rfl, HB1.out⟩
  by_cases c2 : okN g
  case neg =>
    have c2n : noN g := c2
    clear c2
    go_enter Tryz.func12, Tryz.ntmps12
    go_wp2_with (first | (go_at_call 18; refine (H18.out _ HE.out).mono ?_; rintro e w1 ⟨rfl, hb⟩; have HB1 := Lib.hid hb; clear hb) | (go_at_call 34; refine (bound_ok (by assumption) _).mono ?_; rintro e w' ⟨rfl, rfl⟩) | (go_at_call 34; refine (bound_no (by assumption) _).mono ?_; rintro e w' ⟨rfl, rfl⟩))
    go_ret
    exact ⟨rfl, HB1.out⟩
  by_cases c3 : okN off
  case neg =>
    have c3n : noN off := c3
    clear c3
    go_enter Tryz.func12, Tryz.ntmps12
    go_wp2_with (first | (go_at_call 18; refine (H18.out _ HE.out).mono ?_; rintro e w1 ⟨rfl, hb⟩; have HB1 := Lib.hid hb; clear hb) | (go_at_call 34; refine (bound_ok (by assumption) _).mono ?_; rintro e w' ⟨rfl, rfl⟩) | (go_at_call 34; refine (bound_no (by assumption) _).mono ?_; rintro e w' ⟨rfl, rfl⟩))
    go_ret
    exact ⟨rfl, HB1.out⟩
  by_cases c4 : okN len
  case neg =>
    have c4n : noN len := c4
    clear c4
    go_enter Tryz.func12, Tryz.ntmps12
    go_wp2_with (first | (go_at_call 18; refine (H18.out _ HE.out).mono ?_; rintro e w1 ⟨rfl, hb⟩; have HB1 := Lib.hid hb; clear hb) | (go_at_call 34; refine (bound_ok (by assumption) _).mono ?_; rintro e w' ⟨rfl, rfl⟩) | (go_at_call 34; refine (bound_no (by assumption) _).mono ?_; rintro e w' ⟨rfl, rfl⟩))
    go_ret
    exact ⟨rfl, HB1.out⟩
  by_cases c5 : 65536 < path.length
  case pos =>
    have Tc5 : decide (65536 < (path.length : Int)) = true := decide_eq_true (by omega)
    clear c5
    go_enter Tryz.func12, Tryz.ntmps12
    go_wp2_with (first | (go_at_call 18; refine (H18.out _ HE.out).mono ?_; rintro e w1 ⟨rfl, hb⟩; have HB1 := Lib.hid hb; clear hb) | (go_at_call 34; refine (bound_ok (by assumption) _).mono ?_; rintro e w' ⟨rfl, rfl⟩) | (go_at_call 34; refine (bound_no (by assumption) _).mono ?_; rintro e w' ⟨rfl, rfl⟩))
    go_ret
    exact ⟨rfl, HB1.out⟩
  have Tc5 : decide (65536 < (path.length : Int)) = false := decide_eq_false (by omega)
  by_cases c6 : 65536 < name.length
  case pos =>
    have Tc6 : decide (65536 < (name.length : Int)) = true := decide_eq_true (by omega)
    clear c6
    go_enter Tryz.func12, Tryz.ntmps12
    go_wp2_with (first | (go_at_call 18; refine (H18.out _ HE.out).mono ?_; rintro e w1 ⟨rfl, hb⟩; have HB1 := Lib.hid hb; clear hb) | (go_at_call 34; refine (bound_ok (by assumption) _).mono ?_; rintro e w' ⟨rfl, rfl⟩) | (go_at_call 34; refine (bound_no (by assumption) _).mono ?_; rintro e w' ⟨rfl, rfl⟩))
    go_ret
    exact ⟨rfl, HB1.out⟩
  have Tc6 : decide (65536 < (name.length : Int)) = false := decide_eq_false (by omega)
  by_cases c7 : 65536 < name2.length
  case pos =>
    have Tc7 : decide (65536 < (name2.length : Int)) = true := decide_eq_true (by omega)
    clear c7
    go_enter Tryz.func12, Tryz.ntmps12
    go_wp2_with (first | (go_at_call 18; refine (H18.out _ HE.out).mono ?_; rintro e w1 ⟨rfl, hb⟩; have HB1 := Lib.hid hb; clear hb) | (go_at_call 34; refine (bound_ok (by assumption) _).mono ?_; rintro e w' ⟨rfl, rfl⟩) | (go_at_call 34; refine (bound_no (by assumption) _).mono ?_; rintro e w' ⟨rfl, rfl⟩))
    go_ret
    exact ⟨rfl, HB1.out⟩
  have Tc7 : decide (65536 < (name2.length : Int)) = false := decide_eq_false (by omega)
  by_cases c8 : 65536 < data.length
  case pos =>
    have Tc8 : decide (65536 < (data.length : Int)) = true := decide_eq_true (by omega)
    clear c8
    go_enter Tryz.func12, Tryz.ntmps12
    go_wp2_with (first | (go_at_call 18; refine (H18.out _ HE.out).mono ?_; rintro e w1 ⟨rfl, hb⟩; have HB1 := Lib.hid hb; clear hb) | (go_at_call 34; refine (bound_ok (by assumption) _).mono ?_; rintro e w' ⟨rfl, rfl⟩) | (go_at_call 34; refine (bound_no (by assumption) _).mono ?_; rintro e w' ⟨rfl, rfl⟩))
    go_ret
    exact ⟨rfl, HB1.out⟩
  have Tc8 : decide (65536 < (data.length : Int)) = false := decide_eq_false (by omega)
  have HF := Lib.hid (And.intro c1 (And.intro c2 (And.intro c3 c4)))
  have HF2 : Hid (path.length ≤ 65536 ∧ name.length ≤ 65536 ∧ name2.length ≤ 65536 ∧ data.length ≤ 65536) := Lib.hid (by omega)
  clear c5 c6 c7 c8
  go_enter Tryz.func12, Tryz.ntmps12
  go_wp2_with (first | (go_at_call 18; refine (H18.out _ HE.out).mono ?_; rintro e w1 ⟨rfl, hb⟩; have HB1 := Lib.hid hb; clear hb) | (go_at_call 34; refine (bound_ok (by assumption) _).mono ?_; rintro e w' ⟨rfl, rfl⟩))
  generalize hW : w1.alloc _ = W
  have hrow : W.heap[w1.heap.size]? = some (.cells (((Sp.calls h g off len path name name2 data).zip (callVals (.slice A data.length k))).flatMap fun q => callCells q.1 q.2).toArray 51 (0, 0)) := by
    rw [← hW]
    exact heap_alloc_new _ _
  have hB2 : Below w1.heap.size w1 W := by rw [← hW]; exact (Below.refl _ _).alloc (Nat.le_refl _) _
  have HC := Lib.hid (calls_laid HF.out.1 HF.out.2.1 HF.out.2.2.1 HF.out.2.2.2 HF2.out.1 HF2.out.2.1 HF2.out.2.2.1 HF2.out.2.2.2 ((HD.out.below HB1.out).below hB2) hrow)
  have HG := Lib.hid (row_lt hrow)
  have HB3 := Lib.hid (HB1.out.trans (hB2.mono HB1.out.size))
  clear hW hrow hB2 HF HF2 c1 c2 c3 c4 hs1 hs2 hs3
  generalize hG : w1.heap.size = G at HC HG ⊢
  generalize had : (⟨G, 0, none⟩ : Addr) = ad
  have HC2 : Hid (∀ w', Below W.heap.size W w' → ∀ i, i < 10 → ∃ c v t, CallOk w' ad i c v t) := Lib.hid (fun w' hb i hi => by
    obtain ⟨c, v, t, h⟩ := HC.out i hi
    rw [← had]
    exact ⟨c, v, t, h.under hb⟩)
  clear HC HG had hG
  go_loopw [20] (fun v20 wr => ∃ (i : Nat), v20 = .int .i64 (i : Int) ∧ i ≤ 10 ∧ Below W.heap.size W wr) (fun v20 _ => 10 - (intOf v20).toNat)
  case atStart => exact ⟨0, rfl, by omega, Below.refl _ _⟩
  case round =>
    obtain ⟨i, rfl, hi, HB⟩ := hrel
    by_cases hlt : i < 10
    · obtain ⟨c, v, t, hok⟩ := HC2.out wr HB i hlt
      obtain ⟨⟨hv, hcells⟩, hB, hdl, hpr, hne, htl, hpl, hpa⟩ := hok
      have q1 : (0 : Int) ≤ (i : Int) ∧ (i : Int) < 10 := ⟨by omega, by omega⟩
      have hsz : (str t).size = t.length := str_size t
      have HCC := Lib.hid hcells
      have H25 : Hid (Calls Tryz.prog 25 #[.agg (callCells c v).toArray] wr (W2 wr (t, 0))) := Lib.hid (by
        rw [← hpr]; exact printCall_any c v wr (HE.out.below (HB3.out.trans (HB.mono HB3.out.size))) hv hB)
      have HNE := str_ne hne
      have HPL := Lib.hid hpl
      have HK := Lib.hid (And.intro hv (And.intro hdl (And.intro htl hpa)))
      have htl2 : t.length + 8 ≤ 1048576 := htl
      clear hv hcells hB hdl hpr hne hpl hpa htl
      obtain ⟨TX, hTX⟩ : ∃ x, x = str (Sp.lead t) := ⟨_, rfl⟩
      obtain ⟨U1, hU1⟩ : ∃ x, x = str ([32, 9] ++ t) := ⟨_, rfl⟩
      have hadd1 : (⟨#[32, 9]⟩ : ByteArray) ++ str t = U1 := by rw [hU1]; exact str_cat [32, 9] t
      have hadd2 : U1 ++ (⟨#[9, 32, 35, 32, 115, 111]⟩ : ByteArray) = TX := by rw [hU1, hTX]; exact str_cat ([32, 9] ++ t) [9, 32, 35, 32, 115, 111]
      have hU1s : U1.size = t.length + 2 := by rw [hU1, str_size]; simp
      have hll : (Sp.lead t).length = t.length + 8 := by unfold Sp.lead; simp
      have H28 : Hid (∀ w', Env w' → Calls Tryz.prog 28 #[.string TX] w' (P28 c w')) := Lib.hid (fun w' h => by rw [hTX]; exact call28 HK.out.2.2.2 w' h (by omega))
      clear hTX hU1 hll
      go_wp2_with (first
        | (refine wpList_load_any rfl 51 (.tmp 112) rfl (ad.add (i * 9)) rfl (callCells c v) _ HCC.out Tryz.underlying51 rfl (by kernel_rfl) ?_)
        | (go_at_call 25; refine H25.out.mono ?_; rintro e w2 ⟨rfl, hb2⟩)
        | (go_at_call 17; refine (num_any _ _).mono ?_; rintro e w7 ⟨rfl, rfl⟩))
      have HB4 := Lib.hid (HB.trans (hb2.mono HB.size))
      have HCC2 : Hid ((∀ j x, (callCells c v)[j]? = some x → w2.cell? ((ad.add (i * 9)).add j) = some x) ∧ CallV w2 c v) := Lib.hid ⟨fun j x hj => below_read hb2 (HCC.out j x hj), HK.out.1.under hb2⟩
      clear hb2 HCC
      go_loopw [23] (fun v23 wq => ∃ (j : Nat), v23 = .int .i64 (j : Int) ∧ j ≤ t.length ∧ wq = w2) (fun v23 _ => t.length - (intOf v23).toNat)
      case atStart => exact ⟨0, rfl, by omega, rfl⟩
      case round =>
        obtain ⟨j, rfl, hj, rfl⟩ := hrel
        by_cases hltj : j < t.length
        · have q2 : (0 : Int) ≤ (j : Int) ∧ (j : Int) < (t.length : Int) := ⟨by omega, by omega⟩
          obtain ⟨C, hC⟩ : ∃ C : Int, C = ((t[j]'hltj).toNat : Int) := ⟨_, rfl⟩
          have hx : ∀ h : j < (str t).size, (((str t)[j]'h).toNat : Int) = C := fun h => by rw [hC]; rfl
          have hpj := HPL.out (t[j]'hltj) (List.getElem_mem _)
          have T1 : decide (C < 32) = false := decide_eq_false (by omega)
          have T2 : decide (126 < C) = false := decide_eq_false (by omega)
          have hC0 : 0 ≤ C := by omega
          clear hC hpj
          go_wp2
          go_roundw
          case rel => exact ⟨j + 1, by go_num, by omega, trivial⟩
          case measure => simp [intOf]; omega
        · go_wp2_with (first | (go_at_call 28; refine (H28.out _ (HE.out.below (HB3.out.trans (HB4.out.mono HB3.out.size)))).mono ?_; rintro e w4 ⟨B, k2, rfl, hv4, hb4⟩))
          have hb5 : Below wr.heap.size wr (w4.alloc (.cells #[.int .i64 c.op, .int .i64 c.h, .int .i64 c.h2, .int .i64 c.off, .int .i64 c.len, .string (str c.path), .string (str c.name), .string (str c.name2), .slice B c.data.length k2] 51)) := hb4.alloc hb4.size _
          have hb6 : Below w4.heap.size w4 (w4.alloc (.cells #[.int .i64 c.op, .int .i64 c.h, .int .i64 c.h2, .int .i64 c.off, .int .i64 c.len, .string (str c.path), .string (str c.name), .string (str c.name2), .slice B c.data.length k2] 51)) := (Below.refl _ _).alloc (Nat.le_refl _) _
          have hrow5 : (w4.alloc (.cells #[.int .i64 c.op, .int .i64 c.h, .int .i64 c.h2, .int .i64 c.off, .int .i64 c.len, .string (str c.path), .string (str c.name), .string (str c.name2), .slice B c.data.length k2] 51)).heap[w4.heap.size]? = some (.cells (callCells c (.slice B c.data.length k2)).toArray 51 (0, 0)) := heap_alloc_new _ _
          have hv5 := hv4.under hb6
          generalize w4.alloc _ = w5 at hb5 hrow5 hv5 ⊢
          generalize w4.heap.size = G4 at hrow5 ⊢
          have HD5 : Hid ((∀ j x, (callCells c v)[j]? = some x → w5.drew.cell? ((ad.add (i * 9)).add j) = some x) ∧ (∀ j x, (callCells c (.slice B c.data.length k2))[j]? = some x → w5.drew.cell? ((⟨G4, 0, none⟩ : Addr).add j) = some x) ∧ CallV w5.drew c v ∧ CallV w5.drew c (.slice B c.data.length k2)) := Lib.hid (by
            have hd : Below w5.heap.size w5 w5.drew := (Below.refl _ _).drew
            refine ⟨fun j x hj => below_read hd (below_read hb5 (HCC2.out.1 j x hj)), fun j x hj => below_read hd ?_, (HCC2.out.2.under hb5).under hd, hv5.under hd⟩
            have := row_cells hrow5 j x hj
            exact this)
          have H27 : Hid (Calls Tryz.prog 27 #[.agg (callCells c v).toArray, .agg (callCells c (.slice B c.data.length k2)).toArray] w5.drew (BRet w5.drew (.bool true))) := Lib.hid (by
            have h := sameCall_any c c v (.slice B c.data.length k2) w5.drew HD5.out.2.2.1 HD5.out.2.2.2 (by have := HK.out.2.1; omega)
            rwa [decide_eq_true rfl] at h)
          have HB6 : Hid (Below W.heap.size W w5.drew) := Lib.hid ((HB4.out.trans (hb5.mono HB4.out.size)).drew)
          clear hb5 hb6 hrow5 hv5 hb4 hv4 HCC2
          refine region_mix [] [0, 1, 2, 3, 4] [5, 6] mixed (by kernel_rfl) (fun _ _ _ _ _ h => h) ?_
          simp only [pick, List.getElem?_cons_zero, List.getElem?_cons_succ]
          refine wpPre_nil ?_
          still_step
          still_step
          still_step
          refine still_load_any rfl 51 _ rfl (ad.add (i * 9)) rfl _ _ HD5.out.1 Tryz.underlying51 rfl (by kernel_rfl) ?_
          refine still_load_any rfl 51 _ rfl (⟨G4, 0, none⟩ : Addr) rfl _ _ HD5.out.2.1 Tryz.underlying51 rfl (by kernel_rfl) ?_
          refine wpStill_nil ?_
          go_wp2_with (first
            | (go_at_call 27; refine H27.out.mono ?_; rintro e w6 ⟨rfl, hb7⟩)
            | (go_at_call 17; refine (num_any _ _).mono ?_; rintro e w7 ⟨rfl, rfl⟩))
          go_roundw
          case rel => exact ⟨i + 1, by go_num, by omega, HB6.out.trans (hb7.mono HB6.out.size)⟩
          case measure => simp [intOf]; omega
    · go_wp2
      go_ret
      exact ⟨rfl, HB3.out.trans (HB.mono HB3.out.size)⟩
end Go.Proofs.YthnhfddlmkhgkaaGreatDoor

/- PlayPrints: for every play whose reading is of bulk at most 1048576 it returns true, and the play reads behind it as before. The listed package-level variables hold what the row lists. -/
import Derived.Test.YthnhfddlmkhgkaaGreatDoorZCloseR
import Derived.Test.YthnhfddlmkhgkaaGreatDoorZOpenP
import Derived.Test.YthnhfddlmkhgkaaGreatDoorZPrintsF
set_option linter.unusedVariables false
namespace Go.Proofs.YthnhfddlmkhgkaaGreatDoor
open Go.ChangeShapes Go.WideShapes Go.ChangeAt Go.WideMaps Go.WideElems Go.RowKit

set_option maxRecDepth 100000 in
theorem open_play_len {H : Type} {enc : TypeId × Value → H} {W : World} {N : List Int} {A : Option Addr} {n k : Nat} {d : DataW H} {ps : List MemPlace} (na : N.length = 11) (h : DataW.Trod enc Tryz.prog W 0 (fun _ => true) true 28 (.agg (playCells N (.slice A n k)).toArray) d ps) (hb : Rows.uptoBulk d ≤ 1048576) : n ≤ 1048576 := by
  obtain ⟨a0, a1, a2, a3, a4, a5, a6, a7, a8, a9, a10, rfl⟩ := list11 na
  obtain ⟨fuel, hf0⟩ := h
  have hf1 : DataW.trod enc Tryz.prog W 0 (fun _ => true) true fuel 28 [.int .i64 a0, .int .i64 a1, .int .i64 a2, .int .i64 a3, .int .i64 a4, .int .i64 a5, .int .i64 a6, .int .i64 a7, .int .i64 a8, .int .i64 a9, .int .i64 a10, .slice A n k] = some (d, ps) := hf0
  obtain ⟨xs, m, _, hx, hl, hlen, hf⟩ := DataW.trod_struct Tryz.underlying28 hf1
  match xs, hlen with
  | [x0, x1, x2], _ =>
    obtain ⟨rfl, _⟩ := Prod.mk.inj hx
    simp only [Rows.uptoBulk, Rows.uptoBulkAll, List.map_cons, List.map_nil] at hb
    have g2 : DataW.trod enc Tryz.prog W 0 (fun _ => true) true m 26 (([Value.int .i64 a0, .int .i64 a1, .int .i64 a2, .int .i64 a3, .int .i64 a4, .int .i64 a5, .int .i64 a6, .int .i64 a7, .int .i64 a8, .int .i64 a9, .int .i64 a10, .slice A n k].drop 11).take (Tryz.prog.cellsOf 26)) = some x2 := hf 2 _ rfl
    rw [cells26] at g2
    obtain ⟨A', c, l, e, _, _, h3, _⟩ := open_slice (α := Unit) (B := 1048576) Tryz.underlying26 cells80 (fun _ _ => True) (fun _ => True) (fun _ _ _ _ _ => ⟨(), trivial, trivial⟩) g2 (by omega)
    have e2 : [Value.slice A n k] = [.slice A' l.length c] := e
    injection e2 with e2 _
    injection e2 with _ e2 _
    omega
set_option maxRecDepth 100000 in
theorem prints_contract (H : Type) (enc : TypeId × Value → H) (W : World) (base : Nat) (args : Array Value) (ds gs : List (DataW H)) (before : List MemPlace)
    (hval : ∀ (j : Nat) t v, Tryz.f4.params[j]? = some t → args[j]? = some v → Value.okWide Tryz.prog W .any base t v)
    (hW : DataW.Whole enc Tryz.prog Tryz.f4.params.toList Rows.playPrintsSpec.vars false W args.toList ds gs before)
    (hk : Rows.uptoSmall H (ds ++ gs) = true)
    (hL : laidMetH Tryz.prog Rows.playPrintsRow.laid W) (hS : W.ShapedOpen Tryz.prog) :
    Calls Tryz.prog 4 args W fun e W' => ∃ v, e = .returned v ∧ Rows.playPrintsSpec.post enc Tryz.prog Tryz.f4 false true false false W args v W' := by
  have hW' := hW
  obtain ⟨p, q, hA0, hV, rfl, hfz, hnd⟩ := hW
  have hA : DataW.TrodAll enc Tryz.prog W 0 (fun _ => true) true Tryz.f4.params.toList args.toList ds p := hA0
  rw [Tryz.params4] at hA hval
  obtain ⟨v0, d0, rfl, rfl, h0⟩ := trodAll_one hA
  obtain ⟨rfl, rfl⟩ := trodVars_none hV
  have hb := bulk_of hk
  simp only [List.append_nil, Rows.uptoBulkAll] at hb
  obtain ⟨pl, vp, rfl, hv, hB⟩ := open_play (hval 0 28 v0 rfl rfl) h0 (by omega)
  have hn : pl.ops.length ≤ 1048576 := by
    obtain ⟨na, A, k, rfl, _⟩ := hv
    exact open_play_len na h0 (by omega)
  have hc := prints_any pl vp W (envP13 hL hS) hv hB hn
  refine hc.mono fun e W' ⟨h1, hb⟩ => ⟨_, h1, ?_⟩
  exact post_law rfl rfl rfl (fun t ht => by
    rw [Tryz.params4] at ht
    obtain rfl : t = 28 := by simpa using ht
    exact ⟨by kernel_rfl, of_decide_eq_true (by kernel_rfl)⟩) hW' hb
theorem prints_reads (os : Os) {H : Type} (enc : TypeId × Value → H) : ∃ places, DataW.whole enc Tryz.prog ((startWorld os).forCall (fun _ _ => 0) ⟨#[], #[.agg #[.int .i64 0, .int .i64 0, .int .i64 0, .int .i64 0, .int .i64 0, .int .i64 0, .int .i64 0, .int .i64 0, .int .i64 0, .int .i64 0, .int .i64 0, .slice none 0 0]], []⟩).memory Tryz.f4.params.toList Rows.playPrintsSpec.vars false #[Value.agg #[.int .i64 0, .int .i64 0, .int .i64 0, .int .i64 0, .int .i64 0, .int .i64 0, .int .i64 0, .int .i64 0, .int .i64 0, .int .i64 0, .int .i64 0, .slice none 0 0]].toList 8 = some ([.agg [.agg [.lit (.int .i64 0), .lit (.int .i64 0), .lit (.int .i64 0), .lit (.int .i64 0), .lit (.int .i64 0), .lit (.int .i64 0), .lit (.int .i64 0), .lit (.int .i64 0)], .agg [.lit (.int .i64 0), .lit (.int .i64 0), .lit (.int .i64 0)], .nil]], [], places) :=
  ⟨[], by kernel_rfl⟩
set_option maxRecDepth 100000 in
theorem prints_lifted (os : Os) (started : os.Started) (H : Type) (enc : TypeId × Value → H) (F : Stop.Interp) :
    ReturnsInHanded {} Tryz.checked os 4 .any ((Rows.OpenSpec.upto Rows.playPrintsSpec).preRow enc Tryz.prog Tryz.f4 Rows.playPrintsUptoRow.domain false Rows.playPrintsUptoRow.laid) (((Rows.OpenSpec.upto Rows.playPrintsSpec).at F).post enc Tryz.prog Tryz.f4 false true false false) := by
  obtain ⟨places, hx⟩ := prints_reads os enc
  refine returnsInHanded_of_row (C := Tryz.checked) (s := Rows.OpenSpec.upto Rows.playPrintsSpec) own started (by kernel_rfl) Tryz.func4
    (witness_row_atRef (enc := enc) (C := Tryz.checked) false (startWorld os) #[.agg #[.int .i64 0, .int .i64 0, .int .i64 0, .int .i64 0, .int .i64 0, .int .i64 0, .int .i64 0, .int .i64 0, .int .i64 0, .int .i64 0, .int .i64 0, .slice none 0 0]] rfl (startRef os _) (startRest os _) (by kernel_rfl)
      (OpenSpec.preRow_of_cond 8 hx (by kernel_rfl) (fun k hk => by cases hk; kernel_rfl) (by kernel_rfl) (start13H os _))) ?_
  intro W base args ds gs before hval hW _ hcond _ hL hS _
  exact prints_contract H enc W base args ds gs before hval hW (hcond _ rfl) hL hS
theorem prints_said : Rows.PlayPrintsUptoSaid :=
  OpenClaim.holds_of_cond 4 Tryz.f4 rfl rfl rfl rfl rfl rfl rfl ⟨rfl, rfl, rfl, rfl, rfl⟩ rfl rfl rfl rfl rfl (by kernel_rfl) Tryz.func4 (by kernel_rfl)
    (of_decide_eq_true (by kernel_rfl)) (by unfold Func.isWrapper; first | (rw [if_pos (by decide +kernel)]; kernel_rfl) | (rw [if_neg (by decide +kernel)]; exact ⟨rfl, rfl⟩))
    (fun os started H enc _ F => by rw [OpenClaim.pre_eq_preRow]; exact prints_lifted os started H enc F)
theorem prints_plain (f : FuncId) (fn : Func) (hf : Tryz.pinned.checked.prog.funcNamed "annex/annexlaw21.PlayPrints" = some f) (hfn : Tryz.pinned.checked.prog.funcs[f]? = some fn) :
    true = Tryz.pinned.checked.prog.looks [] ∧ ∀ (j : Nat) t, fn.params[j]? = some t → Tryz.pinned.checked.prog.wantsStandIn t = false := by
  obtain rfl : f = 4 := Option.some.inj ((show Tryz.prog.funcNamed "annex/annexlaw21.PlayPrints" = some 4 by kernel_rfl).symm.trans hf) |>.symm
  obtain rfl : fn = Tryz.f4 := (Option.some.inj (Tryz.func4.symm.trans hfn)).symm
  refine ⟨by kernel_rfl, fun j t ht => ?_⟩
  rw [Tryz.params4] at ht
  obtain rfl : t = 28 := by simpa using Array.mem_of_getElem? ht
  exact (show Tryz.prog.wantsStandIn 28 = false by kernel_rfl)
theorem prints_card : Rows.PlayPrintsUptoCardSaid :=
  Claim7.holds_tied_plain_at .later [] _ _ _ _ prints_said (fun _ h => by cases h) (by kernel_rfl) (fun _ h => by cases h) playPrintsUpto_row_tie rfl ⟨rfl, rfl⟩ (by kernel_rfl) rfl prints_plain (by kernel_rfl)
#print axioms prints_card
end Go.Proofs.YthnhfddlmkhgkaaGreatDoor

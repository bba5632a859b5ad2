/- PlayWritesCall: for every call whose reading is of bulk at most 1048576 it returns true, and the call reads behind it as before. The listed package-level variables hold what the row lists. -/
import Derived.Test.YthnhfddlmkhgkaaGreatDoorZCloseR
import Derived.Test.YthnhfddlmkhgkaaGreatDoorZOpenP
import Derived.Test.YthnhfddlmkhgkaaGreatDoorZWritesC
set_option linter.unusedVariables false
namespace Go.Proofs.YthnhfddlmkhgkaaGreatDoor
open Go.ChangeShapes Go.WideShapes Go.ChangeAt Go.WideMaps Go.WideElems Go.RowKit

set_option maxRecDepth 100000 in
theorem open_callV {H : Type} {enc : TypeId × Value → H} {W : World} {v : Value} {d : DataW H} {ps : List MemPlace} {base : Nat} (hval : Value.okWide Tryz.prog W .any base 51 v) (h : DataW.Trod enc Tryz.prog W 0 (fun _ => true) true 51 v d ps) (hb : Rows.uptoBulk d ≤ 1048576) :
    ∃ (c : Sp.Call) (va : Value), v = .agg (callCells c va).toArray ∧ CallV W c va ∧ CallB c := by
  obtain ⟨arr, rfl, hsz⟩ := okWide_struct Tryz.underlying51 hval
  obtain ⟨fuel, hf0⟩ := h
  have hf1 : DataW.trod enc Tryz.prog W 0 (fun _ => true) true fuel 51 arr.toList = some (d, ps) := hf0
  obtain ⟨c, A, k, e, _, r, b, _⟩ := open_call hf1 hb
  obtain ⟨ll⟩ := arr
  have e2 : ll = callCells c (.slice A c.data.length k) := e
  subst e2
  exact ⟨c, _, rfl, ⟨A, k, rfl, r⟩, b⟩
set_option maxRecDepth 100000 in
theorem writes_contract (H : Type) (enc : TypeId × Value → H) (W : World) (base : Nat) (args : Array Value) (ds gs : List (DataW H)) (before : List MemPlace)
    (hval : ∀ (j : Nat) t v, Tryz.f9.params[j]? = some t → args[j]? = some v → Value.okWide Tryz.prog W .any base t v)
    (hW : DataW.Whole enc Tryz.prog Tryz.f9.params.toList Rows.playWritesCallSpec.vars false W args.toList ds gs before)
    (hk : Rows.uptoSmall H (ds ++ gs) = true)
    (hL : laidMetH Tryz.prog Rows.playWritesCallRow.laid W) (hS : W.ShapedOpen Tryz.prog) :
    Calls Tryz.prog 9 args W fun e W' => ∃ v, e = .returned v ∧ Rows.playWritesCallSpec.post enc Tryz.prog Tryz.f9 false true false false W args v W' := by
  have hW' := hW
  obtain ⟨p, q, hA0, hV, rfl, hfz, hnd⟩ := hW
  have hA : DataW.TrodAll enc Tryz.prog W 0 (fun _ => true) true Tryz.f9.params.toList args.toList ds p := hA0
  rw [Tryz.params9] at hA hval
  obtain ⟨v0, d0, rfl, rfl, h0⟩ := trodAll_one hA
  obtain ⟨rfl, rfl⟩ := trodVars_none hV
  have hb := bulk_of hk
  simp only [List.append_nil, Rows.uptoBulkAll] at hb
  obtain ⟨c, va, rfl, hv, hB⟩ := open_callV (hval 0 51 v0 rfl rfl) h0 (by omega)
  have hc := writes_any c va W (envR11 hL hS) hv hB
  refine hc.mono fun e W' ⟨h1, hb⟩ => ⟨_, h1, ?_⟩
  exact post_law rfl rfl rfl (fun t ht => by
    rw [Tryz.params9] at ht
    obtain rfl : t = 51 := by simpa using ht
    exact ⟨by kernel_rfl, of_decide_eq_true (by kernel_rfl)⟩) hW' hb
theorem writes_reads (os : Os) {H : Type} (enc : TypeId × Value → H) : ∃ places, DataW.whole enc Tryz.prog ((startWorld os).forCall (fun _ _ => 0) ⟨#[], #[.agg #[.int .i64 0, .int .i64 0, .int .i64 0, .int .i64 0, .int .i64 0, .string ⟨#[]⟩, .string ⟨#[]⟩, .string ⟨#[]⟩, .slice none 0 0]], []⟩).memory Tryz.f9.params.toList Rows.playWritesCallSpec.vars false #[Value.agg #[.int .i64 0, .int .i64 0, .int .i64 0, .int .i64 0, .int .i64 0, .string ⟨#[]⟩, .string ⟨#[]⟩, .string ⟨#[]⟩, .slice none 0 0]].toList 8 = some ([.agg [.lit (.int .i64 0), .lit (.int .i64 0), .lit (.int .i64 0), .lit (.int .i64 0), .lit (.int .i64 0), .lit (.string []), .lit (.string []), .lit (.string []), .nil]], [], places) :=
  ⟨[], by kernel_rfl⟩
set_option maxRecDepth 100000 in
theorem writes_lifted (os : Os) (started : os.Started) (H : Type) (enc : TypeId × Value → H) (F : Stop.Interp) :
    ReturnsInHanded {} Tryz.checked os 9 .any ((Rows.OpenSpec.upto Rows.playWritesCallSpec).preRow enc Tryz.prog Tryz.f9 Rows.playWritesCallUptoRow.domain false Rows.playWritesCallUptoRow.laid) (((Rows.OpenSpec.upto Rows.playWritesCallSpec).at F).post enc Tryz.prog Tryz.f9 false true false false) := by
  obtain ⟨places, hx⟩ := writes_reads os enc
  refine returnsInHanded_of_row (C := Tryz.checked) (s := Rows.OpenSpec.upto Rows.playWritesCallSpec) own started (by kernel_rfl) Tryz.func9
    (witness_row_atRef (enc := enc) (C := Tryz.checked) false (startWorld os) #[.agg #[.int .i64 0, .int .i64 0, .int .i64 0, .int .i64 0, .int .i64 0, .string ⟨#[]⟩, .string ⟨#[]⟩, .string ⟨#[]⟩, .slice none 0 0]] rfl (startRef os _) (startRest os _) (by kernel_rfl)
      (OpenSpec.preRow_of_cond 8 hx (by kernel_rfl) (fun k hk => by cases hk; kernel_rfl) (by kernel_rfl) (start11H os _))) ?_
  intro W base args ds gs before hval hW _ hcond _ hL hS _
  exact writes_contract H enc W base args ds gs before hval hW (hcond _ rfl) hL hS
theorem writes_said : Rows.PlayWritesCallUptoSaid :=
  OpenClaim.holds_of_cond 9 Tryz.f9 rfl rfl rfl rfl rfl rfl rfl ⟨rfl, rfl, rfl, rfl, rfl⟩ rfl rfl rfl rfl rfl (by kernel_rfl) Tryz.func9 (by kernel_rfl)
    (of_decide_eq_true (by kernel_rfl)) (by unfold Func.isWrapper; first | (rw [if_pos (by decide +kernel)]; kernel_rfl) | (rw [if_neg (by decide +kernel)]; exact ⟨rfl, rfl⟩))
    (fun os started H enc _ F => by rw [OpenClaim.pre_eq_preRow]; exact writes_lifted os started H enc F)
theorem writes_plain (f : FuncId) (fn : Func) (hf : Tryz.pinned.checked.prog.funcNamed "annex/annexlaw21.PlayWritesCall" = some f) (hfn : Tryz.pinned.checked.prog.funcs[f]? = some fn) :
    true = Tryz.pinned.checked.prog.looks [] ∧ ∀ (j : Nat) t, fn.params[j]? = some t → Tryz.pinned.checked.prog.wantsStandIn t = false := by
  obtain rfl : f = 9 := Option.some.inj ((show Tryz.prog.funcNamed "annex/annexlaw21.PlayWritesCall" = some 9 by kernel_rfl).symm.trans hf) |>.symm
  obtain rfl : fn = Tryz.f9 := (Option.some.inj (Tryz.func9.symm.trans hfn)).symm
  refine ⟨by kernel_rfl, fun j t ht => ?_⟩
  rw [Tryz.params9] at ht
  obtain rfl : t = 51 := by simpa using Array.mem_of_getElem? ht
  exact (show Tryz.prog.wantsStandIn 51 = false by kernel_rfl)
theorem writes_card : Rows.PlayWritesCallUptoCardSaid :=
  Claim7.holds_tied_plain_at .later [] _ _ _ _ writes_said (fun _ h => by cases h) (by kernel_rfl) (fun _ h => by cases h) playWritesCallUpto_row_tie rfl ⟨rfl, rfl⟩ (by kernel_rfl) rfl writes_plain (by kernel_rfl)
#print axioms writes_card
end Go.Proofs.YthnhfddlmkhgkaaGreatDoor

/- PlayPlace: for every two rows of bytes and every row of flags it returns true, and they read behind the call as before. The listed package-level variables hold what the row lists. -/
import Derived.Test.YthnhfddlmkhgkaaGreatDoorZEnvN
import Derived.Test.YthnhfddlmkhgkaaGreatDoorZOpenN
import Derived.Test.YthnhfddlmkhgkaaGreatDoorZPlaceC
set_option linter.unusedVariables false
namespace Go.Proofs.YthnhfddlmkhgkaaGreatDoor
open Go.ChangeShapes Go.WideShapes Go.ChangeAt Go.WideMaps Go.WideElems Go.RowKit

set_option maxRecDepth 100000 in
theorem place_contract (H : Type) (enc : TypeId × Value → H) (W : World) (base : Nat) (args : Array Value) (ds gs : List (DataW H)) (before : List MemPlace)
    (hval : ∀ (j : Nat) t v, Tryz.f13.params[j]? = some t → args[j]? = some v → Value.okWide Tryz.prog W .any base t v)
    (hW : DataW.Whole enc Tryz.prog Tryz.f13.params.toList Rows.playPlaceSpec.vars false W args.toList ds gs before)
    (hz : (DataW.weightsEach Tryz.prog (Tryz.f13.params.toList ++ (OpenSpec.ofChange Rows.playPlaceSpec).bare.plain.varTypes Tryz.prog) (ds ++ gs)).all (· ≤ reachBytes) = true)
    (hL : laidMetH Tryz.prog Rows.playPlaceRow.laid W) (hS : W.ShapedOpen Tryz.prog) :
    Calls Tryz.prog 13 args W fun e W' => ∃ v, e = .returned v ∧ Rows.playPlaceSpec.post enc Tryz.prog Tryz.f13 false true false false W args v W' := by
  have hW' := hW
  obtain ⟨p, q, hA0, hV, rfl, hfz, hnd⟩ := hW
  have hA : DataW.TrodAll enc Tryz.prog W 0 (fun _ => true) true Tryz.f13.params.toList args.toList ds p := hA0
  rw [Tryz.params13] at hA hval hz
  obtain ⟨v0, v1, v2, d0, d1, d2, p0, p1, p2, rfl, rfl, rfl, h0, h1, h2⟩ := trodAll_three hA
  obtain ⟨rfl, rfl⟩ := trodVars_none hV
  obtain ⟨A1, c1, l1, rfl, _, _, hr1⟩ := open_bytesV (hval 0 45 v0 rfl rfl) h0
  obtain ⟨A2, c2, l2, rfl, _, _, hr2⟩ := open_bytesV (hval 1 45 v1 rfl rfl) h1
  obtain ⟨A3, c3, l3, rfl, _, _, hr3⟩ := open_flagsV (hval 2 78 v2 rfl rfl) h2
  have hc := placeLaw_any l1 l2 l3 A1 A2 A3 c1 c2 c3 W (env9 hL hS) hr1 hr2 hr3
  refine hc.mono fun e W' ⟨h1, hb⟩ => ⟨_, h1, ?_⟩
  exact post_law rfl rfl rfl (fun t ht => by
    rw [Tryz.params13] at ht
    obtain rfl | rfl : t = 45 ∨ t = 78 := by simpa using ht
    · exact ⟨by kernel_rfl, of_decide_eq_true (by kernel_rfl)⟩
    · exact ⟨by kernel_rfl, of_decide_eq_true (by kernel_rfl)⟩) hW' hb
theorem place_reads (os : Os) {H : Type} (enc : TypeId × Value → H) : ∃ places, DataW.whole enc Tryz.prog ((startWorld os).forCall (fun _ _ => 0) ⟨#[], #[.slice none 0 0, .slice none 0 0, .slice none 0 0], []⟩).memory Tryz.f13.params.toList Rows.playPlaceSpec.vars false #[Value.slice none 0 0, .slice none 0 0, .slice none 0 0].toList 8 = some ([.nil, .nil, .nil], [], places) :=
  ⟨[], by kernel_rfl⟩
set_option maxRecDepth 100000 in
theorem place_lifted (os : Os) (started : os.Started) (H : Type) (enc : TypeId × Value → H) (F : Stop.Interp) :
    ReturnsInHanded {} Tryz.checked os 13 .any ((OpenSpec.ofChange Rows.playPlaceSpec).preRow enc Tryz.prog Tryz.f13 Rows.playPlaceRow.domain false Rows.playPlaceRow.laid) (((OpenSpec.ofChange Rows.playPlaceSpec).at F).post enc Tryz.prog Tryz.f13 false true false false) := by
  obtain ⟨places, hx⟩ := place_reads os enc
  refine returnsInHanded_of_row (C := Tryz.checked) (s := OpenSpec.ofChange Rows.playPlaceSpec) own started (by kernel_rfl) Tryz.func13
    (witness_row_atRef (enc := enc) (C := Tryz.checked) false (startWorld os) #[.slice none 0 0, .slice none 0 0, .slice none 0 0] rfl (startRef os _) (startRest os _) (by kernel_rfl)
      (OpenSpec.preRow_of_cond 8 hx (by kernel_rfl) (fun k hk => by cases hk) (by kernel_rfl) (start9H os _))) ?_
  intro W base args ds gs before hval hW _ _ hz hL hS _
  exact place_contract H enc W base args ds gs before hval hW hz hL hS
theorem place_said : Rows.PlayPlaceSaid :=
  OpenClaim.holds_of_cond 13 Tryz.f13 rfl rfl rfl rfl rfl rfl rfl ⟨rfl, rfl, rfl, rfl, rfl⟩ rfl rfl rfl rfl rfl (by kernel_rfl) Tryz.func13 (by kernel_rfl)
    (of_decide_eq_true (by kernel_rfl)) (by unfold Func.isWrapper; first | (rw [if_pos (by decide +kernel)]; kernel_rfl) | (rw [if_neg (by decide +kernel)]; exact ⟨rfl, rfl⟩))
    (fun os started H enc _ F => by rw [OpenClaim.pre_eq_preRow]; exact place_lifted os started H enc F)
theorem place_plain (f : FuncId) (fn : Func) (hf : Tryz.pinned.checked.prog.funcNamed "annex/annexlaw21.PlayPlace" = some f) (hfn : Tryz.pinned.checked.prog.funcs[f]? = some fn) :
    true = Tryz.pinned.checked.prog.looks [] ∧ ∀ (j : Nat) t, fn.params[j]? = some t → Tryz.pinned.checked.prog.wantsStandIn t = false := by
  obtain rfl : f = 13 := Option.some.inj ((show Tryz.prog.funcNamed "annex/annexlaw21.PlayPlace" = some 13 by kernel_rfl).symm.trans hf) |>.symm
  obtain rfl : fn = Tryz.f13 := (Option.some.inj (Tryz.func13.symm.trans hfn)).symm
  refine ⟨by kernel_rfl, fun j t ht => ?_⟩
  rw [Tryz.params13] at ht
  obtain rfl | rfl : t = 45 ∨ t = 78 := by simpa using Array.mem_of_getElem? ht
  · exact (show Tryz.prog.wantsStandIn 45 = false by kernel_rfl)
  · exact (show Tryz.prog.wantsStandIn 78 = false by kernel_rfl)
theorem place_card : Rows.PlayPlaceCardSaid :=
  Claim7.holds_tied_plain_at .later [] _ _ _ _ place_said (fun _ h => by cases h) (by kernel_rfl) (fun _ h => by cases h) playPlace_row_tie rfl ⟨rfl, rfl⟩ (by kernel_rfl) rfl place_plain (by kernel_rfl)
#print axioms place_card
end Go.Proofs.YthnhfddlmkhgkaaGreatDoor

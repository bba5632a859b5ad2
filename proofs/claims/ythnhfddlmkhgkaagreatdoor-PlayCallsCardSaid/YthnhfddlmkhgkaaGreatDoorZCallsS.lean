/- PlayCalls: for every four numbers, three texts and row of bytes it returns true, and they read behind the call as before. The listed package-level variables hold what the row lists. -/
import Derived.Test.YthnhfddlmkhgkaaGreatDoorZEnvN
import Derived.Test.YthnhfddlmkhgkaaGreatDoorZOpenN
import Derived.Test.YthnhfddlmkhgkaaGreatDoorZCallsC
set_option linter.unusedVariables false
namespace Go.Proofs.YthnhfddlmkhgkaaGreatDoor
open Go.ChangeShapes Go.WideShapes Go.ChangeAt Go.WideMaps Go.WideElems Go.RowKit

set_option maxRecDepth 100000 in
theorem calls_contract (H : Type) (enc : TypeId × Value → H) (W : World) (base : Nat) (args : Array Value) (ds gs : List (DataW H)) (before : List MemPlace)
    (hval : ∀ (j : Nat) t v, Tryz.f12.params[j]? = some t → args[j]? = some v → Value.okWide Tryz.prog W .any base t v)
    (hW : DataW.Whole enc Tryz.prog Tryz.f12.params.toList Rows.playCallsSpec.vars false W args.toList ds gs before)
    (hz : (DataW.weightsEach Tryz.prog (Tryz.f12.params.toList ++ (OpenSpec.ofChange Rows.playCallsSpec).bare.plain.varTypes Tryz.prog) (ds ++ gs)).all (· ≤ reachBytes) = true)
    (hL : laidMetH Tryz.prog Rows.playCallsRow.laid W) (hS : W.ShapedOpen Tryz.prog) :
    Calls Tryz.prog 12 args W fun e W' => ∃ v, e = .returned v ∧ Rows.playCallsSpec.post enc Tryz.prog Tryz.f12 false true false false W args v W' := by
  have hW' := hW
  obtain ⟨p, q, hA0, hV, rfl, hfz, hnd⟩ := hW
  have hA : DataW.TrodAll enc Tryz.prog W 0 (fun _ => true) true Tryz.f12.params.toList args.toList ds p := hA0
  rw [Tryz.params12] at hA hval hz
  obtain ⟨v0, t1, d0, e1, p0, q1, ha, rfl, rfl, h0, hA⟩ := trodAll_cons hA
  obtain ⟨v1, t2, d1, e2, p1, q2, rfl, rfl, rfl, h1, hA⟩ := trodAll_cons hA
  obtain ⟨v2, t3, d2, e3, p2, q3, rfl, rfl, rfl, h2, hA⟩ := trodAll_cons hA
  obtain ⟨v3, t4, d3, e4, p3, q4, rfl, rfl, rfl, h3, hA⟩ := trodAll_cons hA
  obtain ⟨v4, t5, d4, e5, p4, q5, rfl, rfl, rfl, h4, hA⟩ := trodAll_cons hA
  obtain ⟨v5, t6, d5, e6, p5, q6, rfl, rfl, rfl, h5, hA⟩ := trodAll_cons hA
  obtain ⟨v6, t7, d6, e7, p6, q7, rfl, rfl, rfl, h6, hA⟩ := trodAll_cons hA
  obtain ⟨v7, t8, d7, e8, p7, q8, rfl, rfl, rfl, h7, hA⟩ := trodAll_cons hA
  obtain ⟨rfl, rfl, rfl⟩ := trodAll_nil hA
  obtain ⟨rfl, rfl⟩ := trodVars_none hV
  obtain rfl : args = #[v0, v1, v2, v3, v4, v5, v6, v7] := by
    apply Array.ext'
    exact ha
  obtain ⟨n0, rfl, rfl, rfl, w0⟩ := open_int Tryz.underlying3 (hval 0 3 v0 rfl rfl) h0
  obtain ⟨n1, rfl, rfl, rfl, w1⟩ := open_int Tryz.underlying3 (hval 1 3 v1 rfl rfl) h1
  obtain ⟨n2, rfl, rfl, rfl, w2⟩ := open_int Tryz.underlying3 (hval 2 3 v2 rfl rfl) h2
  obtain ⟨n3, rfl, rfl, rfl, w3⟩ := open_int Tryz.underlying3 (hval 3 3 v3 rfl rfl) h3
  obtain ⟨s4, rfl, rfl, rfl, w4⟩ := Go.ChangeMaps.open_string Tryz.underlying9 (hval 4 9 v4 rfl rfl) h4
  obtain ⟨s5, rfl, rfl, rfl, w5⟩ := Go.ChangeMaps.open_string Tryz.underlying9 (hval 5 9 v5 rfl rfl) h5
  obtain ⟨s6, rfl, rfl, rfl, w6⟩ := Go.ChangeMaps.open_string Tryz.underlying9 (hval 6 9 v6 rfl rfl) h6
  obtain ⟨A, c, l, rfl, _, _, hr⟩ := open_bytesV (hval 7 45 v7 rfl rfl) h7
  have hc := calls_any n0 n1 n2 n3 (bl s4) (bl s5) (bl s6) l A c W (env9 hL hS) hr
  rw [show str (bl s4) = s4 from str_bl s4, show str (bl s5) = s5 from str_bl s5, show str (bl s6) = s6 from str_bl s6] at hc
  refine hc.mono fun e W' ⟨h1, hb⟩ => ⟨_, h1, ?_⟩
  exact post_law rfl rfl rfl (fun t ht => by
    rw [Tryz.params12] at ht
    obtain rfl | rfl | rfl : t = 3 ∨ t = 9 ∨ t = 45 := by simpa using ht
    · exact ⟨by kernel_rfl, of_decide_eq_true (by kernel_rfl)⟩
    · exact ⟨by kernel_rfl, of_decide_eq_true (by kernel_rfl)⟩
    · exact ⟨by kernel_rfl, of_decide_eq_true (by kernel_rfl)⟩) hW' hb
theorem calls_reads (os : Os) {H : Type} (enc : TypeId × Value → H) : ∃ places, DataW.whole enc Tryz.prog ((startWorld os).forCall (fun _ _ => 0) ⟨#[], #[.int .i64 0, .int .i64 0, .int .i64 0, .int .i64 0, .string ⟨#[]⟩, .string ⟨#[]⟩, .string ⟨#[]⟩, .slice none 0 0], []⟩).memory Tryz.f12.params.toList Rows.playCallsSpec.vars false #[Value.int .i64 0, .int .i64 0, .int .i64 0, .int .i64 0, .string ⟨#[]⟩, .string ⟨#[]⟩, .string ⟨#[]⟩, .slice none 0 0].toList 8 = some ([.lit (.int .i64 0), .lit (.int .i64 0), .lit (.int .i64 0), .lit (.int .i64 0), .lit (.string []), .lit (.string []), .lit (.string []), .nil], [], places) :=
  ⟨[], by kernel_rfl⟩
set_option maxRecDepth 100000 in
theorem calls_lifted (os : Os) (started : os.Started) (H : Type) (enc : TypeId × Value → H) (F : Stop.Interp) :
    ReturnsInHanded {} Tryz.checked os 12 .any ((OpenSpec.ofChange Rows.playCallsSpec).preRow enc Tryz.prog Tryz.f12 Rows.playCallsRow.domain false Rows.playCallsRow.laid) (((OpenSpec.ofChange Rows.playCallsSpec).at F).post enc Tryz.prog Tryz.f12 false true false false) := by
  obtain ⟨places, hx⟩ := calls_reads os enc
  refine returnsInHanded_of_row (C := Tryz.checked) (s := OpenSpec.ofChange Rows.playCallsSpec) own started (by kernel_rfl) Tryz.func12
    (witness_row_atRef (enc := enc) (C := Tryz.checked) false (startWorld os) #[.int .i64 0, .int .i64 0, .int .i64 0, .int .i64 0, .string ⟨#[]⟩, .string ⟨#[]⟩, .string ⟨#[]⟩, .slice none 0 0] rfl (startRef os _) (startRest os _) (by kernel_rfl)
      (OpenSpec.preRow_of_cond 8 hx (by kernel_rfl) (fun k hk => by cases hk) (by kernel_rfl) (start9H os _))) ?_
  intro W base args ds gs before hval hW _ _ hz hL hS _
  exact calls_contract H enc W base args ds gs before hval hW hz hL hS
theorem calls_said : Rows.PlayCallsSaid :=
  OpenClaim.holds_of_cond 12 Tryz.f12 rfl rfl rfl rfl rfl rfl rfl ⟨rfl, rfl, rfl, rfl, rfl⟩ rfl rfl rfl rfl rfl (by kernel_rfl) Tryz.func12 (by kernel_rfl)
    (of_decide_eq_true (by kernel_rfl)) (by unfold Func.isWrapper; first | (rw [if_pos (by decide +kernel)]; kernel_rfl) | (rw [if_neg (by decide +kernel)]; exact ⟨rfl, rfl⟩))
    (fun os started H enc _ F => by rw [OpenClaim.pre_eq_preRow]; exact calls_lifted os started H enc F)
theorem calls_plain (f : FuncId) (fn : Func) (hf : Tryz.pinned.checked.prog.funcNamed "annex/annexlaw21.PlayCalls" = some f) (hfn : Tryz.pinned.checked.prog.funcs[f]? = some fn) :
    true = Tryz.pinned.checked.prog.looks [] ∧ ∀ (j : Nat) t, fn.params[j]? = some t → Tryz.pinned.checked.prog.wantsStandIn t = false := by
  obtain rfl : f = 12 := Option.some.inj ((show Tryz.prog.funcNamed "annex/annexlaw21.PlayCalls" = some 12 by kernel_rfl).symm.trans hf) |>.symm
  obtain rfl : fn = Tryz.f12 := (Option.some.inj (Tryz.func12.symm.trans hfn)).symm
  refine ⟨by kernel_rfl, fun j t ht => ?_⟩
  rw [Tryz.params12] at ht
  obtain rfl | rfl | rfl : t = 3 ∨ t = 9 ∨ t = 45 := by simpa using Array.mem_of_getElem? ht
  · exact (show Tryz.prog.wantsStandIn 3 = false by kernel_rfl)
  · exact (show Tryz.prog.wantsStandIn 9 = false by kernel_rfl)
  · exact (show Tryz.prog.wantsStandIn 45 = false by kernel_rfl)
theorem calls_card : Rows.PlayCallsCardSaid :=
  Claim7.holds_tied_plain_at .later [] _ _ _ _ calls_said (fun _ h => by cases h) (by kernel_rfl) (fun _ h => by cases h) playCalls_row_tie rfl ⟨rfl, rfl⟩ (by kernel_rfl) rfl calls_plain (by kernel_rfl)
#print axioms calls_card
end Go.Proofs.YthnhfddlmkhgkaaGreatDoor

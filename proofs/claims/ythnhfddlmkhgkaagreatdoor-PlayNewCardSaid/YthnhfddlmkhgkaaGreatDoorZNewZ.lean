/- PlayNew: for every row of texts it returns true, and they read behind the call as before. The listed package-level variables hold what the row lists. -/
import Derived.Test.YthnhfddlmkhgkaaGreatDoorZEnvN
import Derived.Test.YthnhfddlmkhgkaaGreatDoorZOpenP
import Derived.Test.YthnhfddlmkhgkaaGreatDoorZNewY
set_option linter.unusedVariables false
namespace Go.Proofs.YthnhfddlmkhgkaaGreatDoor
open Go.ChangeShapes Go.WideShapes Go.ChangeAt Go.WideMaps Go.WideElems Go.RowKit Go.Proofs.YthnhfddlmkhgkaaGreatDoorW.PrintWords

section
variable {H : Type} {enc : TypeId × Value → H} {W : World} {fuel : Nat} {cs : List Value} {x : DataW H × List MemPlace}
theorem open_textsN (h : DataW.trod enc Tryz.prog W 0 (fun _ => true) true fuel 61 cs = some x) :
    ∃ (A : Option Addr) (c : Nat) (l : List Sp.Bs), cs = [.slice A l.length c] ∧ l.length ≤ c ∧ c ≤ maxLen ∧ ReadS W A l := by
  obtain ⟨A, c, l, rfl, h1, h2, h3, _, h4⟩ := open_slice (α := ByteArray) Tryz.underlying61 cells9 (fun b cs => cs = [.string b]) (fun _ => True) (fun m cs x hx _ => by
    obtain ⟨s, c, _, _⟩ := DataW.trod_string Tryz.underlying9 hx
    exact ⟨s, c, trivial⟩) h (Nat.le_refl _)
  have hm : maxLen ≤ 9223372036854775807 := by decide
  have e : (l.map bl).map str = l := by
    rw [List.map_map]
    conv => rhs; rw [← List.map_id l]
    exact List.map_congr_left fun s _ => str_bl s
  have hr : Kd.string.C W A l.length l := ⟨rfl, by omega, h4⟩
  refine ⟨A, c, l.map bl, by rw [List.length_map], by rw [List.length_map]; exact h1, h2, ?_⟩
  show Kd.string.C W A (l.map bl).length ((l.map bl).map str)
  rw [e, List.length_map]
  exact hr
set_option maxRecDepth 100000 in
theorem open_textsV {v : Value} {d : DataW H} {ps : List MemPlace} {base : Nat} (hval : Value.okWide Tryz.prog W .any base 61 v) (h : DataW.Trod enc Tryz.prog W 0 (fun _ => true) true 61 v d ps) :
    ∃ (A : Option Addr) (c : Nat) (l : List Sp.Bs), v = .slice A l.length c ∧ l.length ≤ c ∧ c ≤ maxLen ∧ ReadS W A l := by
  obtain ⟨n, hn⟩ := h
  obtain ⟨A, c, l, e, h1, h2, h3⟩ := open_textsN hn
  have hc : v.cells.toList = [v] := by
    obtain ⟨a, n, c, rfl, _⟩ := okWide_slice Tryz.underlying61 hval
    rfl
  rw [hc] at e
  injection e with e _
  exact ⟨A, c, l, e, h1, h2, h3⟩
end
set_option maxRecDepth 100000 in
theorem new_contract (H : Type) (enc : TypeId × Value → H) (W : World) (base : Nat) (args : Array Value) (ds gs : List (DataW H)) (before : List MemPlace)
    (hval : ∀ (j : Nat) t v, Tryz.f11.params[j]? = some t → args[j]? = some v → Value.okWide Tryz.prog W .any base t v)
    (hW : DataW.Whole enc Tryz.prog Tryz.f11.params.toList Rows.playNewSpec.vars false W args.toList ds gs before)
    (hz : (DataW.weightsEach Tryz.prog (Tryz.f11.params.toList ++ (OpenSpec.ofChange Rows.playNewSpec).bare.plain.varTypes Tryz.prog) (ds ++ gs)).all (· ≤ reachBytes) = true)
    (hL : laidMetH Tryz.prog Rows.playNewRow.laid W) (hS : W.ShapedOpen Tryz.prog) :
    Calls Tryz.prog 11 args W fun e W' => ∃ v, e = .returned v ∧ Rows.playNewSpec.post enc Tryz.prog Tryz.f11 false true false false W args v W' := by
  have hW' := hW
  obtain ⟨p, q, hA0, hV, rfl, hfz, hnd⟩ := hW
  have hA : DataW.TrodAll enc Tryz.prog W 0 (fun _ => true) true Tryz.f11.params.toList args.toList ds p := hA0
  rw [Tryz.params11] at hA hval hz
  obtain ⟨v0, d0, rfl, rfl, h0⟩ := trodAll_one hA
  obtain ⟨rfl, rfl⟩ := trodVars_none hV
  obtain ⟨A, c, l, rfl, _, _, hr⟩ := open_textsV (hval 0 61 v0 rfl rfl) h0
  have hc := new_any A c l W (env9 hL hS) hr
  refine hc.mono fun e W' ⟨h1, hb⟩ => ⟨_, h1, ?_⟩
  exact post_law rfl rfl rfl (fun t ht => by
    rw [Tryz.params11] at ht
    obtain rfl : t = 61 := by simpa using ht
    exact ⟨by kernel_rfl, of_decide_eq_true (by kernel_rfl)⟩) hW' hb
theorem new_reads (os : Os) {H : Type} (enc : TypeId × Value → H) : ∃ places, DataW.whole enc Tryz.prog ((startWorld os).forCall (fun _ _ => 0) ⟨#[], #[.slice none 0 0], []⟩).memory Tryz.f11.params.toList Rows.playNewSpec.vars false #[Value.slice none 0 0].toList 8 = some ([.nil], [], places) :=
  ⟨[], by kernel_rfl⟩
set_option maxRecDepth 100000 in
theorem new_lifted (os : Os) (started : os.Started) (H : Type) (enc : TypeId × Value → H) (F : Stop.Interp) :
    ReturnsInHanded {} Tryz.checked os 11 .any ((OpenSpec.ofChange Rows.playNewSpec).preRow enc Tryz.prog Tryz.f11 Rows.playNewRow.domain false Rows.playNewRow.laid) (((OpenSpec.ofChange Rows.playNewSpec).at F).post enc Tryz.prog Tryz.f11 false true false false) := by
  obtain ⟨places, hx⟩ := new_reads os enc
  refine returnsInHanded_of_row (C := Tryz.checked) (s := OpenSpec.ofChange Rows.playNewSpec) own started (by kernel_rfl) Tryz.func11
    (witness_row_atRef (enc := enc) (C := Tryz.checked) false (startWorld os) #[.slice none 0 0] rfl (startRef os _) (startRest os _) (by kernel_rfl)
      (OpenSpec.preRow_of_cond 8 hx (by kernel_rfl) (fun k hk => by cases hk) (by kernel_rfl) (start9H os _))) ?_
  intro W base args ds gs before hval hW _ _ hz hL hS _
  exact new_contract H enc W base args ds gs before hval hW hz hL hS
theorem new_said : Rows.PlayNewSaid :=
  OpenClaim.holds_of_cond 11 Tryz.f11 rfl rfl rfl rfl rfl rfl rfl ⟨rfl, rfl, rfl, rfl, rfl⟩ rfl rfl rfl rfl rfl (by kernel_rfl) Tryz.func11 (by kernel_rfl)
    (of_decide_eq_true (by kernel_rfl)) (by unfold Func.isWrapper; first | (rw [if_pos (by decide +kernel)]; kernel_rfl) | (rw [if_neg (by decide +kernel)]; exact ⟨rfl, rfl⟩))
    (fun os started H enc _ F => by rw [OpenClaim.pre_eq_preRow]; exact new_lifted os started H enc F)
theorem new_plain (f : FuncId) (fn : Func) (hf : Tryz.pinned.checked.prog.funcNamed "annex/annexlaw21.PlayNew" = some f) (hfn : Tryz.pinned.checked.prog.funcs[f]? = some fn) :
    true = Tryz.pinned.checked.prog.looks [] ∧ ∀ (j : Nat) t, fn.params[j]? = some t → Tryz.pinned.checked.prog.wantsStandIn t = false := by
  obtain rfl : f = 11 := Option.some.inj ((show Tryz.prog.funcNamed "annex/annexlaw21.PlayNew" = some 11 by kernel_rfl).symm.trans hf) |>.symm
  obtain rfl : fn = Tryz.f11 := (Option.some.inj (Tryz.func11.symm.trans hfn)).symm
  refine ⟨by kernel_rfl, fun j t ht => ?_⟩
  rw [Tryz.params11] at ht
  obtain rfl : t = 61 := by simpa using Array.mem_of_getElem? ht
  exact (show Tryz.prog.wantsStandIn 61 = false by kernel_rfl)
theorem new_card : Rows.PlayNewCardSaid :=
  Claim7.holds_tied_plain_at .later [] _ _ _ _ new_said (fun _ h => by cases h) (by kernel_rfl) (fun _ h => by cases h) playNew_row_tie rfl ⟨rfl, rfl⟩ (by kernel_rfl) rfl new_plain (by kernel_rfl)
#print axioms new_card
end Go.Proofs.YthnhfddlmkhgkaaGreatDoor

/- The law ShowRules holds: whatever its input, the call returns true and leaves what it was given as it was, the listed variables holding what their initialisers lay. No condition. -/
import Derived.Test.YtdfjjimmnbijmaaDoorCards
import Derived.Test.YtdfjjimmnbijmaaDoorTie
import Derived.Test.YtdfjjimmnbijmaaDoorLaid
import Derived.Test.YtdfjjimmnbijmaaDoorSRv
import Derived.WalkKit
import Derived.ProofKit
import Derived.OpenShut
import Derived.ShutString
import Derived.ChangeOld
import Derived.Below
import Derived.SizedLaws
import Derived.Deep.DeepHandedRow
import Derived.Deep.DeepWitnessRowRef
import Derived.Lib.LaidTab
namespace Go.Proofs.YtdfjjimmnbijmaaDoor.showRules
open Go.ChangeShapes Go.WideShapes Go.ChangeAt Go.RowKit
open Go.ChangeMaps (open_string shut_string)
set_option linter.unusedVariables false
theorem own : ownKnob Tryd.prog.godebug = none := by kernel_rfl
theorem laidOut : laidOutB Tryd.prog = true := by kernel_rfl
open Go.Proofs.YtdfjjimmnbijmaaDoorW.PrintWords
set_option maxRecDepth 100000 in
theorem contract (H : Type) (enc : TypeId × Value → H) (W : World) (base : Nat) (args : Array Value) (ds gs : List (DataW H)) (before : List MemPlace)
    (hval0 : ∀ (j : Nat) t v, Tryd.f12.params[j]? = some t → args[j]? = some v → Value.okWide Tryd.prog W .any base t v)
    (hW : DataW.Whole enc Tryd.prog Tryd.f12.params.toList Rows.showRulesSpec.vars false W args.toList ds gs before) (hk_ : Rows.uptoSmall H (ds ++ gs) = true) (hL : laidMetH Tryd.prog Rows.showRulesUptoRow.laid W) :
    Calls Tryd.prog 12 args W fun e W' => ∃ v, e = .returned v ∧ Rows.showRulesSpec.post enc Tryd.prog Tryd.f12 false true false false W args v W' := by
  have hLd : Base.LaidAt W := Laid.laidAt hL
  have hval : ∀ (j : Nat) t v, Tryd.f12.params[j]? = some t → args[j]? = some v → Value.okWide Tryd.prog W .any base t v := hval0
  have hW' := hW
  obtain ⟨p, q, hA0, hV, rfl, hfz, hnd⟩ := hW
  have hA : DataW.TrodAll enc Tryd.prog W 0 (fun _ => true) true Tryd.f12.params.toList args.toList ds p := hA0
  rw [Tryd.params12] at hA hval
  obtain ⟨v0, vs0, d0, ds0, p0, q0, hargs, rfl, rfl, h0, r0⟩ := trodAll_cons hA
  obtain ⟨rfl, rfl, rfl⟩ := trodAll_nil r0
  obtain rfl : args = #[v0] := by cases args; simp_all
  obtain ⟨rfl, rfl⟩ := trodVars_none hV
  have k0 := h0
  have lt0 : ∀ x ∈ p0, x.block < W.heap.size := by obtain ⟨m, hm⟩ := k0; exact DataW.trod_lt m _ _ _ hm
  obtain ⟨pa0, pd0, pn0, rs0, A0, cc0, rfl, na0, nb0, dt0, C0, cp0⟩ := SR.open_policy (hval 0 41 v0 rfl rfl) h0
  have hbk_ := of_decide_eq_true hk_
  simp only [List.append_nil, Rows.uptoBulkAll] at hbk_
  have hb0 : Rows.uptoBulk d0 ≤ 1048576 := by omega
  clear hA0 hval0
  refine (SR.rules_law pa0 pd0 pn0 rs0 na0 nb0 (fun r hr => ⟨(dt0 r hr).1.1, (dt0 r hr).1.2.1, (dt0 r hr).1.2.2, by have := (dt0 r hr).2; omega⟩) A0 cc0 W C0 cp0 hLd).mono fun e W' ⟨he, bel⟩ => ?_
  subst he
  exact ⟨_, rfl, _, _, _, [], _, [], hW', trodAll_mk1 (shut_bool Tryd.underlying4 _), (trodAll_cons_mk (Below.trod laidOut (by kernel_rfl) (of_decide_eq_true (by kernel_rfl)) k0 bel lt0) trodAll_mk0), rfl, bel.frame _, fun h => by cases h⟩
theorem reads (os : Os) {H : Type} (enc : TypeId × Value → H) : ∃ places, DataW.whole enc Tryd.prog (Laid.laidMem os #[.agg #[.string ByteArray.empty, .string ByteArray.empty, .int .u64 0, .slice none 0 0]]) Tryd.f12.params.toList Rows.showRulesSpec.vars false #[.agg #[.string ByteArray.empty, .string ByteArray.empty, .int .u64 0, .slice none 0 0]].toList 8 = some ([.agg [.lit (.string []), .lit (.string []), .lit (.int .u64 0), .nil]], [], places) :=
  ⟨[], by kernel_rfl⟩
set_option maxRecDepth 100000 in
theorem lifted (os : Os) (started : os.Started) (H : Type) (enc : TypeId × Value → H) (F : Stop.Interp) :
    ReturnsInHanded {} Tryd.checked os 12 .any ((Rows.OpenSpec.upto Rows.showRulesSpec).preRow enc Tryd.prog Tryd.f12 Rows.showRulesUptoRow.domain false Rows.showRulesUptoRow.laid) (((Rows.OpenSpec.upto Rows.showRulesSpec).at F).post enc Tryd.prog Tryd.f12 false true false false) := by
  obtain ⟨places, hx⟩ := reads os enc
  refine returnsInHanded_of_row (C := Tryd.checked) (s := Rows.OpenSpec.upto Rows.showRulesSpec) own started (by kernel_rfl) Tryd.func12
    (witness_row_atRef (enc := enc) (C := Tryd.checked) false (Laid.laidWorld os) #[.agg #[.string ByteArray.empty, .string ByteArray.empty, .int .u64 0, .slice none 0 0]] rfl (by kernel_rfl) (by kernel_rfl) (by kernel_rfl)
      (OpenSpec.preRow_of_cond 8 hx (by kernel_rfl) (fun k hk => by cases hk; kernel_rfl) (by kernel_rfl) (Laid.laid_met os _))) ?_
  intro W base args ds gs before hval hW _ hcond _ hL _ _
  exact contract H enc W base args ds gs before hval hW (hcond _ rfl) hL
theorem said : Rows.ShowRulesUptoSaid :=
  OpenClaim.holds_of_cond 12 Tryd.f12 rfl rfl rfl rfl rfl rfl rfl ⟨rfl, rfl, rfl, rfl, rfl⟩ rfl rfl rfl rfl rfl (by kernel_rfl) Tryd.func12 (by kernel_rfl)
    (of_decide_eq_true (by kernel_rfl)) (by unfold Func.isWrapper; first | (rw [if_pos (by decide +kernel)]; kernel_rfl) | (rw [if_neg (by decide +kernel)]; exact ⟨rfl, rfl⟩))
    (fun os started H enc _ F => by rw [OpenClaim.pre_eq_preRow]; exact lifted os started H enc F)
theorem plain (f : FuncId) (fn : Func) (hf : Tryd.pinned.checked.prog.funcNamed "doorward/doorwardlaw17.ShowRules" = some f) (hfn : Tryd.pinned.checked.prog.funcs[f]? = some fn) :
    true = Tryd.pinned.checked.prog.looks [] ∧ ∀ (j : Nat) t, fn.params[j]? = some t → Tryd.pinned.checked.prog.wantsStandIn t = false := by
  obtain rfl : f = 12 := Option.some.inj ((show Tryd.prog.funcNamed "doorward/doorwardlaw17.ShowRules" = some 12 by kernel_rfl).symm.trans hf) |>.symm
  obtain rfl : fn = Tryd.f12 := (Option.some.inj (Tryd.func12.symm.trans hfn)).symm
  refine ⟨by kernel_rfl, fun j t ht => ?_⟩
  rw [Tryd.params12] at ht
  have hm := Array.mem_of_getElem? ht
  have hall : ∀ t ∈ [41], Tryd.prog.wantsStandIn t = false := by decide +kernel
  exact hall t (by simpa using hm)
theorem card : Rows.ShowRulesUptoCardSaid :=
  Claim7.holds_tied_plain_at .later [] _ _ _ _ said (fun _ h => by cases h) (by kernel_rfl) (fun _ h => by cases h) showRulesUpto_row_tie rfl ⟨rfl, rfl⟩ (by kernel_rfl) rfl plain (by kernel_rfl)
end Go.Proofs.YtdfjjimmnbijmaaDoor.showRules
namespace Go.Proofs.YtdfjjimmnbijmaaDoor
/-- The card, under a short name, for the claim. -/
theorem showRules_holds : Rows.ShowRulesUptoCardSaid := showRules.card
#print axioms showRules_holds
end Go.Proofs.YtdfjjimmnbijmaaDoor

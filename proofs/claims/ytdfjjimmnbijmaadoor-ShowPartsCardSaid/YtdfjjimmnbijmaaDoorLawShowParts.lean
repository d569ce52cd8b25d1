/- The law ShowParts holds: whatever its input, the call returns true and leaves what it was given as it was, the listed variables holding what their initialisers lay. No condition. -/
import Derived.Test.YtdfjjimmnbijmaaDoorCards
import Derived.Test.YtdfjjimmnbijmaaDoorTie
import Derived.Test.YtdfjjimmnbijmaaDoorLaid
import Derived.Test.YtdfjjimmnbijmaaDoorSQo
import Derived.WalkKit
import Derived.ProofKit
import Derived.OpenShut
import Derived.ShutString
import Derived.ChangeOld
import Derived.Below
import Derived.SizedLaws
import Derived.Deep.DeepHandedRow
import Derived.Deep.DeepWitnessRowRef
import Derived.Lib.LaidTab
namespace Go.Proofs.YtdfjjimmnbijmaaDoor.showParts
open Go.ChangeShapes Go.WideShapes Go.ChangeAt Go.RowKit
open Go.ChangeMaps (open_string shut_string)
set_option linter.unusedVariables false
theorem own : ownKnob Tryd.prog.godebug = none := by kernel_rfl
theorem laidOut : laidOutB Tryd.prog = true := by kernel_rfl
open Go.Proofs.YtdfjjimmnbijmaaDoorW.PrintWords
set_option maxRecDepth 100000 in
theorem contract (H : Type) (enc : TypeId × Value → H) (W : World) (base : Nat) (args : Array Value) (ds gs : List (DataW H)) (before : List MemPlace)
    (hval0 : ∀ (j : Nat) t v, Tryd.f11.params[j]? = some t → args[j]? = some v → Value.okWide Tryd.prog W .any base t v)
    (hW : DataW.Whole enc Tryd.prog Tryd.f11.params.toList Rows.showPartsSpec.vars false W args.toList ds gs before) (hL : laidMetH Tryd.prog Rows.showPartsRow.laid W) :
    Calls Tryd.prog 11 args W fun e W' => ∃ v, e = .returned v ∧ Rows.showPartsSpec.post enc Tryd.prog Tryd.f11 false true false false W args v W' := by
  have hLd : Base.LaidAt W := Laid.laidAt hL
  have hval : ∀ (j : Nat) t v, Tryd.f11.params[j]? = some t → args[j]? = some v → Value.okWide Tryd.prog W .any base t v := hval0
  have hW' := hW
  obtain ⟨p, q, hA0, hV, rfl, hfz, hnd⟩ := hW
  have hA : DataW.TrodAll enc Tryd.prog W 0 (fun _ => true) true Tryd.f11.params.toList args.toList ds p := hA0
  rw [Tryd.params11] at hA hval
  obtain ⟨v0, vs0, d0, ds0, p0, q0, hargs, rfl, rfl, h0, r0⟩ := trodAll_cons hA
  obtain ⟨v1, vs1, d1, ds1, p1, q1, rfl, rfl, rfl, h1, r1⟩ := trodAll_cons r0
  obtain ⟨rfl, rfl, rfl⟩ := trodAll_nil r1
  obtain rfl : args = #[v0, v1] := by cases args; simp_all
  obtain ⟨rfl, rfl⟩ := trodVars_none hV
  have k0 := h0
  have lt0 : ∀ x ∈ p0, x.block < W.heap.size := by obtain ⟨m, hm⟩ := k0; exact DataW.trod_lt m _ _ _ hm
  obtain ⟨c0, A0, cc0, rfl, rg0, C0, cp0⟩ := SQ.open_cond (hval 0 47 v0 rfl rfl) h0
  have k1 := h1
  have lt1 : ∀ x ∈ p1, x.block < W.heap.size := by obtain ⟨m, hm⟩ := k1; exact DataW.trod_lt m _ _ _ hm
  obtain ⟨c1, A1, cc1, rfl, rg1, C1, cp1⟩ := SQ.open_cond (hval 1 47 v1 rfl rfl) h1
  clear hA0 hval0
  refine (SQ.parts_any c0 c1 rg0 rg1 A0 A1 cc0 cc1 W C0 cp0 C1 cp1 hLd).mono fun e W' ⟨he, bel⟩ => ?_
  subst he
  exact ⟨_, rfl, _, _, _, [], _, [], hW', trodAll_mk1 (shut_bool Tryd.underlying4 _), (trodAll_cons_mk (Below.trod laidOut (by kernel_rfl) (of_decide_eq_true (by kernel_rfl)) k0 bel lt0) (trodAll_cons_mk (Below.trod laidOut (by kernel_rfl) (of_decide_eq_true (by kernel_rfl)) k1 bel lt1) trodAll_mk0)), rfl, bel.frame _, fun h => by cases h⟩
theorem reads (os : Os) {H : Type} (enc : TypeId × Value → H) : ∃ places, DataW.whole enc Tryd.prog (Laid.laidMem os #[.agg #[.int .i64 0, .slice none 0 0, .int .i64 0, .int .u64 0, .string ByteArray.empty, .int .u64 0], .agg #[.int .i64 0, .slice none 0 0, .int .i64 0, .int .u64 0, .string ByteArray.empty, .int .u64 0]]) Tryd.f11.params.toList Rows.showPartsSpec.vars false #[.agg #[.int .i64 0, .slice none 0 0, .int .i64 0, .int .u64 0, .string ByteArray.empty, .int .u64 0], .agg #[.int .i64 0, .slice none 0 0, .int .i64 0, .int .u64 0, .string ByteArray.empty, .int .u64 0]].toList 8 = some ([.agg [.lit (.int .i64 0), .nil, .lit (.int .i64 0), .lit (.int .u64 0), .lit (.string []), .lit (.int .u64 0)], .agg [.lit (.int .i64 0), .nil, .lit (.int .i64 0), .lit (.int .u64 0), .lit (.string []), .lit (.int .u64 0)]], [], places) :=
  ⟨[], by kernel_rfl⟩
set_option maxRecDepth 100000 in
theorem lifted (os : Os) (started : os.Started) (H : Type) (enc : TypeId × Value → H) (F : Stop.Interp) :
    ReturnsInHanded {} Tryd.checked os 11 .any ((OpenSpec.ofChange Rows.showPartsSpec).preRow enc Tryd.prog Tryd.f11 Rows.showPartsRow.domain false Rows.showPartsRow.laid) (((OpenSpec.ofChange Rows.showPartsSpec).at F).post enc Tryd.prog Tryd.f11 false true false false) := by
  obtain ⟨places, hx⟩ := reads os enc
  refine returnsInHanded_of_row (C := Tryd.checked) (s := OpenSpec.ofChange Rows.showPartsSpec) own started (by kernel_rfl) Tryd.func11
    (witness_row_atRef (enc := enc) (C := Tryd.checked) false (Laid.laidWorld os) #[.agg #[.int .i64 0, .slice none 0 0, .int .i64 0, .int .u64 0, .string ByteArray.empty, .int .u64 0], .agg #[.int .i64 0, .slice none 0 0, .int .i64 0, .int .u64 0, .string ByteArray.empty, .int .u64 0]] rfl (by kernel_rfl) (by kernel_rfl) (by kernel_rfl)
      (OpenSpec.preRow_of_cond 8 hx (by kernel_rfl) (fun k hk => by cases hk) (by kernel_rfl) (Laid.laid_met os _))) ?_
  intro W base args ds gs before hval hW _ _ _ hL _ _
  exact contract H enc W base args ds gs before hval hW hL
theorem said : Rows.ShowPartsSaid :=
  OpenClaim.holds_of_cond 11 Tryd.f11 rfl rfl rfl rfl rfl rfl rfl ⟨rfl, rfl, rfl, rfl, rfl⟩ rfl rfl rfl rfl rfl (by kernel_rfl) Tryd.func11 (by kernel_rfl)
    (of_decide_eq_true (by kernel_rfl)) (by unfold Func.isWrapper; first | (rw [if_pos (by decide +kernel)]; kernel_rfl) | (rw [if_neg (by decide +kernel)]; exact ⟨rfl, rfl⟩))
    (fun os started H enc _ F => by rw [OpenClaim.pre_eq_preRow]; exact lifted os started H enc F)
theorem plain (f : FuncId) (fn : Func) (hf : Tryd.pinned.checked.prog.funcNamed "doorward/doorwardlaw17.ShowParts" = some f) (hfn : Tryd.pinned.checked.prog.funcs[f]? = some fn) :
    true = Tryd.pinned.checked.prog.looks [] ∧ ∀ (j : Nat) t, fn.params[j]? = some t → Tryd.pinned.checked.prog.wantsStandIn t = false := by
  obtain rfl : f = 11 := Option.some.inj ((show Tryd.prog.funcNamed "doorward/doorwardlaw17.ShowParts" = some 11 by kernel_rfl).symm.trans hf) |>.symm
  obtain rfl : fn = Tryd.f11 := (Option.some.inj (Tryd.func11.symm.trans hfn)).symm
  refine ⟨by kernel_rfl, fun j t ht => ?_⟩
  rw [Tryd.params11] at ht
  have hm := Array.mem_of_getElem? ht
  have hall : ∀ t ∈ [47], Tryd.prog.wantsStandIn t = false := by decide +kernel
  exact hall t (by simp at hm; simp; first | exact hm | omega | (rcases hm with h | h | h <;> simp [h]))
theorem card : Rows.ShowPartsCardSaid :=
  Claim7.holds_tied_plain_at .later [] _ _ _ _ said (fun _ h => by cases h) (by kernel_rfl) (fun _ h => by cases h) showParts_row_tie rfl ⟨rfl, rfl⟩ (by kernel_rfl) rfl plain (by kernel_rfl)
end Go.Proofs.YtdfjjimmnbijmaaDoor.showParts
namespace Go.Proofs.YtdfjjimmnbijmaaDoor
/-- The card, under a short name, for the claim. -/
theorem showParts_holds : Rows.ShowPartsCardSaid := showParts.card
#print axioms showParts_holds
end Go.Proofs.YtdfjjimmnbijmaaDoor

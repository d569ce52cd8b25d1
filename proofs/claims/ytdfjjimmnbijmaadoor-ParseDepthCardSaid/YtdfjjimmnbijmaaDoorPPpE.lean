import Derived.Test.YtdfjjimmnbijmaaDoorPPq
import Derived.Test.YtdfjjimmnbijmaaDoorPPpX
namespace Go.Proofs.YtdfjjimmnbijmaaDoor.PP
open Go.RowKit Go.Proofs.YtdfjjimmnbijmaaDoorW.PrintWords Go.Proofs.YtdfjjimmnbijmaaDoorW.PrintLast Go.Proofs.YtdfjjimmnbijmaaDoorW.PrintMore Go.Proofs.YtdfjjimmnbijmaaDoor.Base
attribute [local go_sem] max2_int min2_int max_two min_two max_three min_three max_four min_four
set_option linter.unusedVariables false
set_option linter.unusedSimpArgs false
/-! ### the law of the depth: what is asked is one of forty-two calls -/
theorem depth_at {a0 : Int} {n : Nat} (h : mn (mx a0 0) 20 = (n : Int)) (hn : n ≤ 20) (k : Nat) (b : Bool) : doorwardlaw15_ParseDepth.f k a0 b = doorwardlaw15_ParseDepth.f k (n : Int) b := by
  have e : mn (mx (n : Int) 0) 20 = (n : Int) := by unfold mn mx; split <;> (try split) <;> omega
  unfold doorwardlaw15_ParseDepth.f
  rw [h, e]
theorem depth_0_true (k : Nat) : doorwardlaw15_ParseDepth.f (k + 1) ((0 : Nat) : Int) true = some true := by kernel_rfl
theorem depth_0_false (k : Nat) : doorwardlaw15_ParseDepth.f (k + 1) ((0 : Nat) : Int) false = some true := by kernel_rfl
theorem depth_1_true (k : Nat) : doorwardlaw15_ParseDepth.f (k + 1) ((1 : Nat) : Int) true = some true := by kernel_rfl
theorem depth_1_false (k : Nat) : doorwardlaw15_ParseDepth.f (k + 1) ((1 : Nat) : Int) false = some true := by kernel_rfl
theorem depth_2_true (k : Nat) : doorwardlaw15_ParseDepth.f (k + 1) ((2 : Nat) : Int) true = some true := by kernel_rfl
theorem depth_2_false (k : Nat) : doorwardlaw15_ParseDepth.f (k + 1) ((2 : Nat) : Int) false = some true := by kernel_rfl
theorem depth_3_true (k : Nat) : doorwardlaw15_ParseDepth.f (k + 1) ((3 : Nat) : Int) true = some true := by kernel_rfl
theorem depth_3_false (k : Nat) : doorwardlaw15_ParseDepth.f (k + 1) ((3 : Nat) : Int) false = some true := by kernel_rfl
theorem depth_4_true (k : Nat) : doorwardlaw15_ParseDepth.f (k + 1) ((4 : Nat) : Int) true = some true := by kernel_rfl
theorem depth_4_false (k : Nat) : doorwardlaw15_ParseDepth.f (k + 1) ((4 : Nat) : Int) false = some true := by kernel_rfl
theorem depth_5_true (k : Nat) : doorwardlaw15_ParseDepth.f (k + 1) ((5 : Nat) : Int) true = some true := by kernel_rfl
theorem depth_5_false (k : Nat) : doorwardlaw15_ParseDepth.f (k + 1) ((5 : Nat) : Int) false = some true := by kernel_rfl
theorem depth_6_true (k : Nat) : doorwardlaw15_ParseDepth.f (k + 1) ((6 : Nat) : Int) true = some true := by kernel_rfl
theorem depth_6_false (k : Nat) : doorwardlaw15_ParseDepth.f (k + 1) ((6 : Nat) : Int) false = some true := by kernel_rfl
theorem depth_7_true (k : Nat) : doorwardlaw15_ParseDepth.f (k + 1) ((7 : Nat) : Int) true = some true := by kernel_rfl
theorem depth_7_false (k : Nat) : doorwardlaw15_ParseDepth.f (k + 1) ((7 : Nat) : Int) false = some true := by kernel_rfl
theorem depth_8_true (k : Nat) : doorwardlaw15_ParseDepth.f (k + 1) ((8 : Nat) : Int) true = some true := by kernel_rfl
theorem depth_8_false (k : Nat) : doorwardlaw15_ParseDepth.f (k + 1) ((8 : Nat) : Int) false = some true := by kernel_rfl
theorem depth_9_true (k : Nat) : doorwardlaw15_ParseDepth.f (k + 1) ((9 : Nat) : Int) true = some true := by kernel_rfl
theorem depth_9_false (k : Nat) : doorwardlaw15_ParseDepth.f (k + 1) ((9 : Nat) : Int) false = some true := by kernel_rfl
theorem depth_10_true (k : Nat) : doorwardlaw15_ParseDepth.f (k + 1) ((10 : Nat) : Int) true = some true := by kernel_rfl
theorem depth_10_false (k : Nat) : doorwardlaw15_ParseDepth.f (k + 1) ((10 : Nat) : Int) false = some true := by kernel_rfl
theorem depth_11_true (k : Nat) : doorwardlaw15_ParseDepth.f (k + 1) ((11 : Nat) : Int) true = some true := by kernel_rfl
theorem depth_11_false (k : Nat) : doorwardlaw15_ParseDepth.f (k + 1) ((11 : Nat) : Int) false = some true := by kernel_rfl
theorem depth_12_true (k : Nat) : doorwardlaw15_ParseDepth.f (k + 1) ((12 : Nat) : Int) true = some true := by kernel_rfl
theorem depth_12_false (k : Nat) : doorwardlaw15_ParseDepth.f (k + 1) ((12 : Nat) : Int) false = some true := by kernel_rfl
theorem depth_13_true (k : Nat) : doorwardlaw15_ParseDepth.f (k + 1) ((13 : Nat) : Int) true = some true := by kernel_rfl
theorem depth_13_false (k : Nat) : doorwardlaw15_ParseDepth.f (k + 1) ((13 : Nat) : Int) false = some true := by kernel_rfl
theorem depth_14_true (k : Nat) : doorwardlaw15_ParseDepth.f (k + 1) ((14 : Nat) : Int) true = some true := by kernel_rfl
theorem depth_14_false (k : Nat) : doorwardlaw15_ParseDepth.f (k + 1) ((14 : Nat) : Int) false = some true := by kernel_rfl
theorem depth_15_true (k : Nat) : doorwardlaw15_ParseDepth.f (k + 1) ((15 : Nat) : Int) true = some true := by kernel_rfl
theorem depth_15_false (k : Nat) : doorwardlaw15_ParseDepth.f (k + 1) ((15 : Nat) : Int) false = some true := by kernel_rfl
theorem depth_16_true (k : Nat) : doorwardlaw15_ParseDepth.f (k + 1) ((16 : Nat) : Int) true = some true := by kernel_rfl
theorem depth_16_false (k : Nat) : doorwardlaw15_ParseDepth.f (k + 1) ((16 : Nat) : Int) false = some true := by kernel_rfl
theorem depth_17_true (k : Nat) : doorwardlaw15_ParseDepth.f (k + 1) ((17 : Nat) : Int) true = some true := by kernel_rfl
theorem depth_17_false (k : Nat) : doorwardlaw15_ParseDepth.f (k + 1) ((17 : Nat) : Int) false = some true := by kernel_rfl
theorem depth_18_true (k : Nat) : doorwardlaw15_ParseDepth.f (k + 1) ((18 : Nat) : Int) true = some true := by kernel_rfl
theorem depth_18_false (k : Nat) : doorwardlaw15_ParseDepth.f (k + 1) ((18 : Nat) : Int) false = some true := by kernel_rfl
theorem depth_19_true (k : Nat) : doorwardlaw15_ParseDepth.f (k + 1) ((19 : Nat) : Int) true = some true := by kernel_rfl
theorem depth_19_false (k : Nat) : doorwardlaw15_ParseDepth.f (k + 1) ((19 : Nat) : Int) false = some true := by kernel_rfl
theorem depth_20_true (k : Nat) : doorwardlaw15_ParseDepth.f (k + 1) ((20 : Nat) : Int) true = some true := by kernel_rfl
theorem depth_20_false (k : Nat) : doorwardlaw15_ParseDepth.f (k + 1) ((20 : Nat) : Int) false = some true := by kernel_rfl
theorem depth_all (k : Nat) (b : Bool) : ∀ n : Nat, n ≤ 20 → doorwardlaw15_ParseDepth.f (k + 1) (n : Int) b = some true
  | 0, _ => by cases b; exact depth_0_false k; exact depth_0_true k
  | 1, _ => by cases b; exact depth_1_false k; exact depth_1_true k
  | 2, _ => by cases b; exact depth_2_false k; exact depth_2_true k
  | 3, _ => by cases b; exact depth_3_false k; exact depth_3_true k
  | 4, _ => by cases b; exact depth_4_false k; exact depth_4_true k
  | 5, _ => by cases b; exact depth_5_false k; exact depth_5_true k
  | 6, _ => by cases b; exact depth_6_false k; exact depth_6_true k
  | 7, _ => by cases b; exact depth_7_false k; exact depth_7_true k
  | 8, _ => by cases b; exact depth_8_false k; exact depth_8_true k
  | 9, _ => by cases b; exact depth_9_false k; exact depth_9_true k
  | 10, _ => by cases b; exact depth_10_false k; exact depth_10_true k
  | 11, _ => by cases b; exact depth_11_false k; exact depth_11_true k
  | 12, _ => by cases b; exact depth_12_false k; exact depth_12_true k
  | 13, _ => by cases b; exact depth_13_false k; exact depth_13_true k
  | 14, _ => by cases b; exact depth_14_false k; exact depth_14_true k
  | 15, _ => by cases b; exact depth_15_false k; exact depth_15_true k
  | 16, _ => by cases b; exact depth_16_false k; exact depth_16_true k
  | 17, _ => by cases b; exact depth_17_false k; exact depth_17_true k
  | 18, _ => by cases b; exact depth_18_false k; exact depth_18_true k
  | 19, _ => by cases b; exact depth_19_false k; exact depth_19_true k
  | 20, _ => by cases b; exact depth_20_false k; exact depth_20_true k
  | n + 21, h => absurd h (by omega)
theorem parseDepth_law (a0 : Int) (a1 : Bool) : Ev (fun k => doorwardlaw15_ParseDepth.f k a0 a1) true := by
  obtain ⟨n, h, hn⟩ : ∃ n : Nat, mn (mx a0 0) 20 = (n : Int) ∧ n ≤ 20 := by
    refine ⟨(mn (mx a0 0) 20).toNat, ?_, ?_⟩
    · unfold mn mx; split <;> (try split) <;> omega
    · unfold mn mx; split <;> (try split) <;> omega
  apply succ
  have e : (fun k => doorwardlaw15_ParseDepth.f (k + 1) a0 a1) = fun _ => some true := by
    funext k
    rw [depth_at h hn, depth_all k a1 n hn]
  rw [e]
  exact now rfl

end Go.Proofs.YtdfjjimmnbijmaaDoor.PP

-- Written for this claim by myprint.py over the kit's print (functions of this session supplied)
import Derived.Test.YtdfjjimmnbijmaaGreatDoorZQh
namespace Go.Proofs.YtdfjjimmnbijmaaGreatDoor.ZQ
open Go.RowKit Go.Proofs.YtdfjjimmnbijmaaGreatDoorW.PrintWords Go.Proofs.YtdfjjimmnbijmaaGreatDoorW.PrintLast Go.Proofs.YtdfjjimmnbijmaaGreatDoorW.PrintMore Go.Proofs.YtdfjjimmnbijmaaGreatDoor.Base
attribute [local go_sem] max2_int min2_int max_two min_two max_three min_three max_four min_four   -- for this text's walks alone
set_option linter.unusedVariables false
set_option linter.unusedSimpArgs false

/-! ### parse_Parse: function 15 -/
def parse_Parse.f (a0 : ByteArray) : Option (ByteArray × ByteArray × Int × (List (S47)) × Int × Int) := some (parseS a0)
theorem parse_Parse.calls (a0 : ByteArray) (r1 : ByteArray) (r2 : ByteArray) (r3 : Int) (r4 : List (S47)) (r5 : Int) (r6 : Int) (w : World) (hLd : LaidAt w) (h : parse_Parse.f a0 = some (r1, r2, r3, r4, r5, r6)) :
    Calls Tryz.prog 15 #[.string a0] w fun e w' => ∃ v3_ : Value, e = .returned (.tuple #[.agg #[.string r1, .string r2, .int .u64 r3, v3_], .int .i64 r5, .int .i64 r6]) ∧ Kd.R k47 47 w' w.heap.size (fun _ => True) v3_ r4 ∧ Below w.heap.size w w' := by
  have e := Option.some.inj h
  refine (parse_any a0 w hLd).mono fun e' w' h1 => ?_
  rw [e] at h1
  exact h1

end Go.Proofs.YtdfjjimmnbijmaaGreatDoor.ZQ

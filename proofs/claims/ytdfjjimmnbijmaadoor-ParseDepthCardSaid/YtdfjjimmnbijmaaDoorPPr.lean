-- Written for this claim by myprint.py over the kit's print (functions of this session supplied)
import Derived.Test.YtdfjjimmnbijmaaDoorPPn
namespace Go.Proofs.YtdfjjimmnbijmaaDoor.PP
open Go.RowKit Go.Proofs.YtdfjjimmnbijmaaDoorW.PrintWords Go.Proofs.YtdfjjimmnbijmaaDoorW.PrintLast Go.Proofs.YtdfjjimmnbijmaaDoorW.PrintMore Go.Proofs.YtdfjjimmnbijmaaDoor.Base
attribute [local go_sem] max2_int min2_int max_two min_two max_three min_three max_four min_four   -- for this text's walks alone
set_option linter.unusedVariables false
set_option linter.unusedSimpArgs false

/-! ### strings_Repeat: function 34 -/
def strings_Repeat.f (a0 : ByteArray) (a1 : Int) : Option (ByteArray) := if (0 ≤ a1 ∧ a1 ≤ 20) ∧ a0.size ≤ 1000 then some ⟨(Lib.repeatL a0.data.toList a1.toNat).toArray⟩ else none
theorem strings_Repeat.calls (a0 : ByteArray) (a1 : Int) (r : ByteArray) (w : World) (hLd : LaidAt w) (h : strings_Repeat.f a0 a1 = some r) :
    Calls Tryd.prog 34 #[.string a0, .int .i64 a1] w fun e w' => e = .returned (.string r) ∧ Below w.heap.size w w' := by
  unfold strings_Repeat.f at h
  split at h
  · rename_i hc
    obtain ⟨⟨h1, h2⟩, h3⟩ := hc
    obtain ⟨u, rfl⟩ : ∃ u : Nat, a1 = u := ⟨a1.toNat, by omega⟩
    rw [Int.toNat_natCast] at h
    have e := Option.some.inj h
    have hm : a0.size * u ≤ 1000 * 20 := Nat.mul_le_mul h3 (by omega)
    refine (Tryd.strings_Repeat a0 u w (by omega) (by omega)).mono fun e' w' h1 => ?_
    rw [e] at h1
    exact h1
  · cases h

end Go.Proofs.YtdfjjimmnbijmaaDoor.PP

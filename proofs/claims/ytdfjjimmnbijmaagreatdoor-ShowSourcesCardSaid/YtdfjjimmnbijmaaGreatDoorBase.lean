import Derived.Test.YtdfjjimmnbijmaaGreatDoorSh
import Derived.WalkSmall
import Derived.Below
import Derived.Deep.Draws
import Derived.Lib.LaidTab
namespace Go.Proofs.YtdfjjimmnbijmaaGreatDoor.Base
open Go.Shelf Go.RowKit Go.Lib
def deB64 : List Int := [0, 1, 56, 2, 57, 49, 28, 3, 61, 58, 42, 50, 38, 29, 17, 4, 62, 47, 59, 36, 45, 43, 51, 22, 53, 39, 33, 30, 24, 18, 12, 5, 63, 55, 48, 27, 60, 41, 37, 16, 46, 35, 44, 21, 52, 32, 23, 11, 54, 26, 40, 15, 34, 20, 31, 10, 25, 14, 19, 9, 13, 8, 7, 6]
/-- What the laws' listed variables hold, as far as the walks need it. -/
structure LaidAt (w : World) : Prop where
  cas : CaseVar (Tryz.lays159_ren.g 13) caseA w
  u8 : Lib.Utf8Tabs (Tryz.lays159_ren.g 3) (Tryz.lays159_ren.g 4) w
  pow : ∃ g, Tryz.prog.globalNamed "internal/strconv.uint64pow10" = some g ∧ g < w.heap.size ∧ Lib.TabIs Tryz.prog w "internal/strconv.uint64pow10" .u64 Lib.pow10Tab
  db : ∃ g, Tryz.prog.globalNamed "math/bits.deBruijn64tab" = some g ∧ g < w.heap.size ∧ Lib.TabIs Tryz.prog w "math/bits.deBruijn64tab" .u8 deB64
  rng : ∃ g tp p, Tryz.prog.globalNamed "strconv.ErrRange" = some g ∧ g < w.heap.size ∧ w.var? Tryz.prog "strconv.ErrRange" = some #[.iface tp p]
theorem LaidAt.of {w w1 : World} (h : LaidAt w) (hb : Below w.heap.size w w1) : LaidAt w1 := by
  obtain ⟨h1, h2, ⟨g, h3, h4, h5⟩, ⟨g2, d3, d4, d5⟩, ⟨g', tp, p, h6, h7, h8⟩⟩ := h
  exact ⟨CaseVar_below h1 hb, Utf8Tabs_below h2 hb, ⟨g, h3, Nat.lt_of_lt_of_le h4 hb.size, var?_below hb h3 h4 h5⟩, ⟨g2, d3, Nat.lt_of_lt_of_le d4 hb.size, var?_below hb d3 d4 d5⟩, ⟨g', tp, p, h6, Nat.lt_of_lt_of_le h7 hb.size, var?_below hb h6 h7 h8⟩⟩
theorem LaidAt.drewN {w : World} {n : Nat} (h : LaidAt w) : LaidAt (w.drewN n) := h.of ⟨rfl, rfl, rfl, Nat.le_refl _, fun _ _ => rfl⟩
theorem LaidAt.drew {w : World} (h : LaidAt w) : LaidAt w.drew := h.of ((Below.refl _ _).drew)
theorem LaidAt.alloc {w : World} {o : Obj} (h : LaidAt w) : LaidAt (w.alloc o) := h.of ((Below.refl _ _).alloc (Nat.le_refl _) o)

end Go.Proofs.YtdfjjimmnbijmaaGreatDoor.Base

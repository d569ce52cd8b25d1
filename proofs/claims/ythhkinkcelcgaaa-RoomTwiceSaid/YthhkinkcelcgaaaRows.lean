/-
  No cell of these rows narrows 'for every input' (looked for: loops, veiled, ifaces, maps, wideKeys, modest, calm, conditions, laid).
  DERIVED. THE GIVEN ROWS OF THIS SEAT. 5 by the template 'for every input the law returns true; each argument reads behind the call as it read before'; 0 by the template 'total and deterministic' (their statements: YthhkinkcelcgaaaTotals.lean).
  GIVEN WITH THE SEED: the statements are not yours to turn. If you find one false, say at which input.
  Laid BY PROGRAM, IN A SANDBOX (cutbox-rows.mjs): the forced cells as the released guide's own fill.sh prints them over the translation 94c53f855371ea4c… (all of the seat's roots in one cut). By AI agents, Wed Nov 11 2026. No macro, syntax, notation, axiom, sorry.
-/
import Derived.Test.YthhkinkcelcgaaaChecked
import GoSem.Claim
import GoSem.ClaimJoined
import GoSem.ClaimMapViews
import Derived.JoinedTies
import Derived.KernelRfl
namespace Go.Proofs.Ythhkinkcelcgaaa
/- THE CELL 'sum', in the pinned program and in every row, IS THE sha256 OF THE DUMP (.gsa) THAT YthhkinkcelcgaaaProg.lean LOADS. Nothing in Lean hashes anything: it is a label: what it is worth is what the hold of that sum in a sandbox is worth. -/
noncomputable def Try.pinned : Pinned := { name := "ythhkinkcelcgaaa", sum := "94c53f855371ea4cbd0b5f0fbcf47f84176db6976980e105a2f29bf819e7309a", checked := Try.checked }
namespace Rows
def none {H : Type} : Left H := { results := [], args := [] }

/-- 'doorwardlaw06.RoomNews': WHATEVER THE INPUT: true; the input reads as it did. -/
def roomNewsSpec : ChangeSpec := { name := "roomNews", fn := fun _ => fun
  | [d1, d2] => { results := [.lit (.bool true)], args := [d1, d2] }
  | _ => none }
def roomNewsRow : OpenClaim := { program := "ythhkinkcelcgaaa", sum := "94c53f855371ea4cbd0b5f0fbcf47f84176db6976980e105a2f29bf819e7309a", func := "doorward/doorwardlaw06.RoomNews", spec := "roomNews", apart := false }
def RoomNewsSaid : Prop := roomNewsRow.holds Try.pinned (OpenSpec.ofChange roomNewsSpec)

/-- ITS FALSE NEIGHBOUR: 'it returns false'. Refute it at one input. -/
def roomNewsWrong : ChangeSpec := { name := "roomNews", fn := fun _ => fun
  | [d1, d2] => { results := [.lit (.bool false)], args := [d1, d2] }
  | _ => none }
def RoomNewsWrongFalsely : Prop := roomNewsRow.holds Try.pinned (OpenSpec.ofChange roomNewsWrong)

/-- 'doorwardlaw06.RoomTwice': WHATEVER THE INPUT: true; the input reads as it did. -/
def roomTwiceSpec : ChangeSpec := { name := "roomTwice", fn := fun _ => fun
  | [d1, d2, d3] => { results := [.lit (.bool true)], args := [d1, d2, d3] }
  | _ => none }
def roomTwiceRow : OpenClaim := { program := "ythhkinkcelcgaaa", sum := "94c53f855371ea4cbd0b5f0fbcf47f84176db6976980e105a2f29bf819e7309a", func := "doorward/doorwardlaw06.RoomTwice", spec := "roomTwice", apart := false }
def RoomTwiceSaid : Prop := roomTwiceRow.holds Try.pinned (OpenSpec.ofChange roomTwiceSpec)

/-- ITS FALSE NEIGHBOUR: 'it returns false'. Refute it at one input. -/
def roomTwiceWrong : ChangeSpec := { name := "roomTwice", fn := fun _ => fun
  | [d1, d2, d3] => { results := [.lit (.bool false)], args := [d1, d2, d3] }
  | _ => none }
def RoomTwiceWrongFalsely : Prop := roomTwiceRow.holds Try.pinned (OpenSpec.ofChange roomTwiceWrong)

/-- 'doorwardlaw06.RoomCalls': WHATEVER THE INPUT: true; the input reads as it did. -/
def roomCallsSpec : ChangeSpec := { name := "roomCalls", fn := fun _ => fun
  | [d1, d2, d3] => { results := [.lit (.bool true)], args := [d1, d2, d3] }
  | _ => none }
def roomCallsRow : OpenClaim := { program := "ythhkinkcelcgaaa", sum := "94c53f855371ea4cbd0b5f0fbcf47f84176db6976980e105a2f29bf819e7309a", func := "doorward/doorwardlaw06.RoomCalls", spec := "roomCalls", apart := false }
def RoomCallsSaid : Prop := roomCallsRow.holds Try.pinned (OpenSpec.ofChange roomCallsSpec)

/-- ITS FALSE NEIGHBOUR: 'it returns false'. Refute it at one input. -/
def roomCallsWrong : ChangeSpec := { name := "roomCalls", fn := fun _ => fun
  | [d1, d2, d3] => { results := [.lit (.bool false)], args := [d1, d2, d3] }
  | _ => none }
def RoomCallsWrongFalsely : Prop := roomCallsRow.holds Try.pinned (OpenSpec.ofChange roomCallsWrong)

/-- 'doorwardlaw06.RoomPacks': WHATEVER THE INPUT: true; the input reads as it did. -/
def roomPacksSpec : ChangeSpec := { name := "roomPacks", fn := fun _ => fun
  | [d1, d2, d3] => { results := [.lit (.bool true)], args := [d1, d2, d3] }
  | _ => none }
def roomPacksRow : OpenClaim := { program := "ythhkinkcelcgaaa", sum := "94c53f855371ea4cbd0b5f0fbcf47f84176db6976980e105a2f29bf819e7309a", func := "doorward/doorwardlaw06.RoomPacks", spec := "roomPacks", apart := false }
def RoomPacksSaid : Prop := roomPacksRow.holds Try.pinned (OpenSpec.ofChange roomPacksSpec)

/-- ITS FALSE NEIGHBOUR: 'it returns false'. Refute it at one input. -/
def roomPacksWrong : ChangeSpec := { name := "roomPacks", fn := fun _ => fun
  | [d1, d2, d3] => { results := [.lit (.bool false)], args := [d1, d2, d3] }
  | _ => none }
def RoomPacksWrongFalsely : Prop := roomPacksRow.holds Try.pinned (OpenSpec.ofChange roomPacksWrong)

/-- 'doorwardlaw06.RoomBack': WHATEVER THE INPUT: true; the input reads as it did. -/
def roomBackSpec : ChangeSpec := { name := "roomBack", fn := fun _ => fun
  | [d1, d2, d3] => { results := [.lit (.bool true)], args := [d1, d2, d3] }
  | _ => none }
def roomBackRow : OpenClaim := { program := "ythhkinkcelcgaaa", sum := "94c53f855371ea4cbd0b5f0fbcf47f84176db6976980e105a2f29bf819e7309a", func := "doorward/doorwardlaw06.RoomBack", spec := "roomBack", apart := false }
def RoomBackSaid : Prop := roomBackRow.holds Try.pinned (OpenSpec.ofChange roomBackSpec)

/-- ITS FALSE NEIGHBOUR: 'it returns false'. Refute it at one input. -/
def roomBackWrong : ChangeSpec := { name := "roomBack", fn := fun _ => fun
  | [d1, d2, d3] => { results := [.lit (.bool false)], args := [d1, d2, d3] }
  | _ => none }
def RoomBackWrongFalsely : Prop := roomBackRow.holds Try.pinned (OpenSpec.ofChange roomBackWrong)

/- THE SECOND FORM. 'bulk': how many values and letters a reading holds, each counted each time it is reached (what is shared counts as often as it is met; a slice's spare places count too). A statement '..UptoSaid' is the law's where the arguments, and the package variables that the reading takes, are together of bulk at most 1048576: NARROWER than '..Said'. Prove '..Said' where nothing that the law and all that it calls make is longer than what came in: it says more and counts as full. Else prove '..UptoSaid'. A law counts once. -/
mutual
def uptoBulk {H : Type} : DataW H → Nat
  | .lit (.string bytes) => bytes.length + 1
  | .lit _ => 1
  | .nil => 1
  | .ptr d => uptoBulk d + 1
  | .slice elems spare => uptoBulkAll elems + uptoBulkAll spare + 1
  | .agg parts => uptoBulkAll parts + 1
  | .iface _ d => uptoBulk d + 1
  | .map entries => uptoBulkEntries entries + 1
  | .held _ => 1
def uptoBulkAll {H : Type} : List (DataW H) → Nat
  | [] => 0
  | d :: r => uptoBulk d + uptoBulkAll r
def uptoBulkEntries {H : Type} : List (Lit × DataW H) → Nat
  | [] => 0
  | x :: r => uptoBulkEntry x + uptoBulkEntries r
def uptoBulkEntry {H : Type} : Lit × DataW H → Nat
  | (.string bytes, d) => bytes.length + uptoBulk d + 1
  | (_, d) => uptoBulk d + 1
 end
def uptoSmall : (H : Type) → List (DataW H) → Bool := fun _ ds => decide (uptoBulkAll ds ≤ 1048576)
def OpenSpec.upto (s : _root_.Go.ChangeSpec) : _root_.Go.OpenSpec := { _root_.Go.OpenSpec.ofChange s with cond := some uptoSmall }

/-- 'doorwardlaw06.RoomNews', WHERE WHAT IT READS IS OF BULK AT MOST 1048576: true; the input reads as it did. -/
def roomNewsUptoRow : OpenClaim := { program := "ythhkinkcelcgaaa", sum := "94c53f855371ea4cbd0b5f0fbcf47f84176db6976980e105a2f29bf819e7309a", func := "doorward/doorwardlaw06.RoomNews", spec := "roomNews", apart := false, narrowed := true }
def RoomNewsUptoSaid : Prop := roomNewsUptoRow.holds Try.pinned (OpenSpec.upto roomNewsSpec)

/-- 'doorwardlaw06.RoomTwice', WHERE WHAT IT READS IS OF BULK AT MOST 1048576: true; the input reads as it did. -/
def roomTwiceUptoRow : OpenClaim := { program := "ythhkinkcelcgaaa", sum := "94c53f855371ea4cbd0b5f0fbcf47f84176db6976980e105a2f29bf819e7309a", func := "doorward/doorwardlaw06.RoomTwice", spec := "roomTwice", apart := false, narrowed := true }
def RoomTwiceUptoSaid : Prop := roomTwiceUptoRow.holds Try.pinned (OpenSpec.upto roomTwiceSpec)

/-- 'doorwardlaw06.RoomCalls', WHERE WHAT IT READS IS OF BULK AT MOST 1048576: true; the input reads as it did. -/
def roomCallsUptoRow : OpenClaim := { program := "ythhkinkcelcgaaa", sum := "94c53f855371ea4cbd0b5f0fbcf47f84176db6976980e105a2f29bf819e7309a", func := "doorward/doorwardlaw06.RoomCalls", spec := "roomCalls", apart := false, narrowed := true }
def RoomCallsUptoSaid : Prop := roomCallsUptoRow.holds Try.pinned (OpenSpec.upto roomCallsSpec)

/-- 'doorwardlaw06.RoomPacks', WHERE WHAT IT READS IS OF BULK AT MOST 1048576: true; the input reads as it did. -/
def roomPacksUptoRow : OpenClaim := { program := "ythhkinkcelcgaaa", sum := "94c53f855371ea4cbd0b5f0fbcf47f84176db6976980e105a2f29bf819e7309a", func := "doorward/doorwardlaw06.RoomPacks", spec := "roomPacks", apart := false, narrowed := true }
def RoomPacksUptoSaid : Prop := roomPacksUptoRow.holds Try.pinned (OpenSpec.upto roomPacksSpec)

/-- 'doorwardlaw06.RoomBack', WHERE WHAT IT READS IS OF BULK AT MOST 1048576: true; the input reads as it did. -/
def roomBackUptoRow : OpenClaim := { program := "ythhkinkcelcgaaa", sum := "94c53f855371ea4cbd0b5f0fbcf47f84176db6976980e105a2f29bf819e7309a", func := "doorward/doorwardlaw06.RoomBack", spec := "roomBack", apart := false, narrowed := true }
def RoomBackUptoSaid : Prop := roomBackUptoRow.holds Try.pinned (OpenSpec.upto roomBackSpec)

end Rows
end Go.Proofs.Ythhkinkcelcgaaa

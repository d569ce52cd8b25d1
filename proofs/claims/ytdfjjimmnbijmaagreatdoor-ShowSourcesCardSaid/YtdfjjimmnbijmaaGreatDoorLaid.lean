import Derived.Test.YtdfjjimmnbijmaaGreatDoorBase
import Derived.Test.YtdfjjimmnbijmaaGreatDoorTie
import Derived.Test.YtdfjjimmnbijmaaGreatDoorCards
import Derived.Lib.LaidCaseMet
import Derived.Lib.LaidIn
import Derived.Lib.LaidU8
import Derived.Stop.LaidErr
import Derived.Deep.DeepHandedRow
namespace Go.Proofs.YtdfjjimmnbijmaaGreatDoor.Laid
open Go.Shelf Go.RowKit Go.Lib Go.ChangeShapes Go.WideShapes Go.ChangeAt Go.Proofs.YtdfjjimmnbijmaaGreatDoor.Base
/-- The list of the rows' variables. -/
def six : List (String × DataW Unit) := [("math/bits.deBruijn32tab", Rows.laid_math_bits_deBruijn32tab), ("math/bits.deBruijn64tab", Rows.laid_math_bits_deBruijn64tab), ("internal/strconv.uint64pow10", Rows.laid_internal_strconv_uint64pow10), ("unicode/utf8.acceptRanges", Rows.laid_unicode_utf8_acceptRanges), ("strconv.ErrRange", Rows.laid_strconv_ErrRange), ("strconv.ErrSyntax", Rows.laid_strconv_ErrSyntax)]
def all8 : List (String × DataW Unit) := six ++ ([("unicode.CaseRanges", Rows.laid_unicode_CaseRanges)] ++ [("unicode/utf8.first", Rows.laid_unicode_utf8_first)])
theorem eCase : Rows.laid_unicode_CaseRanges = caseData := by kernel_rfl
theorem eFirst : Rows.laid_unicode_utf8_first = firstData := by kernel_rfl
theorem eAccept : (Rows.laid_unicode_utf8_acceptRanges : DataW Unit) = acceptData := by kernel_rfl
theorem ePow : (Rows.laid_internal_strconv_uint64pow10 : DataW Unit) = tabData .u64 pow10Tab := by kernel_rfl
theorem caseX : CaseExtra Tryz.prog Tryz.lays159_ren := ⟨by kernel_rfl, by kernel_rfl, by kernel_rfl, by kernel_rfl, by kernel_rfl, by kernel_rfl⟩
theorem u8X : U8Extra Tryz.prog Tryz.lays159_ren := ⟨by kernel_rfl, by kernel_rfl, by kernel_rfl, by kernel_rfl, by kernel_rfl, by kernel_rfl, by kernel_rfl⟩
theorem gPow : Tryz.prog.globalNamed "internal/strconv.uint64pow10" = some 0 := by kernel_rfl
theorem gDb : Tryz.prog.globalNamed "math/bits.deBruijn64tab" = some 6 := by kernel_rfl
theorem eDb : (Rows.laid_math_bits_deBruijn64tab : DataW Unit) = tabData .u8 deB64 := by kernel_rfl
theorem gRng : Tryz.prog.globalNamed "strconv.ErrRange" = some 3 := by kernel_rfl
theorem var_lt {P : Program} {w : World} {n : String} {cs : Array Value} {g : Nat} (hg : P.globalNamed n = some g) (h : w.var? P n = some cs) : g < w.heap.size := by
  rcases Nat.lt_or_ge g w.heap.size with h' | h'
  · exact h'
  · unfold World.var? at h
    simp [hg, Array.getElem?_eq_none h'] at h
theorem star : "*" ++ "errors.errorString" = "*errors.errorString" := by decide
theorem rowErr (u : TypeId) (h : Tryz.prog.typeName? 3 u = some "*errors.errorString") : u = 164 :=
  typeName_ptr_named (nm := "errors.errorString") (by rw [star]; kernel_rfl) (by kernel_rfl) (by decide) u (by rw [star]; exact h)
theorem laidAt {W : World} (h : laidMet Tryz.prog all8 W) : LaidAt W := by
  have hc := laidMet.reads h (n := "unicode.CaseRanges") (d := Rows.laid_unicode_CaseRanges) (by unfold all8; exact List.mem_append_right _ (.head _))
  have hf := laidMet.reads h (n := "unicode/utf8.first") (d := Rows.laid_unicode_utf8_first) (by unfold all8; exact List.mem_append_right _ (.tail _ (.head _)))
  have ha := laidMet.reads h (n := "unicode/utf8.acceptRanges") (d := Rows.laid_unicode_utf8_acceptRanges) (by unfold all8 six; exact List.mem_append_left _ (.tail _ (.tail _ (.tail _ (.head _)))))
  rw [eCase] at hc
  rw [eFirst] at hf
  rw [eAccept] at ha
  have h2 : laidMet Tryz.prog (("internal/strconv.uint64pow10", tabData .u64 pow10Tab) :: _) W := ePow ▸ laidMet.tail (laidMet.tail h)
  have hp : TabIs Tryz.prog W "internal/strconv.uint64pow10" .u64 pow10Tab := tabIs_of_head gPow (t := 127) (e := 22) (n := 20) (by kernel_rfl) Tryz.underlying127 Tryz.underlying22 (by kernel_rfl) (by kernel_rfl) h2
  have h1 : laidMet Tryz.prog (("math/bits.deBruijn64tab", tabData .u8 deB64) :: _) W := eDb ▸ laidMet.tail h
  have hd : TabIs Tryz.prog W "math/bits.deBruijn64tab" .u8 deB64 := tabIs_of_head gDb (t := 156) (e := 5) (n := 64) (by kernel_rfl) Tryz.underlying156 Tryz.underlying5 (by kernel_rfl) (by kernel_rfl) h1
  obtain ⟨a, s, hv, _⟩ := laid_sentinel (laidMet.tail (laidMet.tail h2)) gRng (ti := 93) (tp := 164) (te := 166) (ts := 9) (by kernel_rfl) Tryz.underlying93 rowErr Tryz.underlying164 Tryz.underlying166 rfl rfl Tryz.underlying9 (by kernel_rfl) (by kernel_rfl)
  exact ⟨caseVar_of_reads { Tryz.lays159 with } Tryz.lays159.t206 caseX hc, utf8Tabs_of_reads { Tryz.lays159 with } u8X hf ha, ⟨_, gPow, var_lt gPow hp, hp⟩, ⟨_, gDb, var_lt gDb hd, hd⟩, ⟨_, _, _, gRng, var_lt gRng hv, hv⟩⟩
def de32 : List Int := [0, 1, 28, 2, 29, 14, 24, 3, 30, 22, 20, 15, 25, 17, 4, 8, 31, 27, 13, 23, 21, 19, 16, 7, 26, 12, 18, 6, 11, 5, 10, 9]
def de64 : List Int := [0, 1, 56, 2, 57, 49, 28, 3, 61, 58, 42, 50, 38, 29, 17, 4, 62, 47, 59, 36, 45, 43, 51, 22, 53, 39, 33, 30, 24, 18, 12, 5, 63, 55, 48, 27, 60, 41, 37, 16, 46, 35, 44, 21, 52, 32, 23, 11, 54, 26, 40, 15, 34, 20, 31, 10, 25, 14, 19, 9, 13, 8, 7, 6]
/-- A world for the witness: the settled one, the variables holding what their initialisers lay, and three blocks more. -/
noncomputable def laidWorld (os : Os) : World :=
  let N := (World.settled Tryz.prog os).heap.size
  let w0 := World.holding Tryz.prog os ⟨#[.cells caseCells5 (Tryz.lays159_ren.t 208), .cells #[.string ⟨#[118, 97, 108, 117, 101, 32, 111, 117, 116, 32, 111, 102, 32, 114, 97, 110, 103, 101]⟩] 166, .cells #[.string ⟨#[105, 110, 118, 97, 108, 105, 100, 32, 115, 121, 110, 116, 97, 120]⟩] 166], #[], []⟩
  let put (h : Array Obj) (g : Nat) (cs : Array Value) : Array Obj := h.modify g fun
    | .cells _ t frozen => .cells cs t frozen
    | o => o
  let h1 := put w0.heap 5 (de32.map fun z => Value.int .u8 z).toArray
  let h2 := put h1 6 (de64.map fun z => Value.int .u8 z).toArray
  let h3 := put h2 0 (pow10Tab.map fun z => Value.int .u64 z).toArray
  let h4 := put h3 (Tryz.lays159_ren.g 4) ((List.range 16).flatMap fun i => [Value.int .u8 (accLo i), Value.int .u8 (accHi i)]).toArray
  let h5 := put h4 3 #[.iface 164 (.pointer (some ⟨N + 1, 0, none⟩))]
  let h6 := put h5 2 #[.iface 164 (.pointer (some ⟨N + 2, 0, none⟩))]
  let h7 := put h6 (Tryz.lays159_ren.g 13) #[.slice (some ⟨N, 0, none⟩) caseA.size caseA.size]
  let h8 := put h7 (Tryz.lays159_ren.g 3) (firstTab.map fun z => Value.int .u8 z).toArray
  { w0 with heap := h8 }
noncomputable def laidMem (os : Os) (args : Array Value) : World := ((laidWorld os).forCall (fun _ _ => 0) ⟨#[], args, []⟩).memory
noncomputable def low : Nat := (World.settled Tryz.prog default).heap.size
theorem met_six (os : Os) (args : Array Value) : LaidIn Tryz.prog (laidMem os args) six [5, 6, 0, Tryz.lays159_ren.g 4, 3, 2, low + 1, low + 2] :=
  LaidIn.of_run _ 12 (by kernel_rfl) (by kernel_rfl) (by kernel_rfl) (by kernel_rfl)
theorem met_first (os : Os) (args : Array Value) : LaidIn Tryz.prog (laidMem os args) [("unicode/utf8.first", Rows.laid_unicode_utf8_first)] [Tryz.lays159_ren.g 3] :=
  LaidIn.of_run _ 12 (by kernel_rfl) (by kernel_rfl) (by kernel_rfl) (by kernel_rfl)
set_option maxRecDepth 100000 in
theorem met_case (os : Os) (args : Array Value) : LaidIn Tryz.prog (laidMem os args) [("unicode.CaseRanges", Rows.laid_unicode_CaseRanges)] [Tryz.lays159_ren.g 13, low] := by
  have hvar : (laidMem os args).heap[Tryz.lays159_ren.g 13]? = some (.cells #[.slice (some ⟨low, 0, none⟩) caseA.size caseA.size] (Tryz.lays159_ren.t 162) (0, 0)) := by kernel_rfl
  have hblk : (laidMem os args).heap[low]? = some (.cells caseCells5 (Tryz.lays159_ren.t 208) (0, 0)) := by kernel_rfl
  have hgR : Tryz.lays159_ren.g 13 ≠ low := of_decide_eq_true (by kernel_rfl)
  generalize laidMem os args = w at hvar hblk
  generalize low = R at hvar hblk hgR
  have hT := caseTab_of_block hblk
  have hread := case_slice_reads (L := { Tryz.lays159 with }) Tryz.lays159.t206 caseX hT caseA_wf (by rw [caseA_size]; unfold maxLen; omega) 0
  rw [case_rows_data] at hread
  have hv : w.var? Tryz.prog "unicode.CaseRanges" = some #[.slice (some ⟨R, 0, none⟩) caseA.size caseA.size] := by simp [World.var?, caseX.n13, hvar]
  rw [eCase]
  refine LaidIn.one _ caseX.n13 caseX.y13 hv hread ?_ ?_ ?_
  · refine List.nodup_append.2 ⟨rowP_nodup _ _, rowP_nodup _ _, ?_⟩
    intro a ha b hb e
    obtain ⟨i, _, rfl⟩ := MemPlace.mem_row.1 ha
    obtain ⟨j, _, rfl⟩ := MemPlace.mem_row.1 hb
    simp at e
    exact hgR e.1
  · intro b off hp
    rcases List.mem_append.1 hp with hp | hp
    · obtain ⟨i, hi, e⟩ := MemPlace.mem_row.1 hp
      cases e
      refine ⟨⟨_, _, hvar⟩, fun u v hc => ?_⟩
      have hi0 : i = 0 := by simp at hi; exact hi
      subst hi0
      rw [Lib.cell_of_heap hvar] at hc
      simp at hc
    · obtain ⟨i, hi, e⟩ := MemPlace.mem_row.1 hp
      cases e
      refine ⟨⟨_, _, hblk⟩, fun u v hc => ?_⟩
      obtain ⟨c0, c1, c2, c3, c4⟩ := hT (i / 5) (by omega)
      have hi5 : 0 + i = 0 + i / 5 * 5 + i % 5 := by omega
      simp only at hc
      rw [hi5] at hc
      have hm : i % 5 < 5 := Nat.mod_lt _ (by omega)
      match hk : i % 5, hm with
      | 0, _ => rw [hk, Nat.add_zero, c0] at hc; cases hc
      | 1, _ => rw [hk, c1] at hc; cases hc
      | 2, _ => rw [hk, c2] at hc; cases hc
      | 3, _ => rw [hk, c3] at hc; cases hc
      | 4, _ => rw [hk, c4] at hc; cases hc
  · intro x hx
    rcases List.mem_append.1 hx with hx | hx
    · obtain ⟨i, _, rfl⟩ := MemPlace.mem_row.1 hx
      exact .head _
    · obtain ⟨i, _, rfl⟩ := MemPlace.mem_row.1 hx
      exact .tail _ (.head _)
theorem laid_met (os : Os) (args : Array Value) : laidMet Tryz.prog all8 (laidMem os args) :=
  ((met_six os args).append ((met_case os args).append (met_first os args) (by kernel_rfl)) (by kernel_rfl)).met

end Go.Proofs.YtdfjjimmnbijmaaGreatDoor.Laid

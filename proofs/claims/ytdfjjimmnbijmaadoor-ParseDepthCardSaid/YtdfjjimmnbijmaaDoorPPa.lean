import Derived.Test.YtdfjjimmnbijmaaDoorPP3
import Derived.Defers
import Derived.Recover
import Derived.WalkLawsBesides
namespace Go.Proofs.YtdfjjimmnbijmaaDoor.PP
open Go.RowKit Go.Proofs.YtdfjjimmnbijmaaDoorW.PrintWords Go.Proofs.YtdfjjimmnbijmaaDoorW.PrintLast Go.Proofs.YtdfjjimmnbijmaaDoorW.PrintMore Go.Proofs.YtdfjjimmnbijmaaDoor.Base
attribute [local go_sem] max2_int min2_int max_two min_two max_three min_three max_four min_four
set_option linter.unusedVariables false
set_option linter.unusedSimpArgs false
/-! ### the parser: its state in memory -/
def hd (l : List S34) : S34 := l.headD z34
def ppA (b : Nat) : Value := .pointer (some ⟨b, 0, none⟩)
structure PInv (w : World) (b tb : Nat) (cs : Array Value) (l : List S34) (deep : Nat) : Prop where
  ne : b ≠ tb
  pos : l ≠ []
  fin : (l.getLast?).map (·.f0) = some 0
  sz : ∀ t ∈ l, t.f1.size ≤ 1000000
  base : ∃ w0, LaidAt w0 ∧ w0.heap.size ≤ b ∧ Below w0.heap.size w0 w
  tk : w.heap[tb]? = some (.cells cs 34 (0, 0))
  ps : ∃ off cap : Nat, w.heap[b]? = some (.cells #[.slice (some ⟨tb, off, none⟩) l.length cap, .int .i64 deep] 77 (0, 0)) ∧ l.length ≤ cap ∧ ∀ (j : Nat) (t : S34), l[j]? = some t → cs[off + j * 3]? = some (.int .i64 t.f0) ∧ cs[off + j * 3 + 1]? = some (.string t.f1) ∧ cs[off + j * 3 + 2]? = some (.int .i64 t.f2)
theorem PInv.grown {w w' : World} {b tb : Nat} {cs : Array Value} {l : List S34} {deep : Nat} (h : PInv w b tb cs l deep) (hg : Below w.heap.size w w') : PInv w' b tb cs l deep := by
  obtain ⟨h1, h2, hf, hs, ⟨w0, b1, b2, b3⟩, h3, off, cap, h4, h5⟩ := h
  exact ⟨h1, h2, hf, hs, ⟨w0, b1, b2, b3.trans (hg.mono b3.size)⟩, blk_below h3 hg, off, cap, blk_below h4 hg, h5⟩
theorem PInv.laid {w : World} {b tb : Nat} {cs : Array Value} {l : List S34} {deep : Nat} (h : PInv w b tb cs l deep) : LaidAt w := by
  obtain ⟨w0, b1, b2, b3⟩ := h.base
  exact b1.of b3
theorem PInv.at0 {w : World} {b tb : Nat} {cs : Array Value} {l : List S34} {deep : Nat} (h : PInv w b tb cs l deep) : ∃ off cap : Nat, w.cell? ⟨b, 0, none⟩ = some (.slice (some ⟨tb, off, none⟩) l.length cap) ∧ 1 ≤ l.length ∧ l.length ≤ cap ∧
    w.cell? ⟨tb, off, none⟩ = some (.int .i64 (hd l).f0) ∧ w.cell? ⟨tb, off + 1, none⟩ = some (.string (hd l).f1) ∧ w.cell? ⟨tb, off + 2, none⟩ = some (.int .i64 (hd l).f2) := by
  obtain ⟨h1, h2, hf, hs, hbs, h3, off, cap, h4, h5, h6⟩ := h
  cases l with
  | nil => exact absurd rfl h2
  | cons t r =>
    have h7 := h6 0 t rfl
    simp only [Nat.zero_mul, Nat.add_zero] at h7
    exact ⟨off, cap, blk_cell h4 0, by simp, h5, (blk_cell h3 _).trans h7.1, (blk_cell h3 _).trans h7.2.1, (blk_cell h3 _).trans h7.2.2⟩
theorem PInv.al {w : World} {b tb : Nat} {cs : Array Value} {l : List S34} {deep : Nat} (h : PInv w b tb cs l deep) (o : Obj) : PInv (w.alloc o) b tb cs l deep := h.grown ((Below.refl _ _).alloc (Nat.le_refl _) o)
theorem PInv.at1 {w : World} {b tb : Nat} {cs : Array Value} {l : List S34} {deep : Nat} (h : PInv w b tb cs l deep) : ∃ off cap : Nat, (∀ o, (w.alloc o).cell? ⟨b, 0, none⟩ = some (.slice (some ⟨tb, off, none⟩) l.length cap)) ∧ 1 ≤ l.length ∧ l.length ≤ cap ∧
    (∀ o, (w.alloc o).cell? ⟨tb, off, none⟩ = some (.int .i64 (hd l).f0)) ∧ (∀ o, (w.alloc o).cell? ⟨tb, off + 1, none⟩ = some (.string (hd l).f1)) ∧ (∀ o, (w.alloc o).cell? ⟨tb, off + 2, none⟩ = some (.int .i64 (hd l).f2)) := by
  obtain ⟨off, cap, h0, h1, h2, h3, h4, h5⟩ := h.at0
  have hb : ∀ o, Below w.heap.size w (w.alloc o) := fun o => (Below.refl _ _).alloc (Nat.le_refl _) o
  exact ⟨off, cap, fun o => pw_cell_below (hb o) h0, h1, h2, fun o => pw_cell_below (hb o) h3, fun o => pw_cell_below (hb o) h4, fun o => pw_cell_below (hb o) h5⟩
set_option maxHeartbeats 1600000 in
set_option maxRecDepth 100000 in
theorem next_any {b tb : Nat} {cs : Array Value} {l : List S34} {deep : Nat} (w : World) (h : PInv w b tb cs l deep) :
    Calls Tryd.prog 113 #[.pointer (some ⟨b, 0, none⟩)] w fun e w' => e = .returned (.agg #[.int .i64 (hd l).f0, .string (hd l).f1, .int .i64 (hd l).f2]) ∧ Below w.heap.size w w' := by
  obtain ⟨off, cap, h0, h1, h2, h3, h4, h5⟩ := h.at1
  clear h
  have b1 : ((0 : Int) < (l.length : Int)) = True := eq_true (by omega)
  generalize hd l = t at h3 h4 h5 ⊢
  go_enter Tryd.func113, Tryd.ntmps113
  go_wp2_with fail
  refine bodyPost_ret (v := .agg #[.int .i64 t.f0, .string t.f1, .int .i64 t.f2]) (by simp [results, Tryd.results113, go_sem]) rfl ⟨rfl, ?_⟩
  exact (Below.refl _ _).alloc (Nat.le_refl _) _
def stopV (bad at_ : Int) : PanicEntry := { v := .iface 73 (.agg #[.int .i64 bad, .int .i64 at_]), recovered := false }
set_option maxHeartbeats 1600000 in
set_option maxRecDepth 100000 in
theorem fail_any {b tb : Nat} {cs : Array Value} {l : List S34} {deep : Nat} (bad : Int) (w : World) (h : PInv w b tb cs l deep) :
    Calls Tryd.prog 115 #[.pointer (some ⟨b, 0, none⟩), .int .i64 bad] w fun e w' => e = .panicked [stopV bad (hd l).f2] ∧ Below w.heap.size w w' := by
  have HI := Aside0.mk h
  clear h
  go_enter Tryd.func115, Tryd.ntmps115
  go_wp2_with (go_at_call 113; refine (next_any _ HI.out).mono ?_; rintro e w' ⟨rfl, hb⟩)
  rename_i a0_
  apply a0_
  go_wp2
  exact ⟨rfl, rfl, hb⟩
def isP (k : Int) (x : ByteArray) (l : List S34) : Bool := (hd l).f0 == k && (x.toList.isEmpty || (hd l).f1.toList == x.toList)
set_option maxHeartbeats 3200000 in
set_option maxRecDepth 100000 in
theorem is_any {b tb : Nat} {cs : Array Value} {l : List S34} {deep : Nat} (k : Int) (x : ByteArray) (w : World) (h : PInv w b tb cs l deep) :
    Calls Tryd.prog 80 #[.pointer (some ⟨b, 0, none⟩), .int .i64 k, .string x] w fun e w' => e = .returned (.bool (isP k x l)) ∧ Below w.heap.size w w' := by
  have HI := Aside0.mk h
  clear h
  unfold isP
  obtain ⟨t, ht⟩ : ∃ t, t = hd l := ⟨_, rfl⟩
  have hn : ∀ w, PInv w b tb cs l deep → Calls Tryd.prog 113 #[.pointer (some ⟨b, 0, none⟩)] w fun e w' => e = .returned (.agg #[.int .i64 t.f0, .string t.f1, .int .i64 t.f2]) ∧ Below w.heap.size w w' := fun w h => ht ▸ next_any w h
  rw [← ht]
  have HN := Aside0.mk hn
  clear ht hn
  cases e1 : (t.f0 == k) with
  | false =>
    go_enter Tryd.func80, Tryd.ntmps80
    go_wp2_with (go_at_call 113; refine (HN.out _ HI.out).mono ?_; rintro e w' ⟨rfl, hb⟩)
    go_ret
    exact ⟨rfl, hb.alloc hb.size _⟩
  | true =>
    cases e2 : x.toList.isEmpty with
    | true =>
      go_enter Tryd.func80, Tryd.ntmps80
      go_wp2_with (go_at_call 113; refine (HN.out _ HI.out).mono ?_; rintro e w' ⟨rfl, hb⟩)
      go_ret
      exact ⟨rfl, hb.alloc hb.size _⟩
    | false =>
      go_enter Tryd.func80, Tryd.ntmps80
      go_wp2_with (go_at_call 113; refine (HN.out _ HI.out).mono ?_; rintro e w' ⟨rfl, hb⟩)
      go_ret
      exact ⟨by simp, hb.alloc hb.size _⟩

end Go.Proofs.YtdfjjimmnbijmaaDoor.PP

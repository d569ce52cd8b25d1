import Derived.Test.YtdfjjimmnbijmaaDoorPPb
namespace Go.Proofs.YtdfjjimmnbijmaaDoor.PP
open Go.RowKit Go.Proofs.YtdfjjimmnbijmaaDoorW.PrintWords Go.Proofs.YtdfjjimmnbijmaaDoorW.PrintLast Go.Proofs.YtdfjjimmnbijmaaDoorW.PrintMore Go.Proofs.YtdfjjimmnbijmaaDoor.Base
attribute [local go_sem] max2_int min2_int max_two min_two max_three min_three max_four min_four
set_option linter.unusedVariables false
set_option linter.unusedSimpArgs false
theorem lit_txts (xs : List ByteArray) (h : xs ≠ []) (hl : xs.length ≤ 1000) (w : World) : Txts (w.alloc (.cells (xs.map Value.string).toArray 9)) (.slice (some ⟨w.heap.size, 0, none⟩) xs.length xs.length) xs := by
  refine Or.inr ⟨w.heap.size, xs.length, rfl, h, by simp, hl, fun j hj => ?_⟩
  rw [blk_cell (heap_alloc_new w _)]
  simp [hj, List.getD_eq_getElem?_getD]
def resL : List ByteArray := [⟨#[105, 102]⟩, ⟨#[97, 110, 100]⟩, ⟨#[111, 114]⟩, ⟨#[110, 111, 116]⟩]
def resS (s : ByteArray) : Bool := Lib.containsS resL s
set_option maxHeartbeats 1600000 in
set_option maxRecDepth 100000 in
theorem res_any (s : ByteArray) (w : World) : Calls Tryd.prog 116 #[.string s] w fun e w' => e = .returned (.bool (resS s)) ∧ Below w.heap.size w w' := by
  have hT := lit_txts resL (by decide) (by decide) w
  have hC : Calls Tryd.prog 114 #[.slice (some ⟨w.heap.size, 0, none⟩) 4 4, .string s] (w.alloc (.cells #[.string ⟨#[105, 102]⟩, .string ⟨#[97, 110, 100]⟩, .string ⟨#[111, 114]⟩, .string ⟨#[110, 111, 116]⟩] 9)) fun e w' => e = .returned (.bool (resS s)) ∧ w' = (w.alloc (.cells #[.string ⟨#[105, 102]⟩, .string ⟨#[97, 110, 100]⟩, .string ⟨#[111, 114]⟩, .string ⟨#[110, 111, 116]⟩] 9)) := by
    rcases hT with ⟨h, _⟩ | ⟨xb, c, h1, h2, h3, h4, h5⟩
    · cases h
    · cases h1
      have := Tryd.slices_Contains_string w.heap.size 0 4 4 resL s _ (by decide) (by decide) h5
      exact this
  have HC := Aside0.mk hC
  clear hC hT
  go_enter Tryd.func116, Tryd.ntmps116
  go_wp2_with fail
  go_at_call 114
  refine HC.out.mono ?_
  rintro e w' ⟨rfl, rfl⟩
  go_wp2_with fail
  go_ret
  exact ⟨rfl, (Below.refl _ _).alloc (Nat.le_refl _) _⟩
def wordP (l : List S34) : Except (Int × Int) (ByteArray × List S34) := if resS (hd l).f1 = true then .error (61, (hd l).f2) else takeP 1 [] l
/-- What a step of the parser leaves: a value, and the parser; or a panic that tells the error and its place. -/
def PPost {α : Type} (w : World) (b tb : Nat) (cs : Array Value) (deep : Nat) (V : α → World → Value → Prop) (r : Except (Int × Int) (α × List S34)) (e : Ending) (w' : World) : Prop :=
  w.grownBy w' (some b) ∧ match r with
    | .ok (x, l') => (∃ v, e = .returned v ∧ V x w' v) ∧ PInv w' b tb cs l' deep
    | .error (bad, at_) => e = .panicked [stopV bad at_]
theorem PPost.ok {α : Type} {w : World} {b tb : Nat} {cs : Array Value} {deep : Nat} {V : α → World → Value → Prop} {r : Except (Int × Int) (α × List S34)} {e : Ending} {w' : World} {x : α} {l' : List S34} (h : PPost w b tb cs deep V r e w') (hr : r = .ok (x, l')) : w.grownBy w' (some b) ∧ (∃ v, e = .returned v ∧ V x w' v) ∧ PInv w' b tb cs l' deep := by
  subst hr; exact h
theorem PPost.err {α : Type} {w : World} {b tb : Nat} {cs : Array Value} {deep : Nat} {V : α → World → Value → Prop} {r : Except (Int × Int) (α × List S34)} {e : Ending} {w' : World} {bad at_ : Int} (h : PPost w b tb cs deep V r e w') (hr : r = .error (bad, at_)) : w.grownBy w' (some b) ∧ e = .panicked [stopV bad at_] := by
  subst hr; exact h
theorem PPost.mk_ok {α : Type} {w : World} {b tb : Nat} {cs : Array Value} {deep : Nat} {V : α → World → Value → Prop} {r : Except (Int × Int) (α × List S34)} {w' : World} {x : α} {l' : List S34} {v : Value} (hr : r = .ok (x, l')) (hg : w.grownBy w' (some b)) (hv : V x w' v) (hP : PInv w' b tb cs l' deep) : PPost w b tb cs deep V r (.returned v) w' := by
  subst hr; exact ⟨hg, ⟨_, rfl, hv⟩, hP⟩
theorem PPost.mk_err {α : Type} {w : World} {b tb : Nat} {cs : Array Value} {deep : Nat} {V : α → World → Value → Prop} {r : Except (Int × Int) (α × List S34)} {w' : World} {bad at_ : Int} (hr : r = .error (bad, at_)) (hg : w.grownBy w' (some b)) : PPost w b tb cs deep V r (.panicked [stopV bad at_]) w' := by
  subst hr; exact ⟨hg, rfl⟩
def strV (s : ByteArray) (_ : World) (v : Value) : Prop := v = .string s
theorem take_post {b tb : Nat} {cs : Array Value} {l : List S34} {deep : Nat} (k : Int) (hk : k ≠ 0) (tv : Value) (xs : List ByteArray) (w : World) (h : PInv w b tb cs l deep) (ht : Txts w tv xs) :
    Calls Tryd.prog 76 #[.pointer (some ⟨b, 0, none⟩), .int .i64 k, tv] w (PPost w b tb cs deep strV (takeP k xs l)) := by
  refine (take_any k hk tv xs w h ht).mono ?_
  rintro e w' ⟨h1, h2⟩
  unfold PPost
  refine ⟨h1, ?_⟩
  cases hr : takeP k xs l with
  | ok x => obtain ⟨s, l'⟩ := x; rw [hr] at h2; exact ⟨⟨_, h2.1, rfl⟩, h2.2⟩
  | error x => obtain ⟨s, l'⟩ := x; rw [hr] at h2; exact h2
theorem grown_below {w w1 w2 : World} {b : Nat} (h : Below w.heap.size w w1) (k : w1.grownBy w2 (some b)) : w.grownBy w2 (some b) := grown_trans (grown_of_below h _) k
set_option maxHeartbeats 1600000 in
set_option maxRecDepth 100000 in
theorem word_any {b tb : Nat} {cs : Array Value} {l : List S34} {deep : Nat} (w : World) (h : PInv w b tb cs l deep) :
    Calls Tryd.prog 77 #[.pointer (some ⟨b, 0, none⟩)] w (PPost w b tb cs deep strV (wordP l)) := by
  have HI := Aside0.mk h
  clear h
  cases hr : resS (hd l).f1 with
  | true =>
    have hw : wordP l = .error (61, (hd l).f2) := by unfold wordP; rw [if_pos hr]
    rw [hw]
    clear hw
    go_enter Tryd.func77, Tryd.ntmps77
    go_wp2_with (go_at_call 113; refine (next_any _ HI.out).mono ?_; rintro e w1 ⟨rfl, hb⟩)
    rename_i a0_
    apply a0_
    go_wp2_with (go_at_call 116; refine (res_any _ _).mono ?_; rintro e w2 ⟨rfl, hb2⟩)
    go_at_call 115
    refine (fail_any 61 _ ((HI.out.grown hb).grown hb2)).mono ?_
    rintro e w3 ⟨rfl, hb3⟩
    go_wp2_with fail
    exact ⟨rfl, grown_of_below (hb.trans ((hb2.trans (hb3.mono hb2.size)).mono hb.size)) _, rfl⟩
  | false =>
    obtain ⟨r, hr2⟩ : ∃ r, r = takeP 1 [] l := ⟨_, rfl⟩
    have hw : wordP l = r := by unfold wordP; rw [if_neg (by rw [hr]; decide), hr2]
    have HT := Aside0.mk (fun w (h : PInv w b tb cs l deep) => (by rw [hr2]; exact take_post 1 (by decide) _ [] w h (Or.inl ⟨rfl, rfl⟩) : Calls Tryd.prog 76 #[.pointer (some ⟨b, 0, none⟩), .int .i64 1, .slice none 0 0] w (PPost w b tb cs deep strV r)))
    rw [hw]
    clear hw hr2
    go_enter Tryd.func77, Tryd.ntmps77
    go_wp2_with (go_at_call 113; refine (next_any _ HI.out).mono ?_; rintro e w1 ⟨rfl, hb⟩)
    rename_i a0_
    apply a0_
    go_wp2_with (go_at_call 116; refine (res_any _ _).mono ?_; rintro e w2 ⟨rfl, hb2⟩)
    go_at_call 76
    refine (HT.out _ ((HI.out.grown hb).grown hb2)).mono ?_
    intro e w3 hp
    rcases r with ⟨bad, at_⟩ | ⟨s, l'⟩
    · obtain ⟨hg, rfl⟩ := hp.err rfl
      go_wp2_with fail
      exact ⟨rfl, PPost.mk_err rfl (grown_below (hb.trans (hb2.mono hb.size)) hg)⟩
    · obtain ⟨hg, ⟨v, rfl, hv⟩, hP⟩ := hp.ok rfl
      unfold strV at hv
      subst hv
      go_wp2_with fail
      go_ret
      exact PPost.mk_ok rfl (grown_below (hb.trans (hb2.mono hb.size)) hg) rfl hP

end Go.Proofs.YtdfjjimmnbijmaaDoor.PP

import Derived.Test.YtdfjjimmnbijmaaDoorPPc
namespace Go.Proofs.YtdfjjimmnbijmaaDoor.PP
open Go.RowKit Go.Proofs.YtdfjjimmnbijmaaDoorW.PrintWords Go.Proofs.YtdfjjimmnbijmaaDoorW.PrintLast Go.Proofs.YtdfjjimmnbijmaaDoorW.PrintMore Go.Proofs.YtdfjjimmnbijmaaDoor.Base
attribute [local go_sem] max2_int min2_int max_two min_two max_three min_three max_four min_four
set_option linter.unusedVariables false
set_option linter.unusedSimpArgs false
def intV (k : IntKind) (x : Int) (_ : World) (v : Value) : Prop := v = .int k x
def bnd {α β : Type} (r : Except (Int × Int) α) (f : α → Except (Int × Int) β) : Except (Int × Int) β := match r with
  | .ok a => f a
  | .error e => .error e
def numP (l : List S34) : Except (Int × Int) (Int × List S34) := bnd (takeP 2 [] l) fun x => .ok ((numR (numS x.1)).1, x.2)
theorem takeP_ok {k : Int} {xs : List ByteArray} {l l' : List S34} {s : ByteArray} (h : takeP k xs l = .ok (s, l')) : s = (hd l).f1 ∧ l' = l.tail ∧ (hd l).f0 = k ∧ anyT xs s = true := by
  unfold takeP at h
  split at h
  · rename_i hc
    rw [Bool.and_eq_true, beq_iff_eq] at hc
    obtain ⟨rfl, rfl⟩ := Prod.mk.inj (Except.ok.inj h)
    exact ⟨rfl, rfl, hc⟩
  · cases h
theorem hd_mem {l : List S34} (h : l ≠ []) : hd l ∈ l := by
  cases l with
  | nil => exact absurd rfl h
  | cons t r => exact List.mem_cons_self
set_option maxHeartbeats 1600000 in
set_option maxRecDepth 100000 in
theorem number_any {b tb : Nat} {cs : Array Value} {l : List S34} {deep : Nat} (w : World) (h : PInv w b tb cs l deep) :
    Calls Tryd.prog 117 #[.pointer (some ⟨b, 0, none⟩)] w (PPost w b tb cs deep (intV .u64) (numP l)) := by
  have HI := Aside0.mk h
  obtain ⟨r, hr2⟩ : ∃ r, r = takeP 2 [] l := ⟨_, rfl⟩
  have HT := Aside0.mk (fun w (h : PInv w b tb cs l deep) => (by rw [hr2]; exact take_post 2 (by decide) _ [] w h (Or.inl ⟨rfl, rfl⟩) : Calls Tryd.prog 76 #[.pointer (some ⟨b, 0, none⟩), .int .i64 2, .slice none 0 0] w (PPost w b tb cs deep strV r)))
  have hsz : ∀ s l', r = .ok (s, l') → s.size ≤ 1000000 := by
    intro s l' e
    obtain ⟨e1, _⟩ := takeP_ok (hr2 ▸ e)
    rw [e1]; exact h.sz _ (hd_mem h.pos)
  have HSZ := Aside0.mk hsz
  have hn : numP l = bnd r fun x => .ok ((numR (numS x.1)).1, x.2) := by unfold numP; rw [hr2]
  rw [hn]
  clear hn hr2 h hsz
  go_enter Tryd.func117, Tryd.ntmps117
  go_wp2_with fail
  go_at_call 76
  refine (HT.out _ HI.out).mono ?_
  intro e w3 hp
  rcases r with ⟨bad, at_⟩ | ⟨s, l'⟩
  · obtain ⟨hg, rfl⟩ := hp.err rfl
    go_wp2_with fail
    exact ⟨rfl, PPost.mk_err rfl hg⟩
  · obtain ⟨hg, ⟨v, rfl, hv⟩, hP⟩ := hp.ok rfl
    unfold strV at hv
    subst hv
    go_wp2_with (go_at_call 17; refine (num_any s (HSZ.out s l' rfl) _ hP.laid).mono ?_; rintro e w4 ⟨rfl, hb⟩)
    go_ret
    exact PPost.mk_ok rfl (grown_trans hg (grown_of_below hb _)) rfl (hP.grown hb)
def linesP : List S34 → List S34
  | [] => []
  | t :: r => if t.f0 = 4 then linesP r else t :: r
theorem isP_kind (k : Int) (l : List S34) : isP k ⟨#[]⟩ l = ((hd l).f0 == k) := by
  unfold isP
  have : (⟨#[]⟩ : ByteArray).toList.isEmpty = true := by rw [Lib.toList_data]; rfl
  rw [this, Bool.true_or, Bool.and_true]
def unitV (_ : Unit) (_ : World) (v : Value) : Prop := v = .tuple #[]
theorem linesP_not {l : List S34} (h : (hd l).f0 ≠ 4) : linesP l = l := by
  cases l with
  | nil => rfl
  | cons t r => exact if_neg h
theorem linesP_yes {l : List S34} (h0 : l ≠ []) (h : (hd l).f0 = 4) : linesP l = linesP l.tail := by
  cases l with
  | nil => exact absurd rfl h0
  | cons t r => exact if_pos h
def lenP (b : Nat) (w : World) : Nat := match w.cell? ⟨b, 0, none⟩ with | some (.slice _ n _) => n | _ => 0
theorem PInv.len {w : World} {b tb : Nat} {cs : Array Value} {l : List S34} {deep : Nat} (h : PInv w b tb cs l deep) : lenP b w = l.length := by
  obtain ⟨off, cap, h0, _⟩ := h.at0
  unfold lenP; rw [h0]
theorem take_line {l : List S34} (h : (hd l).f0 = 4) : takeP 4 [] l = .ok ((hd l).f1, l.tail) := by
  unfold takeP anyT; rw [h]; rfl
set_option maxHeartbeats 1600000 in
set_option maxRecDepth 100000 in
theorem lines_any {b tb : Nat} {cs : Array Value} {l : List S34} {deep : Nat} (w : World) (h : PInv w b tb cs l deep) :
    Calls Tryd.prog 75 #[.pointer (some ⟨b, 0, none⟩)] w (PPost w b tb cs deep unitV (.ok ((), linesP l))) := by
  have HI := Aside0.mk h
  clear h
  go_enter Tryd.func75, Tryd.ntmps75
  go_wp2_with fail
  go_loopw [] (fun wr => ∃ l' : List S34, PInv wr b tb cs l' deep ∧ Aside0 (w.grownBy wr (some b)) ∧ Aside0 (linesP l = linesP l')) (fun wr => lenP b wr)
  case atStart => exact ⟨l, HI.out, ⟨grown_refl _ _⟩, ⟨rfl⟩⟩
  case round =>
    obtain ⟨l', hP, hg, hl⟩ := hrel
    have HP := Aside0.mk hP
    clear hP
    have hK := isP_kind 4 l'
    by_cases h4 : (hd l').f0 = 4
    · have e4 : isP 4 ⟨#[]⟩ l' = true := by rw [hK, h4]; rfl
      have HE := Aside0.mk e4
      clear hK
      go_wp2_with (first | (go_at_call 80; refine (is_any 4 ⟨#[]⟩ _ HP.out).mono ?_; rw [HE.out]; rintro e w1 ⟨rfl, hb⟩))
      go_at_call 76
      refine (take_post 4 (by decide) _ [] _ (HP.out.grown hb) (Or.inl ⟨rfl, rfl⟩)).mono ?_
      intro e w3 hp
      obtain ⟨hg3, ⟨v, rfl, hv⟩, hP3⟩ := hp.ok (take_line h4)
      unfold strV at hv
      subst hv
      go_wp2_with fail
      go_roundw
      case rel => exact ⟨l'.tail, hP3, ⟨grown_trans hg.out (grown_below hb hg3)⟩, ⟨hl.out.trans (linesP_yes HP.out.pos h4)⟩⟩
      case measure =>
        rw [hP3.len, HP.out.len]
        have := List.length_pos_iff.2 HP.out.pos
        simp; omega
    · have e4 : isP 4 ⟨#[]⟩ l' = false := by rw [hK, beq_eq_false_iff_ne]; exact h4
      have HE := Aside0.mk e4
      clear hK
      go_wp2_with (first | (go_at_call 80; refine (is_any 4 ⟨#[]⟩ _ HP.out).mono ?_; rw [HE.out]; rintro e w1 ⟨rfl, hb⟩))
      go_end0
      exact PPost.mk_ok rfl (grown_trans hg.out (grown_of_below hb _)) rfl (by rw [hl.out, linesP_not h4]; exact HP.out.grown hb)

end Go.Proofs.YtdfjjimmnbijmaaDoor.PP

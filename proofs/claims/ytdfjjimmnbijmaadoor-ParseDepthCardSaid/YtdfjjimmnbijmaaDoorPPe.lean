import Derived.Test.YtdfjjimmnbijmaaDoorPPd
namespace Go.Proofs.YtdfjjimmnbijmaaDoor.PP
open Go.RowKit Go.Proofs.YtdfjjimmnbijmaaDoorW.PrintWords Go.Proofs.YtdfjjimmnbijmaaDoorW.PrintLast Go.Proofs.YtdfjjimmnbijmaaDoorW.PrintMore Go.Proofs.YtdfjjimmnbijmaaDoor.Base
attribute [local go_sem] max2_int min2_int max_two min_two max_three min_three max_four min_four
set_option linter.unusedVariables false
set_option linter.unusedSimpArgs false
def endP (l : List S34) : Except (Int × Int) (Unit × List S34) := if (hd l).f0 = 0 then .ok ((), linesP l) else bnd (takeP 4 [] l) fun x => .ok ((), linesP x.2)
set_option maxHeartbeats 1600000 in
set_option maxRecDepth 100000 in
theorem end_any {b tb : Nat} {cs : Array Value} {l : List S34} {deep : Nat} (w : World) (h : PInv w b tb cs l deep) :
    Calls Tryd.prog 78 #[.pointer (some ⟨b, 0, none⟩)] w (PPost w b tb cs deep unitV (endP l)) := by
  have HI := Aside0.mk h
  have hK := isP_kind 0 l
  by_cases h0 : (hd l).f0 = 0
  · have HE := Aside0.mk (show isP 0 ⟨#[]⟩ l = true by rw [hK, h0]; rfl)
    have hw : endP l = .ok ((), linesP l) := by unfold endP; rw [if_pos h0]
    rw [hw]
    clear hw hK h
    go_enter Tryd.func78, Tryd.ntmps78
    go_wp2_with (first | (go_at_call 80; refine (is_any 0 ⟨#[]⟩ _ HI.out).mono ?_; rw [HE.out]; rintro e w1 ⟨rfl, hb⟩))
    go_at_call 75
    refine (lines_any _ (HI.out.grown hb)).mono ?_
    intro e w3 hp
    obtain ⟨hg, ⟨v, rfl, hv⟩, hP⟩ := hp.ok rfl
    unfold unitV at hv
    subst hv
    go_wp2_with fail
    go_end0
    exact PPost.mk_ok rfl (grown_below hb hg) rfl hP
  · have HE := Aside0.mk (show isP 0 ⟨#[]⟩ l = false by rw [hK, beq_eq_false_iff_ne]; exact h0)
    obtain ⟨r, hr2⟩ : ∃ r, r = takeP 4 [] l := ⟨_, rfl⟩
    have HT := Aside0.mk (fun w (h : PInv w b tb cs l deep) => (by rw [hr2]; exact take_post 4 (by decide) _ [] w h (Or.inl ⟨rfl, rfl⟩) : Calls Tryd.prog 76 #[.pointer (some ⟨b, 0, none⟩), .int .i64 4, .slice none 0 0] w (PPost w b tb cs deep strV r)))
    have hw : endP l = bnd r fun x => .ok ((), linesP x.2) := by unfold endP; rw [if_neg h0, hr2]
    rw [hw]
    clear hw hK h hr2
    go_enter Tryd.func78, Tryd.ntmps78
    go_wp2_with (first | (go_at_call 80; refine (is_any 0 ⟨#[]⟩ _ HI.out).mono ?_; rw [HE.out]; rintro e w1 ⟨rfl, hb⟩))
    go_at_call 76
    refine (HT.out _ (HI.out.grown hb)).mono ?_
    intro e w3 hp
    rcases r with ⟨bad, at_⟩ | ⟨s, l'⟩
    · obtain ⟨hg, rfl⟩ := hp.err rfl
      go_wp2_with fail
      exact ⟨rfl, PPost.mk_err rfl (grown_below hb hg)⟩
    · obtain ⟨hg, ⟨v, rfl, hv⟩, hP⟩ := hp.ok rfl
      unfold strV at hv
      subst hv
      go_wp2_with fail
      go_at_call 75
      refine (lines_any _ hP).mono ?_
      intro e w4 hp4
      obtain ⟨hg4, ⟨v, rfl, hv⟩, hP4⟩ := hp4.ok rfl
      unfold unitV at hv
      subst hv
      go_wp2_with fail
      go_end0
      exact PPost.mk_ok rfl (grown_below hb (grown_trans hg hg4)) rfl hP4
def actP (l : List S34) : Except (Int × Int) ((ByteArray × Int) × List S34) :=
  bnd (wordP l) fun x => if (hd x.2).f0 = 2 then bnd (numP x.2) fun y => .ok ((x.1, y.1), y.2) else .ok ((x.1, 0), x.2)
def actV (x : ByteArray × Int) (_ : World) (v : Value) : Prop := v = .tuple #[.string x.1, .int .u64 x.2]
set_option maxHeartbeats 1600000 in
set_option maxRecDepth 100000 in
theorem action_any {b tb : Nat} {cs : Array Value} {l : List S34} {deep : Nat} (w : World) (h : PInv w b tb cs l deep) :
    Calls Tryd.prog 79 #[.pointer (some ⟨b, 0, none⟩)] w (PPost w b tb cs deep actV (actP l)) := by
  have HI := Aside0.mk h
  have HW := Aside0.mk (word_any w h)
  obtain ⟨R, hR⟩ : ∃ R, R = actP l := ⟨_, rfl⟩
  rw [← hR]
  have HR := Aside0.mk hR
  clear h hR
  go_enter Tryd.func79, Tryd.ntmps79
  go_wp2_with fail
  go_at_call 77
  refine HW.out.mono ?_
  intro e w1 hp
  cases hr : wordP l with
  | error x =>
    obtain ⟨bad, at_⟩ := x
    obtain ⟨hg, rfl⟩ := hp.err hr
    go_wp2_with fail
    exact ⟨rfl, PPost.mk_err (HR.out.trans (by unfold actP; rw [hr]; rfl)) hg⟩
  | ok x =>
    obtain ⟨s, l'⟩ := x
    obtain ⟨hg, ⟨v, rfl, hv⟩, hP⟩ := hp.ok hr
    unfold strV at hv
    subst hv
    have hK := isP_kind 2 l'
    have HP := Aside0.mk hP
    by_cases h2 : (hd l').f0 = 2
    · have HE := Aside0.mk (show isP 2 ⟨#[]⟩ l' = true by rw [hK, h2]; rfl)
      have HR2 := Aside0.mk (HR.out.trans (show actP l = bnd (numP l') fun y => .ok ((s, y.1), y.2) by unfold actP; rw [hr]; exact if_pos h2))
      clear hK hP hp
      go_wp2_with (first | (go_at_call 80; refine (is_any 2 ⟨#[]⟩ _ HP.out).mono ?_; rw [HE.out]; rintro e w2 ⟨rfl, hb⟩))
      go_at_call 117
      refine (number_any _ (HP.out.grown hb)).mono ?_
      intro e w3 hp3
      cases hr3 : numP l' with
      | error x =>
        obtain ⟨bad, at_⟩ := x
        obtain ⟨hg3, rfl⟩ := hp3.err hr3
        go_wp2_with fail
        exact ⟨rfl, PPost.mk_err (HR2.out.trans (by rw [hr3]; rfl)) (grown_trans hg (grown_below hb hg3))⟩
      | ok x =>
        obtain ⟨n, l3⟩ := x
        obtain ⟨hg3, ⟨v, rfl, hv⟩, hP3⟩ := hp3.ok hr3
        unfold intV at hv
        subst hv
        go_wp2_with fail
        go_ret2
        exact PPost.mk_ok (x := (s, n)) (l' := l3) (HR2.out.trans (by rw [hr3]; rfl)) (grown_trans hg (grown_below hb hg3)) rfl hP3
    · have HE := Aside0.mk (show isP 2 ⟨#[]⟩ l' = false by rw [hK, beq_eq_false_iff_ne]; exact h2)
      have HR2 := Aside0.mk (HR.out.trans (show actP l = .ok ((s, 0), l') by unfold actP; rw [hr]; exact if_neg h2))
      clear hK hP hp
      go_wp2_with (first | (go_at_call 80; refine (is_any 2 ⟨#[]⟩ _ HP.out).mono ?_; rw [HE.out]; rintro e w2 ⟨rfl, hb⟩))
      go_ret2
      exact PPost.mk_ok HR2.out (grown_trans hg (grown_of_below hb _)) rfl (HP.out.grown hb)

end Go.Proofs.YtdfjjimmnbijmaaDoor.PP

import Derived.Test.YtdfjjimmnbijmaaDoorLJp
namespace Go.Proofs.YtdfjjimmnbijmaaDoor.LJ
open Go.RowKit Go.Proofs.YtdfjjimmnbijmaaDoorW.PrintWords Go.Proofs.YtdfjjimmnbijmaaDoorW.PrintLast Go.Proofs.YtdfjjimmnbijmaaDoorW.PrintMore Go.Proofs.YtdfjjimmnbijmaaDoor.Base
attribute [local go_sem] max2_int min2_int max_two min_two max_three min_three max_four min_four
set_option linter.unusedVariables false
set_option linter.unusedSimpArgs false
set_option maxHeartbeats 6400000 in
set_option maxRecDepth 100000 in
theorem joins_any (a0 a1 : ByteArray) (w : World) (hLd : LaidAt w) :
    Calls Tryd.prog 6 #[.string a0, .string a1] w fun e w' => e = .returned (.bool true) ∧ Below w.heap.size w w' := by
  have HLD := Aside0.mk hLd
  clear hLd
  obtain ⟨j0, m0⟩ : ∃ j, mn (a0.size : Int) 900 = j := ⟨_, rfl⟩
  obtain ⟨j1, m1⟩ : ∃ j, mn (a1.size : Int) 900 = j := ⟨_, rfl⟩
  have m0_ : (if (900 : Int) < (a0.size : Int) then 900 else (a0.size : Int)) = j0 := by rw [← m0]; unfold mn; (first | rfl | (split <;> rfl) | (split <;> split <;> omega))
  have m1_ : (if (900 : Int) < (a1.size : Int) then 900 else (a1.size : Int)) = j1 := by rw [← m1]; unfold mn; (first | rfl | (split <;> rfl) | (split <;> split <;> omega))
  have b0 : (0 ≤ j0) = True := eq_true (by rw [← m0]; unfold mn; split <;> omega)
  have b1 : (0 ≤ j1) = True := eq_true (by rw [← m1]; unfold mn; split <;> omega)
  have l0 : (j0 ≤ (a0.size : Int)) = True := eq_true (by rw [← m0]; unfold mn; split <;> omega)
  have l1 : (j1 ≤ (a1.size : Int)) = True := eq_true (by rw [← m1]; unfold mn; split <;> omega)
  have hs : (a0.extract 0 j0.toNat).size ≤ 900 := by simp; rw [← m0]; unfold mn; split <;> omega
  have ht : (a1.extract 0 j1.toNat).size ≤ 900 := by simp; rw [← m1]; unfold mn; split <;> omega
  have HS := Aside0.mk hs
  have HT := Aside0.mk ht
  clear hs ht
  go_enter Tryd.func6, Tryd.ntmps6
  go_upto_region 1 with (fail)
  refine start_ (n := 12) (S := fun w' => True) (ds := []) #[false, false, false, false, false, false, false, false, false, false, false, false] (by kernel_rfl) rfl rfl trivial (fun hHeld => ?_)
  refine pure_ (i := 0) (N := some 17) (v := ?_) (a' := ?_) #[true, false, false, false, false, false, false, false, false, false, false, false] rfl rfl (by kernel_rfl) (fun _ _ _ h => h) (Or.inl ⟨by rfl, ?_⟩) ?_ ?_
  rotate_left
  · intro w'
    go_simp
    with_reducible rfl
  rotate_left
  · simp only [Act.put, List.setIfInBounds_toArray, List.set_cons_zero, List.set_cons_succ, i64_w, i32_w]
    rfl
  refine pure_ (i := 1) (N := some 18) (v := ?_) (a' := ?_) #[true, true, false, false, false, false, false, false, false, false, false, false] rfl rfl (by kernel_rfl) (fun _ _ _ h => h) (Or.inl ⟨by rfl, ?_⟩) ?_ ?_
  rotate_left
  · intro w'
    go_simp
    with_reducible rfl
  rotate_left
  · simp only [Act.put, List.setIfInBounds_toArray, List.set_cons_zero, List.set_cons_succ, i64_w, i32_w]
    rfl
  refine pure_ (i := 2) (N := some 19) (v := ?_) (a' := ?_) #[true, true, true, false, false, false, false, false, false, false, false, false] rfl rfl (by kernel_rfl) (fun _ _ _ h => h) (Or.inl ⟨by rfl, ?_⟩) ?_ ?_
  rotate_left
  · intro w'
    go_simp
    with_reducible rfl
  rotate_left
  · simp only [Act.put, List.setIfInBounds_toArray, List.set_cons_zero, List.set_cons_succ, i64_w, i32_w]
    rfl
  refine pure_ (i := 3) (N := some 20) (v := ?_) (a' := ?_) #[true, true, true, true, false, false, false, false, false, false, false, false] rfl rfl (by kernel_rfl) (fun _ _ _ h => h) (Or.inl ⟨by rfl, ?_⟩) ?_ ?_
  rotate_left
  · intro w'
    go_simp
    with_reducible rfl
  rotate_left
  · simp only [Act.put, List.setIfInBounds_toArray, List.set_cons_zero, List.set_cons_succ, i64_w, i32_w]
    rfl
  refine pure_ (i := 4) (N := some 21) (v := ?_) (a' := ?_) #[true, true, true, true, true, false, false, false, false, false, false, false] rfl rfl (by kernel_rfl) (fun _ _ _ h => h) (Or.inl ⟨by rfl, ?_⟩) ?_ ?_
  rotate_left
  · intro w'
    go_simp
    with_reducible rfl
  rotate_left
  · simp only [Act.put, List.setIfInBounds_toArray, List.set_cons_zero, List.set_cons_succ, i64_w, i32_w]
    rfl
  refine pure_ (i := 5) (N := some 22) (v := ?_) (a' := ?_) #[true, true, true, true, true, true, false, false, false, false, false, false] rfl rfl (by kernel_rfl) (fun _ _ _ h => h) (Or.inl ⟨by rfl, ?_⟩) ?_ ?_
  rotate_left
  · intro w'
    go_simp
    with_reducible rfl
  rotate_left
  · simp only [Act.put, List.setIfInBounds_toArray, List.set_cons_zero, List.set_cons_succ, i64_w, i32_w]
    rfl
  refine pure_ (i := 6) (N := some 23) (v := ?_) (a' := ?_) #[true, true, true, true, true, true, true, false, false, false, false, false] rfl rfl (by kernel_rfl) (fun _ _ _ h => h) (Or.inl ⟨by rfl, ?_⟩) ?_ ?_
  rotate_left
  · intro w'
    go_simp
    with_reducible rfl
  rotate_left
  · simp only [Act.put, List.setIfInBounds_toArray, List.set_cons_zero, List.set_cons_succ, i64_w, i32_w]
    rfl
  refine pure_ (i := 7) (N := some 24) (v := ?_) (a' := ?_) #[true, true, true, true, true, true, true, true, false, false, false, false] rfl rfl (by kernel_rfl) (fun _ _ _ h => h) (Or.inl ⟨by rfl, ?_⟩) ?_ ?_
  rotate_left
  · intro w'
    go_simp
    with_reducible rfl
  rotate_left
  · simp only [Act.put, List.setIfInBounds_toArray, List.set_cons_zero, List.set_cons_succ, i64_w, i32_w]
    rfl
  refine pure_ (i := 8) (N := some 25) (v := ?_) (a' := ?_) #[true, true, true, true, true, true, true, true, true, false, false, false] rfl rfl (by kernel_rfl) (fun _ _ _ h => h) (Or.inl ⟨by rfl, ?_⟩) ?_ ?_
  rotate_left
  · intro w'
    go_simp
    with_reducible rfl
  rotate_left
  · simp only [Act.put, List.setIfInBounds_toArray, List.set_cons_zero, List.set_cons_succ, i64_w, i32_w]
    rfl
  refine pure_ (i := 9) (N := some 26) (v := ?_) (a' := ?_) #[true, true, true, true, true, true, true, true, true, true, false, false] rfl rfl (by kernel_rfl) (fun _ _ _ h => h) (Or.inl ⟨by rfl, ?_⟩) ?_ ?_
  rotate_left
  · intro w'
    go_simp
    with_reducible rfl
  rotate_left
  · simp only [Act.put, List.setIfInBounds_toArray, List.set_cons_zero, List.set_cons_succ, i64_w, i32_w]
    rfl
  refine pure_ (i := 10) (N := some 0) (v := ?_) (a' := ?_) #[true, true, true, true, true, true, true, true, true, true, true, false] rfl rfl (by kernel_rfl) (fun _ _ _ h => h) (Or.inl ⟨by rfl, ?_⟩) ?_ ?_
  rotate_left
  · intro w'
    go_simp
    with_reducible rfl
  rotate_left
  · simp only [Act.put, List.setIfInBounds_toArray, List.set_cons_zero, List.set_cons_succ, i64_w, i32_w]
    rfl
  refine pure_ (i := 11) (N := some 1) (v := ?_) (a' := ?_) #[true, true, true, true, true, true, true, true, true, true, true, true] rfl rfl (by kernel_rfl) (fun _ _ _ h => h) (Or.inl ⟨by rfl, ?_⟩) ?_ ?_
  rotate_left
  · intro w'
    go_simp
    with_reducible rfl
  rotate_left
  · simp only [Act.put, List.setIfInBounds_toArray, List.set_cons_zero, List.set_cons_succ, i64_w, i32_w]
    rfl
  refine done_ (by kernel_rfl) ?_
  obtain ⟨s, es⟩ : ∃ s, s = a0.extract 0 j0.toNat := ⟨_, rfl⟩
  obtain ⟨t, et⟩ : ∃ t, t = a1.extract 0 j1.toNat := ⟨_, rfl⟩
  rw [← es] at HS ⊢
  rw [← et] at HT ⊢
  clear es et m0 m1 m0_ m1_ b0 b1 l0 l1
  have HB0 := Aside0.mk ((Below.refl w.heap.size w).drew)
  have z0 : (9223372036854775807 < s.size + 1) = False := eq_false (by have := HS.out; omega)
  have z1 : (9223372036854775807 < s.size + 1 + t.size) = False := eq_false (by have := HS.out; have := HT.out; omega)
  have hx1 := fun w h => lex_any s w h
  have hx2 := fun w h => lex_any t w h
  have hx3 := fun w h => lex_any (jS s t) w h
  have hal := fun (w : World) (h : LaidAt w) => doorwardlaw14_alive.calls true w h alive_f
  have HAL := Aside0.mk hal
  clear hal
  cases hLs : LB s.data.toList 0 with
  | error p =>
    obtain ⟨e1, e3, hp⟩ := joins_err1 HS.out HT.out hLs
    rw [e1] at hx1
    rw [e3] at hx3
    obtain ⟨⟨B, f, q⟩, hB⟩ : ∃ q, q = lexS t := ⟨_, rfl⟩
    rw [← hB] at hx2
    simp only at hx1 hx2 hx3
    have HX1 := Aside0.mk hx1
    have HX2 := Aside0.mk hx2
    have HX3 := Aside0.mk hx3
    have HPP := Aside0.mk hp
    have lp : ((p : Int) ≤ (s.size : Int) + 1 + (t.size : Int)) = True := eq_true (by omega)
    clear hx1 hx2 hx3 hB hLs e1 e3 hp
    go_wp2_with fail
    go_at_call 15
    refine (HX1.out _ (LaidAt.of HLD.out HB0.out)).mono ?_
    rintro e w1 ⟨va, rfl, hA, hb1⟩
    have HB1 := Aside0.mk (HB0.out.trans hb1)
    have HA := Aside0.mk (show Kd.R k34 34 w1 w.heap.size (fun _ => True) va _ from hA)
    clear hb1 hA
    go_wp2_with fail
    go_at_call 15
    refine (HX2.out _ (LaidAt.of HLD.out HB1.out)).mono ?_
    rintro e w2 ⟨vb, rfl, hB, hb2⟩
    have HB2 := Aside0.mk (HB1.out.trans (hb2.mono HB1.out.size))
    have HA2 := Aside0.mk (Kd.R_below HA.out hb2)
    have HBk := Aside0.mk (Kd.R_lower hB HB1.out.size)
    clear hb2 hB HA
    go_wp2_with fail
    go_at_call 15
    refine (HX3.out _ (LaidAt.of HLD.out HB2.out)).mono ?_
    rintro e w3 ⟨vc, rfl, hC, hb3⟩
    have HB3 := Aside0.mk (HB2.out.trans (hb3.mono HB2.out.size))
    have HA3 := Aside0.mk (Kd.R_below HA2.out hb3)
    have HBk3 := Aside0.mk (Kd.R_below HBk.out hb3)
    have HC3 := Aside0.mk (Kd.R_lower hC HB2.out.size)
    clear hb3 hC HA2 HBk
    obtain ⟨XA, ca, ea⟩ := Kd.R_slice HA3.out
    obtain ⟨XB, cb, eb⟩ := Kd.R_slice HBk3.out
    obtain ⟨XC, cc, ec⟩ := Kd.R_slice HC3.out
    subst ea
    subst eb
    subst ec
    have ws : wrap64 ((s.size : Int) + 1) = (s.size : Int) + 1 := by have := HS.out; unfold wrap64; omega
    have wt : wrap64 ((s.size : Int) + 1 + (t.size : Int)) = (s.size : Int) + 1 + (t.size : Int) := by have := HS.out; have := HT.out; unfold wrap64; omega
    cases hf : (f == 0) with
    | true =>
      have hf2 : (f != 0) = false := by simpa [bne] using hf
      go_wp2_with (go_at_call 19; refine (HAL.out _ (LaidAt.of HLD.out HB3.out)).mono ?_; rintro e w4 ⟨rfl, hb4⟩)
      go_ret
      exact ⟨rfl, HB3.out.trans (hb4.mono HB3.out.size)⟩
    | false =>
      have hf2 : (f != 0) = true := by simpa [bne] using hf
      go_wp2_with (go_at_call 19; refine (HAL.out _ (LaidAt.of HLD.out HB3.out)).mono ?_; rintro e w4 ⟨rfl, hb4⟩)
      go_ret
      exact ⟨rfl, HB3.out.trans (hb4.mono HB3.out.size)⟩
  | ok L =>
  cases hLt : LB t.data.toList 0 with
  | error p =>
    obtain ⟨e1, e2, e3, hp⟩ := joins_err2 HS.out HT.out hLs hLt
    obtain ⟨at_, hat⟩ : ∃ a : Int, a = ((p + (s.size + 1) : Nat) : Int) := ⟨_, rfl⟩
    rw [← hat] at e3
    obtain ⟨LA, hLA⟩ : ∃ q, q = L ++ [endK s.size] := ⟨_, rfl⟩
    rw [← hLA] at e1
    rw [e1] at hx1
    rw [e2] at hx2
    rw [e3] at hx3
    simp only at hx1 hx2 hx3
    have HX1 := Aside0.mk hx1
    have HX2 := Aside0.mk hx2
    have HX3 := Aside0.mk hx3
    have lp : (at_ ≤ (s.size : Int) + 1 + (t.size : Int)) = True := eq_true (by omega)
    clear hx1 hx2 hx3 hLs hLt e1 e2 e3 hp hat hLA
    go_wp2_with fail
    go_at_call 15
    refine (HX1.out _ (LaidAt.of HLD.out HB0.out)).mono ?_
    rintro e w1 ⟨va, rfl, hA, hb1⟩
    have HB1 := Aside0.mk (HB0.out.trans hb1)
    have HA := Aside0.mk (show Kd.R k34 34 w1 w.heap.size (fun _ => True) va _ from hA)
    clear hb1 hA
    go_wp2_with fail
    go_at_call 15
    refine (HX2.out _ (LaidAt.of HLD.out HB1.out)).mono ?_
    rintro e w2 ⟨vb, rfl, hB, hb2⟩
    have HB2 := Aside0.mk (HB1.out.trans (hb2.mono HB1.out.size))
    have HA2 := Aside0.mk (Kd.R_below HA.out hb2)
    have HBk := Aside0.mk (Kd.R_lower hB HB1.out.size)
    clear hb2 hB HA
    go_wp2_with fail
    go_at_call 15
    refine (HX3.out _ (LaidAt.of HLD.out HB2.out)).mono ?_
    rintro e w3 ⟨vc, rfl, hC, hb3⟩
    have HB3 := Aside0.mk (HB2.out.trans (hb3.mono HB2.out.size))
    have HA3 := Aside0.mk (Kd.R_below HA2.out hb3)
    have HBk3 := Aside0.mk (Kd.R_below HBk.out hb3)
    have HC3 := Aside0.mk (Kd.R_lower hC HB2.out.size)
    clear hb3 hC HA2 HBk
    obtain ⟨XA, ca, ea⟩ := Kd.R_slice HA3.out
    obtain ⟨XB, cb, eb⟩ := Kd.R_slice HBk3.out
    obtain ⟨XC, cc, ec⟩ := Kd.R_slice HC3.out
    subst ea
    subst eb
    subst ec
    have ws : wrap64 ((s.size : Int) + 1) = (s.size : Int) + 1 := by have := HS.out; unfold wrap64; omega
    have wt : wrap64 ((s.size : Int) + 1 + (t.size : Int)) = (s.size : Int) + 1 + (t.size : Int) := by have := HS.out; have := HT.out; unfold wrap64; omega
    go_wp2_with (go_at_call 19; refine (HAL.out _ (LaidAt.of HLD.out HB3.out)).mono ?_; rintro e w4 ⟨rfl, hb4⟩)
    go_ret
    exact ⟨rfl, HB3.out.trans (hb4.mono HB3.out.size)⟩
  | ok M =>
    obtain ⟨e1, e2, e3⟩ := joins_ok HS.out HT.out hLs hLt
    have hlA := lexS_lim1 (s := s) (by rw [e1])
    have hlB := lexS_lim1 (s := t) (by rw [e2])
    rw [e1] at hx1 hlA
    rw [e2] at hx2 hlB
    rw [show lexS (jS s t) = (L ++ lineT s.size :: (M ++ [endK t.size]).map (shT (s.size + 1)), 0, 0) from e3] at hx3
    simp only at hx1 hx2 hx3 hlA hlB
    obtain ⟨LA, hLA⟩ : ∃ q, q = L ++ [endK s.size] := ⟨_, rfl⟩
    obtain ⟨LB_, hLB⟩ : ∃ q, q = M ++ [endK t.size] := ⟨_, rfl⟩
    obtain ⟨LC, hLC⟩ : ∃ q, q = L ++ lineT s.size :: (M ++ [endK t.size]).map (shT (s.size + 1)) := ⟨_, rfl⟩
    have nA : LA.length = L.length + 1 := by rw [hLA]; simp
    have nB : LB_.length = M.length + 1 := by rw [hLB]; simp
    have nC : LC.length = LA.length + LB_.length := by rw [hLC, nA, nB]; simp; omega
    have gA : ∀ i x, i + 1 < LA.length → LC[i]? = some x → LA[i]? = some x := by
      intro i x hi hx
      rw [nA] at hi
      rw [hLC, List.getElem?_append_left (by omega)] at hx
      rw [hLA, List.getElem?_append_left (by omega)]; exact hx
    have gL : ∀ x, LC[LA.length - 1]? = some x → x = lineT s.size := by
      intro x hx
      rw [nA, hLC, Nat.add_sub_cancel, List.getElem?_append_right (Nat.le_refl _), Nat.sub_self] at hx
      exact (Option.some.inj hx).symm
    have gB : ∀ i x, LA.length ≤ i → LC[i]? = some x → ∃ y, LB_[i - LA.length]? = some y ∧ x = shT (s.size + 1) y := by
      intro i x hi hx
      rw [nA] at hi
      rw [hLC, List.getElem?_append_right (by omega), show i - L.length = (i - LA.length) + 1 by omega, List.getElem?_cons_succ, ← hLB, List.getElem?_map] at hx
      cases hq : LB_[i - LA.length]? with
      | none => rw [hq] at hx; cases hx
      | some y => rw [hq] at hx; exact ⟨y, rfl, (Option.some.inj hx).symm⟩
    rw [← hLA] at hx1 hlA
    rw [← hLB] at hx2 hlB
    rw [← hLC] at hx3
    have HX1 := Aside0.mk hx1
    have HX2 := Aside0.mk hx2
    have HX3 := Aside0.mk hx3
    have YB := Aside0.mk (joins_at (t := t) (M := M) HT.out hLt)
    rw [← hLB] at YB
    have GA := Aside0.mk gA
    have GL := Aside0.mk gL
    have GB := Aside0.mk gB
    have NA := Aside0.mk nA
    have NB := Aside0.mk nB
    have NC := Aside0.mk nC
    have LIA := Aside0.mk hlA
    have LIB := Aside0.mk hlB
    clear hx1 hx2 hx3 hLs hLt e1 e2 e3 hLA hLB hLC nA nB nC gA gL gB hlA hlB
    go_wp2_with fail
    go_at_call 15
    refine (HX1.out _ (LaidAt.of HLD.out HB0.out)).mono ?_
    rintro e w1 ⟨va, rfl, hA, hb1⟩
    have HB1 := Aside0.mk (HB0.out.trans hb1)
    have HA := Aside0.mk (show Kd.R k34 34 w1 w.heap.size (fun _ => True) va _ from hA)
    clear hb1 hA
    go_wp2_with fail
    go_at_call 15
    refine (HX2.out _ (LaidAt.of HLD.out HB1.out)).mono ?_
    rintro e w2 ⟨vb, rfl, hB, hb2⟩
    have HB2 := Aside0.mk (HB1.out.trans (hb2.mono HB1.out.size))
    have HA2 := Aside0.mk (Kd.R_below HA.out hb2)
    have HBk := Aside0.mk (Kd.R_lower hB HB1.out.size)
    clear hb2 hB HA
    go_wp2_with fail
    go_at_call 15
    refine (HX3.out _ (LaidAt.of HLD.out HB2.out)).mono ?_
    rintro e w3 ⟨vc, rfl, hC, hb3⟩
    have HB3 := Aside0.mk (HB2.out.trans (hb3.mono HB2.out.size))
    have HA3 := Aside0.mk (Kd.R_below HA2.out hb3)
    have HBk3 := Aside0.mk (Kd.R_below HBk.out hb3)
    have HC3 := Aside0.mk (Kd.R_lower hC HB2.out.size)
    clear hb3 hC HA2 HBk
    obtain ⟨XA, ca, ea⟩ := Kd.R_slice HA3.out
    obtain ⟨XB, cb, eb⟩ := Kd.R_slice HBk3.out
    obtain ⟨XC, cc, ec⟩ := Kd.R_slice HC3.out
    subst ea
    subst eb
    subst ec
    have ws : wrap64 ((s.size : Int) + 1) = (s.size : Int) + 1 := by have := HS.out; unfold wrap64; omega
    have lC : ((LC.length : Int) != wrap64 ((LA.length : Int) + (LB_.length : Int))) = false := by
      have := NC.out; have := LIA.out; have := LIB.out
      rw [show wrap64 ((LA.length : Int) + (LB_.length : Int)) = (LC.length : Int) by unfold wrap64; omega]; simp
    have nzA : ((LA.length : Int) == 0) = false := by rw [beq_eq_false_iff_ne]; have := NA.out; omega
    have nzB : ((LB_.length : Int) == 0) = false := by rw [beq_eq_false_iff_ne]; have := NB.out; omega
    have nzA' : (LA = []) = False := eq_false (by intro e; have := NA.out; rw [e] at this; simp at this)
    have nzB' : (LB_ = []) = False := eq_false (by intro e; have := NB.out; rw [e] at this; simp at this)
    have hneA : LA ≠ [] := by intro e; have := NA.out; rw [e] at this; simp at this
    have hneB : LB_ ≠ [] := by intro e; have := NB.out; rw [e] at this; simp at this
    have hneC : LC ≠ [] := by intro e; have := NC.out; have := NA.out; rw [e] at *; simp at *; omega
    obtain ⟨gA, pA, csA, eA, hpA, _, hkA, hcA⟩ := toks_row HA3.out hneA
    obtain ⟨gB, pB, csB, eB, hpB, _, hkB, hcB⟩ := toks_row HBk3.out hneB
    obtain ⟨gC, pC, csC, eC, hpC, _, hkC, hcC⟩ := toks_row HC3.out hneC
    cases eA
    cases eB
    cases eC
    have KA := Aside0.mk hkA
    have KB := Aside0.mk hkB
    have KC := Aside0.mk hkC
    have CA := Aside0.mk hcA
    have CB := Aside0.mk hcB
    have CC := Aside0.mk hcC
    clear hkA hkB hkC hcA hcB hcC hneA hneB hneC hpA hpB hpC
    go_wp2_with fail
    clear lC nzA nzB nzA' nzB'
    go_loopw [106] (fun v106 wr => ∃ i : Nat, v106 = .int .i64 i ∧ Aside0 (i ≤ LC.length) ∧ Aside0 (Below w3.heap.size w3 wr)) (fun v106 _ => LC.length - (intOf v106).toNat)
    case atStart => exact ⟨0, rfl, ⟨Nat.zero_le _⟩, ⟨Below.refl _ _⟩⟩
    case round =>
      obtain ⟨i, rfl, hi, RB⟩ := hrel
      by_cases hil : i < LC.length
      · have hd : decide ((i : Int) < (LC.length : Int)) = true := decide_eq_true (by omega)
        have hdn : (i < LC.length) = True := eq_true hil
        have hi0 : (0 ≤ (i : Int)) = True := eq_true (Int.natCast_nonneg i)
        have hi1 : ((i : Int) < (LC.length : Int)) = True := eq_true (by omega)
        obtain ⟨x, hx⟩ : ∃ x, LC[i]? = some x := ⟨_, List.getElem?_eq_getElem hil⟩
        obtain ⟨q0, q1, q2⟩ := CC.out i x hx
        rw [Nat.zero_add] at q0 q1 q2
        have hkC := (RB.out.block gC (blk_lt KC.out)).trans KC.out
        have x0 : wr.cell? ⟨gC, i * 3, none⟩ = some (.int .i64 x.f0) := (blk_cell hkC _).trans q0
        have x1 : wr.cell? ⟨gC, i * 3 + 1, none⟩ = some (.string x.f1) := (blk_cell hkC _).trans q1
        have x2 : wr.cell? ⟨gC, i * 3 + 2, none⟩ = some (.int .i64 x.f2) := (blk_cell hkC _).trans q2
        have HXX := Aside0.mk hx
        have HIL := Aside0.mk hil
        clear hx q0 q1 q2 hkC hil
        go_upto_region 13 with (fail)
        clear x0 x1 x2
        have P0 := blk_alloc (blk_new wr (.cells #[.int .i64 x.f0, .string x.f1, .int .i64 x.f2] 34)) (.cells #[.int .i64 4, .string ⟨#[10]⟩, .int .i64 (s.size : Int)] 34)
        have P1 : ((wr.alloc (.cells #[.int .i64 x.f0, .string x.f1, .int .i64 x.f2] 34)).alloc (.cells #[.int .i64 4, .string ⟨#[10]⟩, .int .i64 (s.size : Int)] 34)).heap[wr.heap.size + 1]? = some (.cells #[.int .i64 4, .string ⟨#[10]⟩, .int .i64 (s.size : Int)] 34 (0, 0)) := by
          have h_ := blk_new (wr.alloc (.cells #[.int .i64 x.f0, .string x.f1, .int .i64 x.f2] 34)) (.cells #[.int .i64 4, .string ⟨#[10]⟩, .int .i64 (s.size : Int)] 34)
          rw [World.size_alloc] at h_; exact h_
        have PBx := (RB.out.alloc RB.out.size (.cells #[.int .i64 x.f0, .string x.f1, .int .i64 x.f2] 34)).alloc (by have := RB.out.size; simp; omega) (.cells #[.int .i64 4, .string ⟨#[10]⟩, .int .i64 (s.size : Int)] 34)
        have PP0 := Aside0.mk P0
        have PP1 := Aside0.mk P1
        have PPB := Aside0.mk PBx
        have PGE := Aside0.mk RB.out.size
        clear P0 P1 PBx
        obtain ⟨V, hV⟩ : ∃ V, V = (wr.alloc (.cells #[.int .i64 x.f0, .string x.f1, .int .i64 x.f2] 34)).alloc (.cells #[.int .i64 4, .string ⟨#[10]⟩, .int .i64 (s.size : Int)] 34) := ⟨_, rfl⟩
        rw [← hV] at PP0 PP1 PPB ⊢
        clear hV
        obtain ⟨G, hG⟩ : ∃ G, G = wr.heap.size := ⟨_, rfl⟩
        rw [← hG] at PP0 PP1 PGE ⊢
        clear hG RB
        have w1_ : wrap64 ((LA.length : Int) - 1) = (LA.length : Int) - 1 := by have := NA.out; have := LIA.out; unfold wrap64; omega
        by_cases ha : i + 1 < LA.length
        · have da : decide ((i : Int) < (LA.length : Int) - 1) = true := decide_eq_true (by omega)
          have ia : ((i : Int) < (LA.length : Int)) = True := eq_true (by omega)
          obtain ⟨q0, q1, q2⟩ := CA.out i x (GA.out i x ha HXX.out)
          rw [Nat.zero_add] at q0 q1 q2
          have hkA := (PPB.out.block gA (blk_lt KA.out)).trans KA.out
          have y0 : V.cell? ⟨gA, i * 3, none⟩ = some (.int .i64 x.f0) := (blk_cell hkA _).trans q0
          have y1 : V.cell? ⟨gA, i * 3 + 1, none⟩ = some (.string x.f1) := (blk_cell hkA _).trans q1
          have y2 : V.cell? ⟨gA, i * 3 + 2, none⟩ = some (.int .i64 x.f2) := (blk_cell hkA _).trans q2
          have v0 : V.cell? ⟨G + 1, 0, none⟩ = some (.int .i64 4) := blk_cell PP1.out 0
          have v1 : V.cell? ⟨G + 1, 1, none⟩ = some (.string ⟨#[10]⟩) := blk_cell PP1.out 1
          have v2 : V.cell? ⟨G + 1, 2, none⟩ = some (.int .i64 (s.size : Int)) := blk_cell PP1.out 2
          have u0 := blk_frozen PP1.out 0
          have u1 := blk_frozen PP1.out 1
          have u2 := blk_frozen PP1.out 2
          clear q0 q1 q2 hkA ha
          go_upto_region 18 with (fail)
          have k1 := blk_put (cs' := #[.int .i64 x.f0, .string ⟨#[10]⟩, .int .i64 (s.size : Int)]) PP1.out 0 (.int .i64 x.f0) rfl
          have k2 := blk_put (cs' := #[.int .i64 x.f0, .string x.f1, .int .i64 (s.size : Int)]) k1 1 (.string x.f1) rfl
          have k3 := blk_put (cs' := #[.int .i64 x.f0, .string x.f1, .int .i64 x.f2]) k2 2 (.int .i64 x.f2) rfl
          have nG : G ≠ G + 1 := by omega
          have r1 := blk_far PP0.out (p := ⟨G + 1, 0, none⟩) nG (.int .i64 x.f0)
          have r2 := blk_far r1 (p := ⟨G + 1, 1, none⟩) nG (.string x.f1)
          have r3 := blk_far r2 (p := ⟨G + 1, 2, none⟩) nG (.int .i64 x.f2)
          have ub := ((PPB.out.setCell (p := ⟨G + 1, 0, none⟩) (by have := PGE.out; show w3.heap.size ≤ G + 1; omega) (.int .i64 x.f0)).setCell (p := ⟨G + 1, 1, none⟩) (by have := PGE.out; show w3.heap.size ≤ G + 1; omega) (.string x.f1)).setCell (p := ⟨G + 1, 2, none⟩) (by have := PGE.out; show w3.heap.size ≤ G + 1; omega) (.int .i64 x.f2)
          clear v0 v1 v2 u0 u1 u2 k1 k2
          have UH := Aside0.mk k3
          have UG := Aside0.mk r3
          have UB := Aside0.mk ub
          clear k3 r1 r2 r3 ub nG
          obtain ⟨U, hU⟩ : ∃ U, U = ((V.setCell ⟨G + 1, 0, none⟩ (.int .i64 x.f0)).setCell ⟨G + 1, 1, none⟩ (.string x.f1)).setCell ⟨G + 1, 2, none⟩ (.int .i64 x.f2) := ⟨_, rfl⟩
          rw [← hU] at UH UG UB ⊢
          clear hU
          have fx0 : U.cell? ⟨G, 0, none⟩ = some (.int .i64 x.f0) := blk_cell UG.out 0
          have fx1 : U.cell? ⟨G, 1, none⟩ = some (.string x.f1) := blk_cell UG.out 1
          have fx2 : U.cell? ⟨G, 2, none⟩ = some (.int .i64 x.f2) := blk_cell UG.out 2
          have fw0 : U.cell? ⟨G + 1, 0, none⟩ = some (.int .i64 x.f0) := blk_cell UH.out 0
          have fw1 : U.cell? ⟨G + 1, 1, none⟩ = some (.string x.f1) := blk_cell UH.out 1
          have fw2 : U.cell? ⟨G + 1, 2, none⟩ = some (.int .i64 x.f2) := blk_cell UH.out 2
          go_wp2_with fail
          go_roundw
          case rel => exact ⟨i + 1, by have := HIL.out; have := NC.out; have := LIA.out; have := LIB.out; rw [show wrap64 ((i : Int) + 1) = ((i + 1 : Nat) : Int) by unfold wrap64; omega], ⟨HIL.out⟩, ⟨UB.out⟩⟩
          case measure =>
            have := HIL.out
            have := NC.out
            have := LIA.out
            have := LIB.out
            rw [show wrap64 ((i : Int) + 1) = ((i + 1 : Nat) : Int) by unfold wrap64; omega]
            simp only [intOf, Int.toNat_natCast]
            omega
        · by_cases hb : i + 1 = LA.length
          · have da : decide ((i : Int) < (LA.length : Int) - 1) = false := decide_eq_false (by omega)
            have db : decide ((i : Int) ≥ (LA.length : Int)) = false := decide_eq_false (by omega)
            have dbn : (LA.length ≤ i) = False := eq_false (by omega)
            have dan : (i < LA.length - 1) = False := eq_false (by omega)
            have db' : decide ((LA.length : Int) ≤ (i : Int)) = false := decide_eq_false (by omega)
            have ex : x = lineT s.size := GL.out x (by rw [← hb, Nat.add_sub_cancel]; exact HXX.out)
            subst ex
            clear ha hb
            have fx0 : V.cell? ⟨G, 0, none⟩ = some (.int .i64 4) := blk_cell PP0.out 0
            have fx1 : V.cell? ⟨G, 1, none⟩ = some (.string ⟨#[10]⟩) := blk_cell PP0.out 1
            have fx2 : V.cell? ⟨G, 2, none⟩ = some (.int .i64 (s.size : Int)) := blk_cell PP0.out 2
            have fw0 : V.cell? ⟨G + 1, 0, none⟩ = some (.int .i64 4) := blk_cell PP1.out 0
            have fw1 : V.cell? ⟨G + 1, 1, none⟩ = some (.string ⟨#[10]⟩) := blk_cell PP1.out 1
            have fw2 : V.cell? ⟨G + 1, 2, none⟩ = some (.int .i64 (s.size : Int)) := blk_cell PP1.out 2
            go_wp2_with fail
            go_roundw
            case rel => exact ⟨i + 1, by have := HIL.out; have := NC.out; have := LIA.out; have := LIB.out; rw [show wrap64 ((i : Int) + 1) = ((i + 1 : Nat) : Int) by unfold wrap64; omega], ⟨HIL.out⟩, ⟨PPB.out⟩⟩
            case measure =>
              have := HIL.out
              have := NC.out
              have := LIA.out
              have := LIB.out
              rw [show wrap64 ((i : Int) + 1) = ((i + 1 : Nat) : Int) by unfold wrap64; omega]
              simp only [intOf, Int.toNat_natCast]
              omega
          · have da : decide ((i : Int) < (LA.length : Int) - 1) = false := decide_eq_false (by omega)
            have db : decide ((i : Int) ≥ (LA.length : Int)) = true := decide_eq_true (by omega)
            have db' : decide ((LA.length : Int) ≤ (i : Int)) = true := decide_eq_true (by omega)
            have dbn : (LA.length ≤ i) = True := eq_true (by omega)
            obtain ⟨y, hy, ex⟩ := GB.out i x (by omega) HXX.out
            obtain ⟨j, hj⟩ : ∃ j, j = i - LA.length := ⟨_, rfl⟩
            have hjl : j < LB_.length := by have := HIL.out; have := NC.out; omega
            have hwj : wrap64 ((i : Int) - (LA.length : Int)) = (j : Int) := by have := HIL.out; have := NC.out; have := LIA.out; have := LIB.out; unfold wrap64; omega
            have hj0 : (0 ≤ (j : Int)) = True := eq_true (Int.natCast_nonneg j)
            have hj1 : ((j : Int) < (LB_.length : Int)) = True := eq_true (by omega)
            have hj2 : (j < LB_.length) = True := eq_true hjl
            rw [← hj] at hy
            have hyb := YB.out j y hy
            obtain ⟨q0, q1, q2⟩ := CB.out j y hy
            rw [Nat.zero_add] at q0 q1 q2
            have hkB := (PPB.out.block gB (blk_lt KB.out)).trans KB.out
            have y0 : V.cell? ⟨gB, j * 3, none⟩ = some (.int .i64 y.f0) := (blk_cell hkB _).trans q0
            have y1 : V.cell? ⟨gB, j * 3 + 1, none⟩ = some (.string y.f1) := (blk_cell hkB _).trans q1
            have y2 : V.cell? ⟨gB, j * 3 + 2, none⟩ = some (.int .i64 y.f2) := (blk_cell hkB _).trans q2
            have v0 : V.cell? ⟨G + 1, 0, none⟩ = some (.int .i64 4) := blk_cell PP1.out 0
            have v1 : V.cell? ⟨G + 1, 1, none⟩ = some (.string ⟨#[10]⟩) := blk_cell PP1.out 1
            have v2 : V.cell? ⟨G + 1, 2, none⟩ = some (.int .i64 (s.size : Int)) := blk_cell PP1.out 2
            have u0 := blk_frozen PP1.out 0
            have u1 := blk_frozen PP1.out 1
            have u2 := blk_frozen PP1.out 2
            have e0 : x.f0 = y.f0 := by rw [ex]; rfl
            have e1 : x.f1 = y.f1 := by rw [ex]; rfl
            have e2 : wrap64 (y.f2 + ((s.size : Int) + 1)) = x.f2 := by
              have := HS.out
              rw [ex]
              show _ = y.f2 + ((s.size + 1 : Nat) : Int)
              unfold wrap64; omega
            have E0 := Aside0.mk e0
            have E1 := Aside0.mk e1
            clear e0 e1 ex hy hyb q0 q1 q2 hkB ha hb hj hjl
            go_upto_region 18 with (fail)
            rw [← E0.out, ← E1.out]
            have k1 := blk_put (cs' := #[.int .i64 x.f0, .string ⟨#[10]⟩, .int .i64 (s.size : Int)]) PP1.out 0 (.int .i64 x.f0) rfl
            have k2 := blk_put (cs' := #[.int .i64 x.f0, .string x.f1, .int .i64 (s.size : Int)]) k1 1 (.string x.f1) rfl
            have k3 := blk_put (cs' := #[.int .i64 x.f0, .string x.f1, .int .i64 y.f2]) k2 2 (.int .i64 y.f2) rfl
            have nG : G ≠ G + 1 := by omega
            have r1 := blk_far PP0.out (p := ⟨G + 1, 0, none⟩) nG (.int .i64 x.f0)
            have r2 := blk_far r1 (p := ⟨G + 1, 1, none⟩) nG (.string x.f1)
            have r3 := blk_far r2 (p := ⟨G + 1, 2, none⟩) nG (.int .i64 y.f2)
            have ub := ((PPB.out.setCell (p := ⟨G + 1, 0, none⟩) (by have := PGE.out; show w3.heap.size ≤ G + 1; omega) (.int .i64 x.f0)).setCell (p := ⟨G + 1, 1, none⟩) (by have := PGE.out; show w3.heap.size ≤ G + 1; omega) (.string x.f1)).setCell (p := ⟨G + 1, 2, none⟩) (by have := PGE.out; show w3.heap.size ≤ G + 1; omega) (.int .i64 y.f2)
            clear v0 v1 v2 u0 u1 u2 k1 k2
            have k4 := blk_put (cs' := #[.int .i64 x.f0, .string x.f1, .int .i64 x.f2]) k3 2 (.int .i64 x.f2) rfl
            have r4 := blk_far r3 (p := ⟨G + 1, 2, none⟩) nG (.int .i64 x.f2)
            have ub4 := ub.setCell (p := ⟨G + 1, 2, none⟩) (by have := PGE.out; show w3.heap.size ≤ G + 1; omega) (.int .i64 x.f2)
            have UH := Aside0.mk k4
            have UG := Aside0.mk r4
            have UB := Aside0.mk ub4
            clear k3 r1 r2 r3 ub nG k4 r4 ub4
            obtain ⟨U, hU⟩ : ∃ U, U = (((V.setCell ⟨G + 1, 0, none⟩ (.int .i64 x.f0)).setCell ⟨G + 1, 1, none⟩ (.string x.f1)).setCell ⟨G + 1, 2, none⟩ (.int .i64 y.f2)).setCell ⟨G + 1, 2, none⟩ (.int .i64 x.f2) := ⟨_, rfl⟩
            rw [← hU] at UH UG UB ⊢
            clear hU
            have fx0 : U.cell? ⟨G, 0, none⟩ = some (.int .i64 x.f0) := blk_cell UG.out 0
            have fx1 : U.cell? ⟨G, 1, none⟩ = some (.string x.f1) := blk_cell UG.out 1
            have fx2 : U.cell? ⟨G, 2, none⟩ = some (.int .i64 x.f2) := blk_cell UG.out 2
            have fw0 : U.cell? ⟨G + 1, 0, none⟩ = some (.int .i64 x.f0) := blk_cell UH.out 0
            have fw1 : U.cell? ⟨G + 1, 1, none⟩ = some (.string x.f1) := blk_cell UH.out 1
            have fw2 : U.cell? ⟨G + 1, 2, none⟩ = some (.int .i64 x.f2) := blk_cell UH.out 2
            go_wp2_with fail
            go_roundw
            case rel => exact ⟨i + 1, by have := HIL.out; have := NC.out; have := LIA.out; have := LIB.out; rw [show wrap64 ((i : Int) + 1) = ((i + 1 : Nat) : Int) by unfold wrap64; omega], ⟨HIL.out⟩, ⟨UB.out⟩⟩
            case measure =>
              have := HIL.out
              have := NC.out
              have := LIA.out
              have := LIB.out
              rw [show wrap64 ((i : Int) + 1) = ((i + 1 : Nat) : Int) by unfold wrap64; omega]
              simp only [intOf, Int.toNat_natCast]
              omega
      · have hd : decide ((i : Int) < (LC.length : Int)) = false := decide_eq_false (by omega)
        have hdn : (i < LC.length) = False := eq_false hil
        clear hil
        have HBr := Aside0.mk (HB3.out.trans (RB.out.mono HB3.out.size))
        go_wp2_with (go_at_call 19; refine (HAL.out _ (LaidAt.of HLD.out HBr.out)).mono ?_; rintro e w4 ⟨rfl, hb4⟩)
        go_ret
        exact ⟨rfl, HBr.out.trans (hb4.mono HBr.out.size)⟩
theorem doorwardlaw14_LexJoins.calls (a0 a1 : ByteArray) (r : Bool) (w : World) (hLd : LaidAt w) (h : r = true) :
    Calls Tryd.prog 6 #[.string a0, .string a1] w fun e w' => e = .returned (.bool r) ∧ Below w.heap.size w w' := by
  subst h
  exact joins_any a0 a1 w hLd
theorem lexJoins_law (a0 a1 : ByteArray) : true = true := rfl

end Go.Proofs.YtdfjjimmnbijmaaDoor.LJ

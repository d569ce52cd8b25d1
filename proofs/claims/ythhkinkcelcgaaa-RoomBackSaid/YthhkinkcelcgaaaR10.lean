-- Written for this claim by myprint.py over the kit's print (functions of this session supplied)
import Derived.Test.YthhkinkcelcgaaaR0
import Derived.Test.YthhkinkcelcgaaaR1
import Derived.Test.YthhkinkcelcgaaaR2
import Derived.Test.YthhkinkcelcgaaaR5
import Derived.Test.YthhkinkcelcgaaaR7
namespace Go.Proofs.Ythhkinkcelcgaaa.R
open Go.RowKit Go.Proofs.YthhkinkcelcgaaaW.PrintWords Go.Proofs.YthhkinkcelcgaaaW.PrintLast Go.Proofs.YthhkinkcelcgaaaW.PrintMore
attribute [local go_sem] max2_int min2_int max_two min_two max_three min_three max_four min_four   -- for this text's walks alone
set_option linter.unusedVariables false
set_option linter.unusedSimpArgs false

/-! ### doorwardlaw06_RoomBack: function 7 -/
mutual
def doorwardlaw06_RoomBack.j0 : Nat → List Bool → Int → Int → Bool → Option (Bool)
  | 0, _, _, _, _ => none
  | k + 1, x0, x1, x2, x33 => if x33 = true then (some false) else ((doorwardref06_Right.f k x0).bind fun t333 => (if t333 = true then ((room_Take.f k x0 (mn (mx x1 0) 300)).bind fun bt335 => (if bt335.2.2 = 0 then (if (bt335.2.1.length : Int) = (mn (mx x1 0) 300) then (if (bt335.1.length : Int) = (x0.length : Int) then ((room_Free.f k bt335.1).bind fun t344 => ((room_Free.f k x0).bind fun t345 => (doorwardlaw06_RoomBack.j1 k x0 (mn (mx x1 0) 300) x2 bt335.1 bt335.2.1 (t344 != (wrap64 (t345 - (mn (mx x1 0) 300))))))) else (doorwardlaw06_RoomBack.j1 k x0 (mn (mx x1 0) 300) x2 bt335.1 bt335.2.1 true)) else (doorwardlaw06_RoomBack.j1 k x0 (mn (mx x1 0) 300) x2 bt335.1 bt335.2.1 true)) else ((doorwardlaw06_alive.f k).bind fun t342 => (if t342 = true then (if bt335.2.2 = 31 then ((room_Free.f k x0).bind fun t343 => (some (decide (t343 < (mn (mx x1 0) 300))))) else (some false)) else (some false))))) else ((doorwardlaw06_alive.f k).bind fun t334 => (some t334))))
def doorwardlaw06_RoomBack.j1 : Nat → List Bool → Int → Int → List Bool → List Int → Bool → Option (Bool)
  | 0, _, _, _, _, _, _ => none
  | k + 1, x0, x1, x2, x9, x10, x80 => if x80 = true then (some false) else (doorwardlaw06_RoomBack.l0 k x0 x1 x2 x9 x10 x10 (x10.length : Int) 0)
def doorwardlaw06_RoomBack.l0 : Nat → List Bool → Int → Int → List Bool → List Int → List Int → Int → Int → Option (Bool)
  | 0, _, _, _, _, _, _, _, _ => none
  | k + 1, x0, x1, x2, x9, x10, x81, x82, x83 => if x83 < x82 then (if 0 ≤ x83 then (if x83 < (x81.length : Int) then (if (rd x81 x83) < 54 then (some false) else (if (rd x81 x83) ≥ (x0.length : Int) then (some false) else (if 0 ≤ (rd x81 x83) then (if (rd x81 x83) < (x0.length : Int) then (if rdOf false x0 (rd x81 x83) = true then (some false) else (if (rd x81 x83) < (x9.length : Int) then (if (rdOf false x9 (rd x81 x83) = true) then (if x83 > 0 then (if 0 ≤ (wrap64 (x83 - 1)) then (if (wrap64 (x83 - 1)) < (x10.length : Int) then (if (rd x10 (wrap64 (x83 - 1))) ≥ (rd x81 x83) then (some false) else (doorwardlaw06_RoomBack.l0 k x0 x1 x2 x9 x10 x81 x82 (wrap64 (x83 + 1)))) else (none)) else (none)) else (doorwardlaw06_RoomBack.l0 k x0 x1 x2 x9 x10 x81 x82 (wrap64 (x83 + 1)))) else (some false)) else (none))) else (none)) else (none)))) else (none)) else (none)) else (if x1 > 0 then (if x1 = 0 then (none) else ((some (([] : List Int) : List Int)).bind fun y350 => (if 0 ≤ (Int.tmod (wrap64 ((Int.tmod x2 x1) + x1)) x1) then (if (Int.tmod (wrap64 ((Int.tmod x2 x1) + x1)) x1) ≤ (x10.length : Int) then ((some (x10.drop ((Int.tmod (wrap64 ((Int.tmod x2 x1) + x1)) x1) : Int).toNat : List Int)).bind fun y353 => (if y350.length + y353.length < 17592186044416 then ((some (y350 ++ y353 : List Int)).bind fun y357 => ((some (x10.take ((Int.tmod (wrap64 ((Int.tmod x2 x1) + x1)) x1) : Int).toNat : List Int)).bind fun y360 => (if y357.length + y360.length < 17592186044416 then ((room_Give.f k x9 (y357 ++ y360)).bind fun bt367 => ((doorwardlaw06_alive.f k).bind fun t371 => (if t371 = true then (if bt367.2 = 0 then ((doorwardref06_Same.f k bt367.1 x0).bind fun t372 => (some t372)) else (some false)) else (some false)))) else (none)))) else (none))) else (none)) else (none)))) else ((room_Give.f k x9 x10).bind fun bt373 => ((doorwardlaw06_alive.f k).bind fun t377 => (if t377 = true then (if bt373.2 = 0 then ((doorwardref06_Same.f k bt373.1 x0).bind fun t378 => (some t378)) else (some false)) else (some false)))))
end
def doorwardlaw06_RoomBack.f (k : Nat) (l0 : List Bool) (a1 : Int) (a2 : Int) : Option (Bool) := (doorwardlaw06_few.f l0).bind fun t324 => ((room_Pack.f k t324).bind fun t327 => ((room_Unpack.f k t327 (t324.length : Int)).bind fun bt328 => (if bt328.2 = 0 then ((doorwardref06_Same.f k bt328.1 t324).bind fun t332 => (doorwardlaw06_RoomBack.j0 k t324 a1 a2 (!t332))) else (doorwardlaw06_RoomBack.j0 k t324 a1 a2 true))))
theorem doorwardlaw06_RoomBack.mono_l : ∀ k, (∀ y0 y1 y2 y3, LeO (doorwardlaw06_RoomBack.j0 k y0 y1 y2 y3) (doorwardlaw06_RoomBack.j0 (k + 1) y0 y1 y2 y3)) ∧ (∀ y0 y1 y2 y3 y4 y5, LeO (doorwardlaw06_RoomBack.j1 k y0 y1 y2 y3 y4 y5) (doorwardlaw06_RoomBack.j1 (k + 1) y0 y1 y2 y3 y4 y5)) ∧ (∀ y0 y1 y2 y3 y4 y5 y6 y7, LeO (doorwardlaw06_RoomBack.l0 k y0 y1 y2 y3 y4 y5 y6 y7) (doorwardlaw06_RoomBack.l0 (k + 1) y0 y1 y2 y3 y4 y5 y6 y7))
  | 0 => ⟨fun _ _ _ _ r h => by simp [doorwardlaw06_RoomBack.j0] at h, fun _ _ _ _ _ _ r h => by simp [doorwardlaw06_RoomBack.j1] at h, fun _ _ _ _ _ _ _ _ r h => by simp [doorwardlaw06_RoomBack.l0] at h⟩
  | k + 1 => by
    obtain ⟨ih0, ih1, ih2⟩ := doorwardlaw06_RoomBack.mono_l k
    refine ⟨?_, ?_, ?_⟩
    · intro y0 y1 y2 y3
      unfold doorwardlaw06_RoomBack.j0
      repeat' first
      | (with_reducible exact ih0 _ _ _ _)
      | (with_reducible exact ih1 _ _ _ _ _ _)
      | (with_reducible exact ih2 _ _ _ _ _ _ _ _)
      | (with_reducible exact doorwardlaw06_alive.mono _)
      | (with_reducible exact doorwardref06_Right.mono _ _)
      | (with_reducible exact doorwardref06_Same.mono _ _ _)
      | (with_reducible exact room_Free.mono _ _)
      | (with_reducible exact room_Give.mono _ _ _)
      | (with_reducible exact room_Pack.mono _ _)
      | (with_reducible exact room_Take.mono _ _ _)
      | (with_reducible exact room_Unpack.mono _ _ _)
      | (with_reducible exact LeO.refl _)
      | (with_reducible exact LeO.none _)
      | (with_reducible refine LeO.ite ?_ ?_)
      | (with_reducible refine LeO.bind ?_ (fun _ => ?_))
      | exact ih0 _ _ _ _
      | exact ih1 _ _ _ _ _ _
      | exact ih2 _ _ _ _ _ _ _ _
      | exact doorwardlaw06_alive.mono _
      | exact doorwardref06_Right.mono _ _
      | exact doorwardref06_Same.mono _ _ _
      | exact room_Free.mono _ _
      | exact room_Give.mono _ _ _
      | exact room_Pack.mono _ _
      | exact room_Take.mono _ _ _
      | exact room_Unpack.mono _ _ _
      | exact LeO.none _
      | refine LeO.ite ?_ ?_
      | refine LeO.bind ?_ (fun _ => ?_)
    · intro y0 y1 y2 y3 y4 y5
      unfold doorwardlaw06_RoomBack.j1
      repeat' first
      | (with_reducible exact ih0 _ _ _ _)
      | (with_reducible exact ih1 _ _ _ _ _ _)
      | (with_reducible exact ih2 _ _ _ _ _ _ _ _)
      | (with_reducible exact doorwardlaw06_alive.mono _)
      | (with_reducible exact doorwardref06_Right.mono _ _)
      | (with_reducible exact doorwardref06_Same.mono _ _ _)
      | (with_reducible exact room_Free.mono _ _)
      | (with_reducible exact room_Give.mono _ _ _)
      | (with_reducible exact room_Pack.mono _ _)
      | (with_reducible exact room_Take.mono _ _ _)
      | (with_reducible exact room_Unpack.mono _ _ _)
      | (with_reducible exact LeO.refl _)
      | (with_reducible exact LeO.none _)
      | (with_reducible refine LeO.ite ?_ ?_)
      | (with_reducible refine LeO.bind ?_ (fun _ => ?_))
      | exact ih0 _ _ _ _
      | exact ih1 _ _ _ _ _ _
      | exact ih2 _ _ _ _ _ _ _ _
      | exact doorwardlaw06_alive.mono _
      | exact doorwardref06_Right.mono _ _
      | exact doorwardref06_Same.mono _ _ _
      | exact room_Free.mono _ _
      | exact room_Give.mono _ _ _
      | exact room_Pack.mono _ _
      | exact room_Take.mono _ _ _
      | exact room_Unpack.mono _ _ _
      | exact LeO.none _
      | refine LeO.ite ?_ ?_
      | refine LeO.bind ?_ (fun _ => ?_)
    · intro y0 y1 y2 y3 y4 y5 y6 y7
      unfold doorwardlaw06_RoomBack.l0
      repeat' first
      | (with_reducible exact ih0 _ _ _ _)
      | (with_reducible exact ih1 _ _ _ _ _ _)
      | (with_reducible exact ih2 _ _ _ _ _ _ _ _)
      | (with_reducible exact doorwardlaw06_alive.mono _)
      | (with_reducible exact doorwardref06_Right.mono _ _)
      | (with_reducible exact doorwardref06_Same.mono _ _ _)
      | (with_reducible exact room_Free.mono _ _)
      | (with_reducible exact room_Give.mono _ _ _)
      | (with_reducible exact room_Pack.mono _ _)
      | (with_reducible exact room_Take.mono _ _ _)
      | (with_reducible exact room_Unpack.mono _ _ _)
      | (with_reducible exact LeO.refl _)
      | (with_reducible exact LeO.none _)
      | (with_reducible refine LeO.ite ?_ ?_)
      | (with_reducible refine LeO.bind ?_ (fun _ => ?_))
      | exact ih0 _ _ _ _
      | exact ih1 _ _ _ _ _ _
      | exact ih2 _ _ _ _ _ _ _ _
      | exact doorwardlaw06_alive.mono _
      | exact doorwardref06_Right.mono _ _
      | exact doorwardref06_Same.mono _ _ _
      | exact room_Free.mono _ _
      | exact room_Give.mono _ _ _
      | exact room_Pack.mono _ _
      | exact room_Take.mono _ _ _
      | exact room_Unpack.mono _ _ _
      | exact LeO.none _
      | refine LeO.ite ?_ ?_
      | refine LeO.bind ?_ (fun _ => ?_)
theorem doorwardlaw06_RoomBack.mono : ∀ a0 a1 a2 k, LeO (doorwardlaw06_RoomBack.f k a0 a1 a2) (doorwardlaw06_RoomBack.f (k + 1) a0 a1 a2) := by
  intro a0 a1 a2 k
  obtain ⟨ih0, ih1, ih2⟩ := doorwardlaw06_RoomBack.mono_l k
  unfold doorwardlaw06_RoomBack.f
  repeat' first
      | (with_reducible exact ih0 _ _ _ _)
      | (with_reducible exact ih1 _ _ _ _ _ _)
      | (with_reducible exact ih2 _ _ _ _ _ _ _ _)
      | (with_reducible exact doorwardlaw06_alive.mono _)
      | (with_reducible exact doorwardref06_Right.mono _ _)
      | (with_reducible exact doorwardref06_Same.mono _ _ _)
      | (with_reducible exact room_Free.mono _ _)
      | (with_reducible exact room_Give.mono _ _ _)
      | (with_reducible exact room_Pack.mono _ _)
      | (with_reducible exact room_Take.mono _ _ _)
      | (with_reducible exact room_Unpack.mono _ _ _)
      | (with_reducible exact LeO.refl _)
      | (with_reducible exact LeO.none _)
      | (with_reducible refine LeO.ite ?_ ?_)
      | (with_reducible refine LeO.bind ?_ (fun _ => ?_))
      | exact ih0 _ _ _ _
      | exact ih1 _ _ _ _ _ _
      | exact ih2 _ _ _ _ _ _ _ _
      | exact doorwardlaw06_alive.mono _
      | exact doorwardref06_Right.mono _ _
      | exact doorwardref06_Same.mono _ _ _
      | exact room_Free.mono _ _
      | exact room_Give.mono _ _ _
      | exact room_Pack.mono _ _
      | exact room_Take.mono _ _ _
      | exact room_Unpack.mono _ _ _
      | exact LeO.none _
      | refine LeO.ite ?_ ?_
      | refine LeO.bind ?_ (fun _ => ?_)
def doorwardlaw06_RoomBack.T21 : Bool × List (List Nat × List Nat) := (true, [([], []), ([], []), ([], []), ([1, 2], [1, 2]), ([0, 3], [0, 3]), ([], []), ([], []), ([5, 6], [5, 6]), ([4, 7, 4], [4, 7]), ([8, 8, 0, 1, 2, 3, 4, 5, 6, 7, 8], [1, 5, 8])])
def doorwardlaw06_RoomBack.B21 : List Nat := [0, 0, 0, 6, 15, 0, 0, 96, 255, 511]
theorem doorwardlaw06_RoomBack.tab21 : rtab .any (opsOf Try.f7 21) = doorwardlaw06_RoomBack.T21 := by kernel_rfl
theorem doorwardlaw06_RoomBack.bits21 : waitsOk doorwardlaw06_RoomBack.T21.2 doorwardlaw06_RoomBack.B21 = true := by kernel_rfl
set_option maxHeartbeats 8000000 in
set_option maxRecDepth 100000 in
theorem doorwardlaw06_RoomBack.calls (k : Nat) (A0 : Option Addr) (c0 : Nat) (l0 : List Bool) (a1 : Int) (a2 : Int) (r : Bool) (w : World) (hr0 : Kd.C Kd.bool w A0 l0.length l0) (hc0 : l0.length ≤ c0) (h : doorwardlaw06_RoomBack.f k l0 a1 a2 = some r) :
    Calls Try.prog 7 #[.slice A0 l0.length c0, .int .i64 a1, .int .i64 a2] w fun e w' => e = .returned (.bool r) ∧ Below w.heap.size w w' := by
  have HR0 := Aside0.mk hr0
  have HC0 := Aside0.mk hc0
  clear hr0 hc0
  have HB := Aside0.mk (Below.refl w.heap.size w)
  have H : ((doorwardlaw06_few.f l0).bind fun t324 => ((room_Pack.f k t324).bind fun t327 => ((room_Unpack.f k t327 (t324.length : Int)).bind fun bt328 => (if bt328.2 = 0 then ((doorwardref06_Same.f k bt328.1 t324).bind fun t332 => (doorwardlaw06_RoomBack.j0 k t324 a1 a2 (!t332))) else (doorwardlaw06_RoomBack.j0 k t324 a1 a2 true))))) = some r := h
  clear h
  replace H := Option.bind_eq_some_iff.mp H
  obtain ⟨t324, A40, H⟩ := H
  replace H : ((room_Pack.f k t324).bind fun t327 => ((room_Unpack.f k t327 (t324.length : Int)).bind fun bt328 => (if bt328.2 = 0 then ((doorwardref06_Same.f k bt328.1 t324).bind fun t332 => (doorwardlaw06_RoomBack.j0 k t324 a1 a2 (!t332))) else (doorwardlaw06_RoomBack.j0 k t324 a1 a2 true)))) = some r := H
  have A4 := Aside0.mk A40
  clear A40
  replace H := Option.bind_eq_some_iff.mp H
  obtain ⟨t327, A50, H⟩ := H
  replace H : ((room_Unpack.f k t327 (t324.length : Int)).bind fun bt328 => (if bt328.2 = 0 then ((doorwardref06_Same.f k bt328.1 t324).bind fun t332 => (doorwardlaw06_RoomBack.j0 k t324 a1 a2 (!t332))) else (doorwardlaw06_RoomBack.j0 k t324 a1 a2 true))) = some r := H
  have A5 := Aside0.mk A50
  clear A50
  replace H := Option.bind_eq_some_iff.mp H
  obtain ⟨⟨t328, t329⟩, A60, H⟩ := H
  replace H : (if t329 = 0 then ((doorwardref06_Same.f k t328 t324).bind fun t332 => (doorwardlaw06_RoomBack.j0 k t324 a1 a2 (!t332))) else (doorwardlaw06_RoomBack.j0 k t324 a1 a2 true)) = some r := H
  have A6 := Aside0.mk A60
  clear A60
  have HC7 := Aside0.mk H
  clear H
  go_enter Try.func7, Try.ntmps7
  go_upto_region 3 with (first | ((with_reducible refine gate_callee (f := 8) rfl ?_); refine goesL_ (some 17) rfl rfl Try.func8 (by kernel_rfl) rfl #[.slice A0 l0.length c0] rfl (by (try simp only [List.map_toArray, List.map_cons, List.map_nil]); first | done | rfl | (simp only [List.length_drop, List.length_take]; rfl)) ?_; (with_reducible refine (doorwardlaw06_few.calls (fun k_ => k_ < w.heap.size) _ _ l0 t324 _ ?side1 A4.out).mono ?_); (case side1 => exact Kd.V_mk HC0.out (Kd.F_below (Kd.C_F Kd.heap_bool HR0.out) (by repeat (first | (with_reducible first | exact HB.out | apply below_alloc | apply pw_below_drewN | apply below_drew1) | exact HB.out)))); rintro e w8 ⟨v325, rfl, ho0, hb⟩; refine ⟨_, rfl, ?_⟩; have n0_ := Aside0.mk (Kd.V_lower (Kd.V_mono (ok' := fun k_ => True) ho0 (fun k_ hk_ => trivial)) (below_size (by repeat (first | (with_reducible first | exact HB.out | apply below_alloc | apply pw_below_drewN | apply below_drew1) | exact HB.out)))); have n1_ := Aside0.mk (below_step (by repeat (first | (with_reducible first | exact HB.out | apply below_alloc | apply pw_below_drewN | apply below_drew1) | exact HB.out)) hb); clear HB; have HO326 := n0_; have HB := n1_; clear n0_ n1_; (try clear hb); (try clear hb2); (try clear hk); (try clear hi); (try clear ho0); obtain ⟨Ao9, co9, eo9⟩ := Kd.V_slice HO326.out; subst eo9) | ((with_reducible refine gate_callee (f := 24) rfl ?_); refine goesL_ (some 20) rfl rfl Try.func24 (by kernel_rfl) rfl #[.slice Ao9 t324.length co9] rfl (by (try simp only [List.map_toArray, List.map_cons, List.map_nil]); first | done | rfl | (simp only [List.length_drop, List.length_take]; rfl)) ?_; (with_reducible refine (room_Pack.calls k _ _ t324 t327 _ ?side1 ?side2 A5.out).mono ?_); (case side1 => repeat (first | exact (Kd.V_reads' HO326.out).2.2 | (with_reducible refine Kd.C_alloc ?_ _) | (with_reducible refine Kd.C_drewN ?_ _) | (with_reducible refine Kd.C_drew ?_))); (case side2 => exact (Kd.V_reads' HO326.out).2.1); rintro e w10 ⟨rfl, hb⟩; refine ⟨_, rfl, ?_⟩; have n0_ := Aside0.mk (Kd.V_below (by (with_reducible repeat (first | apply Kd.V_alloc | apply Kd.V_drewN | apply Kd.V_drew)); exact HO326.out) hb); have n1_ := Aside0.mk (below_step (by repeat (first | (with_reducible first | exact HB.out | apply below_alloc | apply pw_below_drewN | apply below_drew1) | exact HB.out)) hb); clear HO326; clear HB; have HO326 := n0_; have HB := n1_; clear n0_ n1_; (try clear hb); (try clear hb2); (try clear hk); (try clear hi)) | ((with_reducible refine gate_callee (f := 22) rfl ?_); refine goesL_ (some 23) rfl rfl Try.func22 (by kernel_rfl) rfl #[.string t327, .int .i64 (t324.length : Int)] rfl (by (try simp only [List.map_toArray, List.map_cons, List.map_nil]); first | done | rfl | (simp only [List.length_drop, List.length_take]; rfl)) ?_; (with_reducible refine (room_Unpack.calls k t327 (t324.length : Int) t328 t329 _ A6.out).mono ?_); rintro e w11 ⟨v330, rfl, ho0, hb⟩; refine ⟨_, rfl, ?_⟩; have n0_ := Aside0.mk (Kd.V_elder' (by (with_reducible repeat (first | apply Kd.V_alloc | apply Kd.V_drewN | apply Kd.V_drew)); exact HO326.out) (Kd.R_base ho0) hb); have n1_ := Aside0.mk (Kd.R_lower ho0 (below_size (by repeat (first | (with_reducible first | exact HB.out | apply below_alloc | apply pw_below_drewN | apply below_drew1) | exact HB.out)))); have n2_ := Aside0.mk (below_step (by repeat (first | (with_reducible first | exact HB.out | apply below_alloc | apply pw_below_drewN | apply below_drew1) | exact HB.out)) hb); clear HO326; clear HB; have HO326 := n0_; have HO331 := n1_; have HB := n2_; clear n0_ n1_ n2_; (try clear hb); (try clear hb2); (try clear hk); (try clear hi); (try clear ho0)))
  (try simp only [Act.put, List.setIfInBounds_toArray, List.set_cons_zero, List.set_cons_succ])
  go_cut [33] (fun v33 wc => ∃ (kq : Nat) (x33_6 : Bool), v33 = .bool x33_6 ∧ Aside0 (doorwardlaw06_RoomBack.j0 kq t324 a1 a2 x33_6 = some r) ∧ Aside0 (kq ≤ k) ∧ Aside0 (Kd.V Kd.bool 4 wc w.heap.size (fun _ => True) (.slice Ao9 t324.length co9) t324) ∧ Aside0 (Below w.heap.size w wc))
  case first =>
    have H := HC7.out
    clear HC7
    by_cases c12 : t329 = 0
    · rw [if_pos c12] at H
      have c12b0 : (t329 == 0) = true := beq_iff_eq.mpr c12
      have c12b1 : (t329 != 0) = false := bne_eq_false_iff_eq.mpr c12
      clear c12
      (first | rw [c12b0] | (simp only [i64_w, i32_w]; rw [c12b0]) | skip)
      replace H := Option.bind_eq_some_iff.mp H
      obtain ⟨t332, A130, H⟩ := H
      replace H : (doorwardlaw06_RoomBack.j0 k t324 a1 a2 (!t332)) = some r := H
      have A13 := Aside0.mk A130
      clear A130
      have H' := Aside0.mk H
      clear H
      obtain ⟨Ao14, co14, eo14⟩ := Kd.R_slice HO331.out
      subst eo14
      go_wp2_with (first | (go_at_call 10; (with_reducible refine (doorwardref06_Same.calls k _ _ t328 _ _ t324 t332 _ ?side1 ?side2 ?side3 ?side4 A13.out).mono ?_); (case side1 => repeat (first | exact (Kd.R_reads' HO331.out).2.2 | (with_reducible refine Kd.C_alloc ?_ _) | (with_reducible refine Kd.C_drewN ?_ _) | (with_reducible refine Kd.C_drew ?_))); (case side2 => exact (Kd.R_reads' HO331.out).2.1); (case side3 => repeat (first | exact (Kd.V_reads' HO326.out).2.2 | (with_reducible refine Kd.C_alloc ?_ _) | (with_reducible refine Kd.C_drewN ?_ _) | (with_reducible refine Kd.C_drew ?_))); (case side4 => exact (Kd.V_reads' HO326.out).2.1); rintro e w' ⟨rfl, ⟨nd, rfl⟩⟩))
      go_meet
      case rel => exact ⟨_, (!t332), (by first | rfl | (simp; done) | (simp [*]; done)), H', ⟨by first | omega | exact Nat.le_refl _⟩, ⟨by (with_reducible repeat (first | apply Kd.V_alloc | apply Kd.V_drewN | apply Kd.V_drew)); exact Kd.V_mono HO326.out (fun _ hk => trivial)⟩, ⟨by repeat (first | (with_reducible first | exact HB.out | apply below_alloc | apply pw_below_drewN | apply below_drew1) | exact HB.out)⟩⟩
    · rw [if_neg c12] at H
      have c12b0 : (t329 == 0) = false := beq_eq_false_iff_ne.mpr c12
      have c12b1 : (t329 != 0) = true := bne_iff_ne.mpr c12
      (first | rw [c12b0] | (simp only [i64_w, i32_w]; rw [c12b0]) | skip)
      have H' := Aside0.mk H
      clear H
      go_wp2
      go_meet
      case rel => exact ⟨_, (true), (by first | rfl | (simp; done) | (simp [*]; done)), H', ⟨by first | omega | exact Nat.le_refl _⟩, ⟨by (with_reducible repeat (first | apply Kd.V_alloc | apply Kd.V_drewN | apply Kd.V_drew)); exact Kd.V_mono HO326.out (fun _ hk => trivial)⟩, ⟨by repeat (first | (with_reducible first | exact HB.out | apply below_alloc | apply pw_below_drewN | apply below_drew1) | exact HB.out)⟩⟩
  case rest =>
    clear HC7
    try clear c1
    try clear c2
    try clear p2
    try clear c7
    try clear c8
    try clear c12
    try clear c12b0
    try clear c12b1
    obtain ⟨kq, x33_6, rfl, HA, HJ6, HO_0, HB⟩ := hcut
    cases kq with
    | zero => exact absurd HA.out (by simp [doorwardlaw06_RoomBack.j0])
    | succ kj6 =>
      have H := HA.out
      clear HA
      simp only [doorwardlaw06_RoomBack.j0] at H
      by_cases c15 : x33_6 = true
      · subst c15
        have H1 : (some false) = some r := by rw [if_pos rfl] at H; exact H
        clear H
        have H := H1
        clear H1
        obtain rfl := Option.some.inj H
        go_wp2
        go_ret
        exact ⟨by first | rfl | (simp [errW_none, errW_some] <;> rfl) | (simp [*, errW_none, errW_some] <;> rfl), by repeat (first | (with_reducible first | exact HB.out | apply below_alloc | apply pw_below_drewN | apply below_drew1) | exact HB.out)⟩
      · replace c15 := Bool.eq_false_iff.mpr c15
        subst c15
        have H1 : ((doorwardref06_Right.f kj6 t324).bind fun t333 => (if t333 = true then ((room_Take.f kj6 t324 (mn (mx a1 0) 300)).bind fun bt335 => (if bt335.2.2 = 0 then (if (bt335.2.1.length : Int) = (mn (mx a1 0) 300) then (if (bt335.1.length : Int) = (t324.length : Int) then ((room_Free.f kj6 bt335.1).bind fun t344 => ((room_Free.f kj6 t324).bind fun t345 => (doorwardlaw06_RoomBack.j1 kj6 t324 (mn (mx a1 0) 300) a2 bt335.1 bt335.2.1 (t344 != (wrap64 (t345 - (mn (mx a1 0) 300))))))) else (doorwardlaw06_RoomBack.j1 kj6 t324 (mn (mx a1 0) 300) a2 bt335.1 bt335.2.1 true)) else (doorwardlaw06_RoomBack.j1 kj6 t324 (mn (mx a1 0) 300) a2 bt335.1 bt335.2.1 true)) else ((doorwardlaw06_alive.f kj6).bind fun t342 => (if t342 = true then (if bt335.2.2 = 31 then ((room_Free.f kj6 t324).bind fun t343 => (some (decide (t343 < (mn (mx a1 0) 300))))) else (some false)) else (some false))))) else ((doorwardlaw06_alive.f kj6).bind fun t334 => (some t334)))) = some r := by rw [if_neg (show ¬ (false = true) by decide)] at H; exact H
        clear H
        have H := H1
        clear H1
        replace H := Option.bind_eq_some_iff.mp H
        obtain ⟨t333, A160, H⟩ := H
        replace H : (if t333 = true then ((room_Take.f kj6 t324 (mn (mx a1 0) 300)).bind fun bt335 => (if bt335.2.2 = 0 then (if (bt335.2.1.length : Int) = (mn (mx a1 0) 300) then (if (bt335.1.length : Int) = (t324.length : Int) then ((room_Free.f kj6 bt335.1).bind fun t344 => ((room_Free.f kj6 t324).bind fun t345 => (doorwardlaw06_RoomBack.j1 kj6 t324 (mn (mx a1 0) 300) a2 bt335.1 bt335.2.1 (t344 != (wrap64 (t345 - (mn (mx a1 0) 300))))))) else (doorwardlaw06_RoomBack.j1 kj6 t324 (mn (mx a1 0) 300) a2 bt335.1 bt335.2.1 true)) else (doorwardlaw06_RoomBack.j1 kj6 t324 (mn (mx a1 0) 300) a2 bt335.1 bt335.2.1 true)) else ((doorwardlaw06_alive.f kj6).bind fun t342 => (if t342 = true then (if bt335.2.2 = 31 then ((room_Free.f kj6 t324).bind fun t343 => (some (decide (t343 < (mn (mx a1 0) 300))))) else (some false)) else (some false))))) else ((doorwardlaw06_alive.f kj6).bind fun t334 => (some t334))) = some r := H
        have A16 := Aside0.mk A160
        clear A160
        by_cases c17 : t333 = true
        · subst c17
          have H1 : ((room_Take.f kj6 t324 (mn (mx a1 0) 300)).bind fun bt335 => (if bt335.2.2 = 0 then (if (bt335.2.1.length : Int) = (mn (mx a1 0) 300) then (if (bt335.1.length : Int) = (t324.length : Int) then ((room_Free.f kj6 bt335.1).bind fun t344 => ((room_Free.f kj6 t324).bind fun t345 => (doorwardlaw06_RoomBack.j1 kj6 t324 (mn (mx a1 0) 300) a2 bt335.1 bt335.2.1 (t344 != (wrap64 (t345 - (mn (mx a1 0) 300))))))) else (doorwardlaw06_RoomBack.j1 kj6 t324 (mn (mx a1 0) 300) a2 bt335.1 bt335.2.1 true)) else (doorwardlaw06_RoomBack.j1 kj6 t324 (mn (mx a1 0) 300) a2 bt335.1 bt335.2.1 true)) else ((doorwardlaw06_alive.f kj6).bind fun t342 => (if t342 = true then (if bt335.2.2 = 31 then ((room_Free.f kj6 t324).bind fun t343 => (some (decide (t343 < (mn (mx a1 0) 300))))) else (some false)) else (some false))))) = some r := by rw [if_pos rfl] at H; exact H
          clear H
          have H := H1
          clear H1
          obtain ⟨ji18, hji18⟩ : ∃ j_ : Int, (mx a1 0) = j_ := ⟨_, rfl⟩
          replace H : ((room_Take.f kj6 t324 (mn (ji18) 300)).bind fun bt335 => (if bt335.2.2 = 0 then (if (bt335.2.1.length : Int) = (mn (ji18) 300) then (if (bt335.1.length : Int) = (t324.length : Int) then ((room_Free.f kj6 bt335.1).bind fun t344 => ((room_Free.f kj6 t324).bind fun t345 => (doorwardlaw06_RoomBack.j1 kj6 t324 (mn (ji18) 300) a2 bt335.1 bt335.2.1 (t344 != (wrap64 (t345 - (mn (ji18) 300))))))) else (doorwardlaw06_RoomBack.j1 kj6 t324 (mn (ji18) 300) a2 bt335.1 bt335.2.1 true)) else (doorwardlaw06_RoomBack.j1 kj6 t324 (mn (ji18) 300) a2 bt335.1 bt335.2.1 true)) else ((doorwardlaw06_alive.f kj6).bind fun t342 => (if t342 = true then (if bt335.2.2 = 31 then ((room_Free.f kj6 t324).bind fun t343 => (some (decide (t343 < (mn (ji18) 300))))) else (some false)) else (some false))))) = some r := by first | (rw [hji18] at H; exact H) | (simp only [hji18] at H ⊢; exact H)
          (try rw [hji18] at A16)
          (try (have hji18l : 0 ≤ ji18 := by (rw [← hji18]; unfold mx; (repeat' split) <;> omega)))
          (try (have hji18m : 0 ≤ ji18 := by omega))
          have hji18_ : (if a1 < 0 then 0 else a1) = ji18 := hji18
          obtain ⟨ji19, hji19⟩ : ∃ j_ : Int, (mn (ji18) 300) = j_ := ⟨_, rfl⟩
          replace H : ((room_Take.f kj6 t324 (ji19)).bind fun bt335 => (if bt335.2.2 = 0 then (if (bt335.2.1.length : Int) = (ji19) then (if (bt335.1.length : Int) = (t324.length : Int) then ((room_Free.f kj6 bt335.1).bind fun t344 => ((room_Free.f kj6 t324).bind fun t345 => (doorwardlaw06_RoomBack.j1 kj6 t324 ji19 a2 bt335.1 bt335.2.1 (t344 != (wrap64 (t345 - (ji19))))))) else (doorwardlaw06_RoomBack.j1 kj6 t324 ji19 a2 bt335.1 bt335.2.1 true)) else (doorwardlaw06_RoomBack.j1 kj6 t324 ji19 a2 bt335.1 bt335.2.1 true)) else ((doorwardlaw06_alive.f kj6).bind fun t342 => (if t342 = true then (if bt335.2.2 = 31 then ((room_Free.f kj6 t324).bind fun t343 => (some (decide (t343 < (ji19))))) else (some false)) else (some false))))) = some r := by first | (rw [hji19] at H; exact H) | (simp only [hji19] at H ⊢; exact H)
          (try rw [hji19] at A16)
          have hji19_ : (if 300 < (ji18) then 300 else (ji18)) = ji19 := hji19
          replace H := Option.bind_eq_some_iff.mp H
          obtain ⟨⟨t335, t336, t337⟩, A200, H⟩ := H
          replace H : (if t337 = 0 then (if (t336.length : Int) = (ji19) then (if (t335.length : Int) = (t324.length : Int) then ((room_Free.f kj6 t335).bind fun t344 => ((room_Free.f kj6 t324).bind fun t345 => (doorwardlaw06_RoomBack.j1 kj6 t324 ji19 a2 t335 t336 (t344 != (wrap64 (t345 - (ji19))))))) else (doorwardlaw06_RoomBack.j1 kj6 t324 ji19 a2 t335 t336 true)) else (doorwardlaw06_RoomBack.j1 kj6 t324 ji19 a2 t335 t336 true)) else ((doorwardlaw06_alive.f kj6).bind fun t342 => (if t342 = true then (if t337 = 31 then ((room_Free.f kj6 t324).bind fun t343 => (some (decide (t343 < (ji19))))) else (some false)) else (some false)))) = some r := H
          have A20 := Aside0.mk A200
          clear A200
          by_cases c21 : t337 = 0
          · rw [if_pos c21] at H
            have c21b0 : (t337 == 0) = true := beq_iff_eq.mpr c21
            have c21b1 : (t337 != 0) = false := bne_eq_false_iff_eq.mpr c21
            clear c21
            have HC22 := Aside0.mk H
            clear H
            go_upto_region 11 with (first | ((with_reducible refine gate_callee (f := 14) rfl ?_); refine goesL_ (some 35) rfl rfl Try.func14 (by kernel_rfl) rfl #[.slice Ao9 t324.length co9] rfl (by (try simp only [List.map_toArray, List.map_cons, List.map_nil]); first | done | rfl | (simp only [List.length_drop, List.length_take]; rfl)) ?_; (with_reducible refine (doorwardref06_Right.calls kj6 _ _ t324 true _ ?side1 ?side2 A16.out).mono ?_); (case side1 => repeat (first | exact (Kd.V_reads' HO_0.out).2.2 | (with_reducible refine Kd.C_alloc ?_ _) | (with_reducible refine Kd.C_drewN ?_ _) | (with_reducible refine Kd.C_drew ?_))); (case side2 => exact (Kd.V_reads' HO_0.out).2.1); rintro e w' ⟨rfl, ⟨nd, rfl⟩⟩; refine ⟨_, rfl, ?_⟩) | ((with_reducible refine gate_callee (f := 17) rfl ?_); refine goesL_ (some 44) rfl rfl Try.func17 (by kernel_rfl) rfl #[.slice Ao9 t324.length co9, .int .i64 ji19] rfl (by (try simp only [List.map_toArray, List.map_cons, List.map_nil]); first | done | (simp only [hji19]; rfl) | rfl | (simp only [List.length_drop, List.length_take]; rfl)) ?_; (with_reducible refine (room_Take.calls kj6 _ _ t324 ji19 t335 t336 t337 _ ?side1 ?side2 A20.out).mono ?_); (case side1 => repeat (first | exact (Kd.V_reads' HO_0.out).2.2 | (with_reducible refine Kd.C_alloc ?_ _) | (with_reducible refine Kd.C_drewN ?_ _) | (with_reducible refine Kd.C_drew ?_))); (case side2 => exact (Kd.V_reads' HO_0.out).2.1); rintro e w23 ⟨v338, v340, rfl, ho0, ho1, hb⟩; refine ⟨_, rfl, ?_⟩; have n0_ := Aside0.mk (Kd.V_mono (Kd.V_told (Kd.V_told (Kd.V_old (by (with_reducible repeat (first | apply Kd.V_alloc | apply Kd.V_drewN | apply Kd.V_drew)); exact HO_0.out) hb) (Kd.R_base ho0)) (Kd.R_base ho1)) (fun _ h_ => h_.1)); have n1_ := Aside0.mk (Kd.R_lower ho0 (below_size (by repeat (first | (with_reducible first | exact HB.out | apply below_alloc | apply pw_below_drewN | apply below_drew1) | exact HB.out)))); have n2_ := Aside0.mk (Kd.R_lower ho1 (below_size (by repeat (first | (with_reducible first | exact HB.out | apply below_alloc | apply pw_below_drewN | apply below_drew1) | exact HB.out)))); have n3_ := Aside0.mk (below_step (by repeat (first | (with_reducible first | exact HB.out | apply below_alloc | apply pw_below_drewN | apply below_drew1) | exact HB.out)) hb); clear HO_0; clear HB; have HO_0 := n0_; have HO339 := n1_; have HO341 := n2_; have HB := n3_; clear n0_ n1_ n2_ n3_; (try clear hb); (try clear hb2); (try clear hk); (try clear hi); (try clear ho0); (try clear ho1)))
            (try simp only [Act.put, List.setIfInBounds_toArray, List.set_cons_zero, List.set_cons_succ])
            go_cut [80] (fun v80 wc => ∃ (kq : Nat) (x80_21 : Bool), v80 = .bool x80_21 ∧ Aside0 (doorwardlaw06_RoomBack.j1 kq t324 ji19 a2 t335 t336 x80_21 = some r) ∧ Aside0 (kq ≤ kj6) ∧ Aside0 (Kd.V Kd.bool 4 wc w.heap.size (fun k_ => some k_ ≠ (v338 : Value).ownBlock ∧ some k_ ≠ (v340 : Value).ownBlock) (.slice Ao9 t324.length co9) t324) ∧ Aside0 (Kd.R Kd.bool 4 wc w.heap.size (fun _ => True) v338 t335) ∧ Aside0 (Kd.R (Kd.int .i64) 3 wc w.heap.size (fun _ => True) v340 t336) ∧ Aside0 (Below w.heap.size w wc))
            case first =>
              have H := HC22.out
              clear HC22
              by_cases c24 : (t336.length : Int) = (ji19)
              · rw [if_pos c24] at H
                have c24b0 : ((t336.length : Int) == (ji19)) = true := beq_iff_eq.mpr c24
                have c24b1 : ((t336.length : Int) != (ji19)) = false := bne_eq_false_iff_eq.mpr c24
                clear c24
                (first | rw [c24b0] | (simp only [i64_w, i32_w]; rw [c24b0]) | skip)
                by_cases c25 : (t335.length : Int) = (t324.length : Int)
                · rw [if_pos c25] at H
                  have c25b0 : ((t335.length : Int) == (t324.length : Int)) = true := beq_iff_eq.mpr c25
                  have c25b1 : ((t335.length : Int) != (t324.length : Int)) = false := bne_eq_false_iff_eq.mpr c25
                  have c25b2 : (t335.length == t324.length) = true := by first | simpa using c25 | (simp at c25 ⊢; omega)
                  clear c25
                  replace H := Option.bind_eq_some_iff.mp H
                  obtain ⟨t344, A260, H⟩ := H
                  replace H : ((room_Free.f kj6 t324).bind fun t345 => (doorwardlaw06_RoomBack.j1 kj6 t324 ji19 a2 t335 t336 (t344 != (wrap64 (t345 - (ji19)))))) = some r := H
                  have A26 := Aside0.mk A260
                  clear A260
                  replace H := Option.bind_eq_some_iff.mp H
                  obtain ⟨t345, A270, H⟩ := H
                  replace H : (doorwardlaw06_RoomBack.j1 kj6 t324 ji19 a2 t335 t336 (t344 != (wrap64 (t345 - (ji19))))) = some r := H
                  have A27 := Aside0.mk A270
                  clear A270
                  have H' := Aside0.mk H
                  clear H
                  obtain ⟨Ao28, co28, eo28⟩ := Kd.R_slice HO341.out
                  subst eo28
                  obtain ⟨Ao29, co29, eo29⟩ := Kd.R_slice HO339.out
                  subst eo29
                  go_wp2_with (first | (go_at_call 15; (with_reducible refine (room_Free.calls kj6 _ _ t335 t344 _ ?side1 ?side2 A26.out).mono ?_); (case side1 => repeat (first | exact (Kd.R_reads' HO339.out).2.2 | (with_reducible refine Kd.C_alloc ?_ _) | (with_reducible refine Kd.C_drewN ?_ _) | (with_reducible refine Kd.C_drew ?_))); (case side2 => exact (Kd.R_reads' HO339.out).2.1); rintro e w' ⟨rfl, ⟨nd, rfl⟩⟩) | (go_at_call 15; (with_reducible refine (room_Free.calls kj6 _ _ t324 t345 _ ?side1 ?side2 A27.out).mono ?_); (case side1 => repeat (first | exact (Kd.V_reads' HO_0.out).2.2 | (with_reducible refine Kd.C_alloc ?_ _) | (with_reducible refine Kd.C_drewN ?_ _) | (with_reducible refine Kd.C_drew ?_))); (case side2 => exact (Kd.V_reads' HO_0.out).2.1); rintro e w' ⟨rfl, ⟨nd, rfl⟩⟩))
                  go_meet
                  case rel => exact ⟨_, ((t344 != (wrap64 (t345 - (ji19))))), (by first | rfl | (simp; done) | (simp only [← hji19] <;> (first | rfl | simp)) | (simp [*]; done)), H', ⟨by have := HJ6.out; first | omega | exact Nat.le_refl _⟩, ⟨by (with_reducible repeat (first | apply Kd.V_alloc | apply Kd.V_drewN | apply Kd.V_drew)); exact Kd.V_mono HO_0.out (fun _ hk => ⟨hk.1.2, hk.2⟩)⟩, ⟨by (with_reducible repeat (first | apply Kd.R_alloc | apply Kd.R_drewN | apply Kd.R_drew)); exact HO339.out⟩, ⟨by (with_reducible repeat (first | apply Kd.R_alloc | apply Kd.R_drewN | apply Kd.R_drew)); exact HO341.out⟩, ⟨by repeat (first | (with_reducible first | exact HB.out | apply below_alloc | apply pw_below_drewN | apply below_drew1) | exact HB.out)⟩⟩
                · rw [if_neg c25] at H
                  have c25b0 : ((t335.length : Int) == (t324.length : Int)) = false := beq_eq_false_iff_ne.mpr c25
                  have c25b1 : ((t335.length : Int) != (t324.length : Int)) = true := bne_iff_ne.mpr c25
                  have c25b2 : (t335.length == t324.length) = false := by first | simpa using c25 | (simp at c25 ⊢; omega)
                  have H' := Aside0.mk H
                  clear H
                  obtain ⟨Ao30, co30, eo30⟩ := Kd.R_slice HO341.out
                  subst eo30
                  obtain ⟨Ao31, co31, eo31⟩ := Kd.R_slice HO339.out
                  subst eo31
                  go_wp2
                  go_meet
                  case rel => exact ⟨_, (true), (by first | rfl | (simp; done) | (simp [*]; done)), H', ⟨by have := HJ6.out; first | omega | exact Nat.le_refl _⟩, ⟨by (with_reducible repeat (first | apply Kd.V_alloc | apply Kd.V_drewN | apply Kd.V_drew)); exact Kd.V_mono HO_0.out (fun _ hk => ⟨hk.1.2, hk.2⟩)⟩, ⟨by (with_reducible repeat (first | apply Kd.R_alloc | apply Kd.R_drewN | apply Kd.R_drew)); exact HO339.out⟩, ⟨by (with_reducible repeat (first | apply Kd.R_alloc | apply Kd.R_drewN | apply Kd.R_drew)); exact HO341.out⟩, ⟨by repeat (first | (with_reducible first | exact HB.out | apply below_alloc | apply pw_below_drewN | apply below_drew1) | exact HB.out)⟩⟩
              · rw [if_neg c24] at H
                have c24b0 : ((t336.length : Int) == (ji19)) = false := beq_eq_false_iff_ne.mpr c24
                have c24b1 : ((t336.length : Int) != (ji19)) = true := bne_iff_ne.mpr c24
                (first | rw [c24b0] | (simp only [i64_w, i32_w]; rw [c24b0]) | skip)
                have H' := Aside0.mk H
                clear H
                obtain ⟨Ao32, co32, eo32⟩ := Kd.R_slice HO341.out
                subst eo32
                go_wp2
                go_meet
                case rel => exact ⟨_, (true), (by first | rfl | (simp; done) | (simp [*]; done)), H', ⟨by have := HJ6.out; first | omega | exact Nat.le_refl _⟩, ⟨by (with_reducible repeat (first | apply Kd.V_alloc | apply Kd.V_drewN | apply Kd.V_drew)); exact Kd.V_mono HO_0.out (fun _ hk => ⟨hk.1.2, hk.2⟩)⟩, ⟨by (with_reducible repeat (first | apply Kd.R_alloc | apply Kd.R_drewN | apply Kd.R_drew)); exact HO339.out⟩, ⟨by (with_reducible repeat (first | apply Kd.R_alloc | apply Kd.R_drewN | apply Kd.R_drew)); exact HO341.out⟩, ⟨by repeat (first | (with_reducible first | exact HB.out | apply below_alloc | apply pw_below_drewN | apply below_drew1) | exact HB.out)⟩⟩
            case rest =>
              clear HC22
              try clear c1
              try clear c2
              try clear p2
              try clear p6
              try clear c7
              try clear c8
              try clear c12
              try clear c12b0
              try clear c12b1
              try clear c14
              try clear c15
              try clear c17
              try clear c21
              try clear c21b0
              try clear c21b1
              try clear c22
              try clear c24
              try clear c24b0
              try clear c24b1
              try clear c25
              try clear c25b0
              try clear c25b1
              try clear c25b2
              try clear p2
              obtain ⟨kq, x80_21, rfl, HA, HJ21, HO_0, HO_9, HO_10, HB⟩ := hcut
              cases kq with
              | zero => exact absurd HA.out (by simp [doorwardlaw06_RoomBack.j1])
              | succ kj21 =>
                have H := HA.out
                clear HA
                simp only [doorwardlaw06_RoomBack.j1] at H
                by_cases c33 : x80_21 = true
                · subst c33
                  have H1 : (some false) = some r := by rw [if_pos rfl] at H; exact H
                  clear H
                  have H := H1
                  clear H1
                  obtain rfl := Option.some.inj H
                  go_wp2
                  go_ret
                  exact ⟨by first | rfl | (simp [errW_none, errW_some] <;> rfl) | (simp only [← hji18, ← hji19]; first | rfl | (simp [errW_none, errW_some] <;> rfl)) | (simp [*, errW_none, errW_some] <;> rfl), by repeat (first | (with_reducible first | exact HB.out | apply below_alloc | apply pw_below_drewN | apply below_drew1) | exact HB.out)⟩
                · replace c33 := Bool.eq_false_iff.mpr c33
                  subst c33
                  have H1 : (doorwardlaw06_RoomBack.l0 kj21 t324 ji19 a2 t335 t336 t336 (t336.length : Int) 0) = some r := by rw [if_neg (show ¬ (false = true) by decide)] at H; exact H
                  clear H
                  have H := H1
                  clear H1
                  have H' := Aside0.mk H
                  clear H
                  obtain ⟨Ao34, co34, eo34⟩ := Kd.R_slice HO_10.out
                  subst eo34
                  go_wp2
                  go_loopg [83] kj21 (fun kq v83 w' => ∃ (x83_3 : Int), v83 = .int .i64 x83_3 ∧ Aside0 (doorwardlaw06_RoomBack.l0 kq t324 ji19 a2 t335 t336 t336 (t336.length : Int) x83_3 = some r) ∧ Aside0 (kq ≤ kj21) ∧ Aside0 (Kd.V Kd.bool 4 w' w.heap.size (fun k_ => some k_ ≠ (v338 : Value).ownBlock ∧ some k_ ≠ ((.slice Ao34 t336.length co34) : Value).ownBlock ∧ some k_ ≠ ((.slice Ao34 t336.length co34) : Value).ownBlock) (.slice Ao9 t324.length co9) t324) ∧ Aside0 (Kd.R Kd.bool 4 w' w.heap.size (fun _ => True) v338 t335) ∧ Aside0 (Kd.R (Kd.int .i64) 3 w' w.heap.size (fun _ => True) (.slice Ao34 t336.length co34) t336) ∧ Aside0 (Kd.R (Kd.int .i64) 3 w' w.heap.size (fun _ => True) (.slice Ao34 t336.length co34) t336) ∧ Aside0 (Below w.heap.size w w'))
                  case atStart => exact ⟨(0), (by first | rfl | (simp; done) | (simp [*]; done)), H', ⟨Nat.le_refl _⟩, ⟨by (with_reducible repeat (first | apply Kd.V_alloc | apply Kd.V_drewN | apply Kd.V_drew)); exact Kd.V_mono HO_0.out (fun _ hk => ⟨hk.1, ⟨hk.2, hk.2⟩⟩)⟩, ⟨by (with_reducible repeat (first | apply Kd.R_alloc | apply Kd.R_drewN | apply Kd.R_drew)); exact HO_9.out⟩, ⟨by (with_reducible repeat (first | apply Kd.R_alloc | apply Kd.R_drewN | apply Kd.R_drew)); exact HO_10.out⟩, ⟨by (with_reducible repeat (first | apply Kd.R_alloc | apply Kd.R_drewN | apply Kd.R_drew)); exact HO_10.out⟩, ⟨by repeat (first | (with_reducible first | exact HB.out | apply below_alloc | apply pw_below_drewN | apply below_drew1) | exact HB.out)⟩⟩
                  case round =>
                    clear H'
                    try clear c1
                    try clear c2
                    try clear p2
                    try clear c3
                    try clear p6
                    try clear c7
                    try clear c8
                    try clear c12
                    try clear c12b0
                    try clear c12b1
                    try clear c14
                    try clear c15
                    try clear c17
                    try clear c21
                    try clear c21b0
                    try clear c21b1
                    try clear c22
                    try clear c24
                    try clear c24b0
                    try clear c24b1
                    try clear c25
                    try clear c25b0
                    try clear c25b1
                    try clear c25b2
                    try clear c33
                    try clear p2
                    try clear p6
                    obtain ⟨x83_3, rfl, HA, HK3, HO_0, HO_9, HO_10, HO_81, HB⟩ := hrel
                    cases gk with
                    | zero => exact absurd HA.out (by simp [doorwardlaw06_RoomBack.l0])
                    | succ k3 =>
                      have H := HA.out
                      clear HA
                      simp only [doorwardlaw06_RoomBack.l0] at H
                      by_cases c35 : x83_3 < (t336.length : Int)
                      · rw [if_pos c35] at H
                        have c35b0 : decide (x83_3 < (t336.length : Int)) = true := decide_eq_true c35
                        clear c35
                        by_cases c36 : 0 ≤ x83_3
                        · rw [if_pos c36] at H
                          have c36b0 : decide (0 ≤ x83_3) = true := decide_eq_true c36
                          clear c36
                          by_cases c37 : x83_3 < (t336.length : Int)
                          · rw [if_pos c37] at H
                            have c37b0 : decide (x83_3 < (t336.length : Int)) = true := decide_eq_true c37
                            clear c37
                            by_cases c38 : (rd t336 x83_3) < 54
                            · rw [if_pos c38] at H
                              have c38b0 : decide ((rd t336 x83_3) < 54) = true := decide_eq_true c38
                              clear c38
                              obtain rfl := Option.some.inj H
                              have p346 : 0 ≤ (x83_3 : Int) := of_decide_eq_true (by first | (with_reducible assumption) | assumption)
                              have q346 : x83_3 < (t336.length : Int) := of_decide_eq_true (by first | (with_reducible assumption) | assumption)
                              obtain ⟨ad346, e346, hx346_0⟩ := Kd.at_int (Kd.R_reads' HO_81.out).2.2 x83_3 p346 q346
                              cases e346
                              replace p346 := eq_true p346
                              replace q346 := eq_true q346
                              go_wp2
                              go_ret
                              exact ⟨by first | rfl | (simp [errW_none, errW_some] <;> rfl) | (simp only [← hji18, ← hji19]; first | rfl | (simp [errW_none, errW_some] <;> rfl)) | (simp [*, errW_none, errW_some] <;> rfl), by repeat (first | (with_reducible first | exact HB.out | apply below_alloc | apply pw_below_drewN | apply below_drew1) | exact HB.out)⟩
                            · rw [if_neg c38] at H
                              have c38b0 : decide ((rd t336 x83_3) < 54) = false := decide_eq_false c38
                              clear c38
                              by_cases c39 : (rd t336 x83_3) ≥ (t324.length : Int)
                              · rw [if_pos c39] at H
                                have c39b0 : decide ((t324.length : Int) ≤ (rd t336 x83_3)) = true := decide_eq_true c39
                                clear c39
                                obtain rfl := Option.some.inj H
                                have p346 : 0 ≤ (x83_3 : Int) := of_decide_eq_true (by first | (with_reducible assumption) | assumption)
                                have q346 : x83_3 < (t336.length : Int) := of_decide_eq_true (by first | (with_reducible assumption) | assumption)
                                obtain ⟨ad346, e346, hx346_0⟩ := Kd.at_int (Kd.R_reads' HO_81.out).2.2 x83_3 p346 q346
                                cases e346
                                replace p346 := eq_true p346
                                replace q346 := eq_true q346
                                go_wp2
                                go_ret
                                exact ⟨by first | rfl | (simp [errW_none, errW_some] <;> rfl) | (simp only [← hji18, ← hji19]; first | rfl | (simp [errW_none, errW_some] <;> rfl)) | (simp [*, errW_none, errW_some] <;> rfl), by repeat (first | (with_reducible first | exact HB.out | apply below_alloc | apply pw_below_drewN | apply below_drew1) | exact HB.out)⟩
                              · rw [if_neg c39] at H
                                have c39b0 : decide ((t324.length : Int) ≤ (rd t336 x83_3)) = false := decide_eq_false c39
                                clear c39
                                by_cases c40 : 0 ≤ (rd t336 x83_3)
                                · rw [if_pos c40] at H
                                  have c40b0 : decide (0 ≤ (rd t336 x83_3)) = true := decide_eq_true c40
                                  clear c40
                                  by_cases c41 : (rd t336 x83_3) < (t324.length : Int)
                                  · rw [if_pos c41] at H
                                    have c41b0 : decide ((rd t336 x83_3) < (t324.length : Int)) = true := decide_eq_true c41
                                    clear c41
                                    obtain ⟨bq42, hbq42⟩ : ∃ b_ : Bool, b_ = (rdOf false t324 (rd t336 x83_3)) := ⟨_, rfl⟩
                                    replace H : (if bq42 = true then (some false) else (if (rd t336 x83_3) < (t335.length : Int) then (if (rdOf false t335 (rd t336 x83_3) = true) then (if x83_3 > 0 then (if 0 ≤ (wrap64 (x83_3 - 1)) then (if (wrap64 (x83_3 - 1)) < (t336.length : Int) then (if (rd t336 (wrap64 (x83_3 - 1))) ≥ (rd t336 x83_3) then (some false) else (doorwardlaw06_RoomBack.l0 k3 t324 ji19 a2 t335 t336 t336 (t336.length : Int) (wrap64 (x83_3 + 1)))) else (none)) else (none)) else (doorwardlaw06_RoomBack.l0 k3 t324 ji19 a2 t335 t336 t336 (t336.length : Int) (wrap64 (x83_3 + 1)))) else (some false)) else (none))) = some r := by rw [← hbq42] at H; exact H
                                    have Nbq42 := Aside0.mk hbq42
                                    clear hbq42
                                    by_cases c43 : bq42 = true
                                    · subst c43
                                      have H1 : (some false) = some r := by rw [if_pos rfl] at H; exact H
                                      clear H
                                      have H := H1
                                      clear H1
                                      obtain rfl := Option.some.inj H
                                      have p346 : 0 ≤ (x83_3 : Int) := of_decide_eq_true (by first | (with_reducible assumption) | assumption)
                                      have q346 : x83_3 < (t336.length : Int) := of_decide_eq_true (by first | (with_reducible assumption) | assumption)
                                      obtain ⟨ad346, e346, hx346_0⟩ := Kd.at_int (Kd.R_reads' HO_81.out).2.2 x83_3 p346 q346
                                      cases e346
                                      replace p346 := eq_true p346
                                      replace q346 := eq_true q346
                                      have p347 : 0 ≤ ((rd t336 x83_3) : Int) := of_decide_eq_true (by first | (with_reducible assumption) | assumption)
                                      have q347 : (rd t336 x83_3) < (t324.length : Int) := of_decide_eq_true (by first | (with_reducible assumption) | assumption)
                                      obtain ⟨ad347, e347, hx347_0⟩ := Kd.at_bool (Kd.V_reads' HO_0.out).2.2 (rd t336 x83_3) p347 q347
                                      (try rw [← Nbq42.out] at hx347_0)
                                      cases e347
                                      replace p347 := eq_true p347
                                      replace q347 := eq_true q347
                                      go_wp2
                                      go_ret
                                      exact ⟨by first | rfl | (simp [errW_none, errW_some] <;> rfl) | (simp only [← hji18, ← hji19]; first | rfl | (simp [errW_none, errW_some] <;> rfl)) | (simp [*, errW_none, errW_some] <;> rfl), by repeat (first | (with_reducible first | exact HB.out | apply below_alloc | apply pw_below_drewN | apply below_drew1) | exact HB.out)⟩
                                    · replace c43 := Bool.eq_false_iff.mpr c43
                                      subst c43
                                      have H1 : (if (rd t336 x83_3) < (t335.length : Int) then (if (rdOf false t335 (rd t336 x83_3) = true) then (if x83_3 > 0 then (if 0 ≤ (wrap64 (x83_3 - 1)) then (if (wrap64 (x83_3 - 1)) < (t336.length : Int) then (if (rd t336 (wrap64 (x83_3 - 1))) ≥ (rd t336 x83_3) then (some false) else (doorwardlaw06_RoomBack.l0 k3 t324 ji19 a2 t335 t336 t336 (t336.length : Int) (wrap64 (x83_3 + 1)))) else (none)) else (none)) else (doorwardlaw06_RoomBack.l0 k3 t324 ji19 a2 t335 t336 t336 (t336.length : Int) (wrap64 (x83_3 + 1)))) else (some false)) else (none)) = some r := by rw [if_neg (show ¬ (false = true) by decide)] at H; exact H
                                      clear H
                                      have H := H1
                                      clear H1
                                      by_cases c44 : (rd t336 x83_3) < (t335.length : Int)
                                      · rw [if_pos c44] at H
                                        have c44b0 : decide ((rd t336 x83_3) < (t335.length : Int)) = true := decide_eq_true c44
                                        clear c44
                                        obtain ⟨bq45, hbq45⟩ : ∃ b_ : Bool, b_ = (rdOf false t335 (rd t336 x83_3)) := ⟨_, rfl⟩
                                        replace H : (if (bq45 = true) then (if x83_3 > 0 then (if 0 ≤ (wrap64 (x83_3 - 1)) then (if (wrap64 (x83_3 - 1)) < (t336.length : Int) then (if (rd t336 (wrap64 (x83_3 - 1))) ≥ (rd t336 x83_3) then (some false) else (doorwardlaw06_RoomBack.l0 k3 t324 ji19 a2 t335 t336 t336 (t336.length : Int) (wrap64 (x83_3 + 1)))) else (none)) else (none)) else (doorwardlaw06_RoomBack.l0 k3 t324 ji19 a2 t335 t336 t336 (t336.length : Int) (wrap64 (x83_3 + 1)))) else (some false)) = some r := by rw [← hbq45] at H; exact H
                                        have Nbq45 := Aside0.mk hbq45
                                        clear hbq45
                                        by_cases c46 : (bq45 = true)
                                        · subst c46
                                          have H1 : (if x83_3 > 0 then (if 0 ≤ (wrap64 (x83_3 - 1)) then (if (wrap64 (x83_3 - 1)) < (t336.length : Int) then (if (rd t336 (wrap64 (x83_3 - 1))) ≥ (rd t336 x83_3) then (some false) else (doorwardlaw06_RoomBack.l0 k3 t324 ji19 a2 t335 t336 t336 (t336.length : Int) (wrap64 (x83_3 + 1)))) else (none)) else (none)) else (doorwardlaw06_RoomBack.l0 k3 t324 ji19 a2 t335 t336 t336 (t336.length : Int) (wrap64 (x83_3 + 1)))) = some r := by rw [if_pos rfl] at H; exact H
                                          clear H
                                          have H := H1
                                          clear H1
                                          by_cases c47 : x83_3 > 0
                                          · rw [if_pos c47] at H
                                            have c47b0 : decide (0 < x83_3) = true := decide_eq_true c47
                                            clear c47
                                            obtain ⟨ji48, hji48⟩ : ∃ j_ : Int, (wrap64 (x83_3 - 1)) = j_ := ⟨_, rfl⟩
                                            replace H : (if 0 ≤ (ji48) then (if (ji48) < (t336.length : Int) then (if (rd t336 (ji48)) ≥ (rd t336 x83_3) then (some false) else (doorwardlaw06_RoomBack.l0 k3 t324 ji19 a2 t335 t336 t336 (t336.length : Int) (wrap64 (x83_3 + 1)))) else (none)) else (none)) = some r := by first | (rw [hji48] at H; exact H) | (simp only [hji48] at H ⊢; exact H)
                                            have hji48w : (IntKind.i64.wrap (x83_3 - 1)) = ji48 := (i64_w _).trans hji48
                                            by_cases c49 : 0 ≤ (ji48)
                                            · rw [if_pos c49] at H
                                              have c49b0 : decide (0 ≤ (ji48)) = true := decide_eq_true c49
                                              clear c49
                                              by_cases c50 : (ji48) < (t336.length : Int)
                                              · rw [if_pos c50] at H
                                                have c50b0 : decide ((ji48) < (t336.length : Int)) = true := decide_eq_true c50
                                                clear c50
                                                by_cases c51 : (rd t336 (ji48)) ≥ (rd t336 x83_3)
                                                · rw [if_pos c51] at H
                                                  have c51b0 : decide ((rd t336 x83_3) ≤ (rd t336 (ji48))) = true := decide_eq_true c51
                                                  clear c51
                                                  obtain rfl := Option.some.inj H
                                                  have p346 : 0 ≤ (x83_3 : Int) := of_decide_eq_true (by first | (with_reducible assumption) | assumption)
                                                  have q346 : x83_3 < (t336.length : Int) := of_decide_eq_true (by first | (with_reducible assumption) | assumption)
                                                  obtain ⟨ad346, e346, hx346_0⟩ := Kd.at_int (Kd.R_reads' HO_81.out).2.2 x83_3 p346 q346
                                                  cases e346
                                                  replace p346 := eq_true p346
                                                  replace q346 := eq_true q346
                                                  have p347 : 0 ≤ ((rd t336 x83_3) : Int) := of_decide_eq_true (by first | (with_reducible assumption) | assumption)
                                                  have q347 : (rd t336 x83_3) < (t324.length : Int) := of_decide_eq_true (by first | (with_reducible assumption) | assumption)
                                                  obtain ⟨ad347, e347, hx347_0⟩ := Kd.at_bool (Kd.V_reads' HO_0.out).2.2 (rd t336 x83_3) p347 q347
                                                  (try rw [← Nbq42.out] at hx347_0)
                                                  (try rw [← Nbq45.out] at hx347_0)
                                                  cases e347
                                                  replace p347 := eq_true p347
                                                  replace q347 := eq_true q347
                                                  obtain ⟨Ao52, co52, eo52⟩ := Kd.R_slice HO_9.out
                                                  subst eo52
                                                  have p348 : 0 ≤ ((rd t336 x83_3) : Int) := of_decide_eq_true (by first | (with_reducible assumption) | assumption)
                                                  have q348 : (rd t336 x83_3) < (t335.length : Int) := of_decide_eq_true (by first | (with_reducible assumption) | assumption)
                                                  obtain ⟨ad348, e348, hx348_0⟩ := Kd.at_bool (Kd.R_reads' HO_9.out).2.2 (rd t336 x83_3) p348 q348
                                                  (try rw [← Nbq42.out] at hx348_0)
                                                  (try rw [← Nbq45.out] at hx348_0)
                                                  cases e348
                                                  replace p348 := eq_true p348
                                                  replace q348 := eq_true q348
                                                  have p349 : 0 ≤ ((ji48) : Int) := of_decide_eq_true (by first | (with_reducible assumption) | assumption)
                                                  have q349 : (ji48) < (t336.length : Int) := of_decide_eq_true (by first | (with_reducible assumption) | assumption)
                                                  obtain ⟨ad349, e349, hx349_0⟩ := Kd.at_int (Kd.R_reads' HO_10.out).2.2 (ji48) p349 q349
                                                  obtain rfl : ad346 = ad349 := (by injection e349)
                                                  replace p349 := eq_true p349
                                                  replace q349 := eq_true q349
                                                  go_wp2
                                                  go_ret
                                                  exact ⟨by first | rfl | (simp [errW_none, errW_some] <;> rfl) | (simp only [← hji18, ← hji19, ← hji48]; first | rfl | (simp [errW_none, errW_some] <;> rfl)) | (simp [*, errW_none, errW_some] <;> rfl), by repeat (first | (with_reducible first | exact HB.out | apply below_alloc | apply pw_below_drewN | apply below_drew1) | exact HB.out)⟩
                                                · rw [if_neg c51] at H
                                                  have c51b0 : decide ((rd t336 x83_3) ≤ (rd t336 (ji48))) = false := decide_eq_false c51
                                                  clear c51
                                                  have H' := Aside0.mk H
                                                  clear H
                                                  have p346 : 0 ≤ (x83_3 : Int) := of_decide_eq_true (by first | (with_reducible assumption) | assumption)
                                                  have q346 : x83_3 < (t336.length : Int) := of_decide_eq_true (by first | (with_reducible assumption) | assumption)
                                                  obtain ⟨ad346, e346, hx346_0⟩ := Kd.at_int (Kd.R_reads' HO_81.out).2.2 x83_3 p346 q346
                                                  cases e346
                                                  replace p346 := eq_true p346
                                                  replace q346 := eq_true q346
                                                  have p347 : 0 ≤ ((rd t336 x83_3) : Int) := of_decide_eq_true (by first | (with_reducible assumption) | assumption)
                                                  have q347 : (rd t336 x83_3) < (t324.length : Int) := of_decide_eq_true (by first | (with_reducible assumption) | assumption)
                                                  obtain ⟨ad347, e347, hx347_0⟩ := Kd.at_bool (Kd.V_reads' HO_0.out).2.2 (rd t336 x83_3) p347 q347
                                                  (try rw [← Nbq42.out] at hx347_0)
                                                  (try rw [← Nbq45.out] at hx347_0)
                                                  cases e347
                                                  replace p347 := eq_true p347
                                                  replace q347 := eq_true q347
                                                  obtain ⟨Ao53, co53, eo53⟩ := Kd.R_slice HO_9.out
                                                  subst eo53
                                                  have p348 : 0 ≤ ((rd t336 x83_3) : Int) := of_decide_eq_true (by first | (with_reducible assumption) | assumption)
                                                  have q348 : (rd t336 x83_3) < (t335.length : Int) := of_decide_eq_true (by first | (with_reducible assumption) | assumption)
                                                  obtain ⟨ad348, e348, hx348_0⟩ := Kd.at_bool (Kd.R_reads' HO_9.out).2.2 (rd t336 x83_3) p348 q348
                                                  (try rw [← Nbq42.out] at hx348_0)
                                                  (try rw [← Nbq45.out] at hx348_0)
                                                  cases e348
                                                  replace p348 := eq_true p348
                                                  replace q348 := eq_true q348
                                                  have p349 : 0 ≤ ((ji48) : Int) := of_decide_eq_true (by first | (with_reducible assumption) | assumption)
                                                  have q349 : (ji48) < (t336.length : Int) := of_decide_eq_true (by first | (with_reducible assumption) | assumption)
                                                  obtain ⟨ad349, e349, hx349_0⟩ := Kd.at_int (Kd.R_reads' HO_10.out).2.2 (ji48) p349 q349
                                                  obtain rfl : ad346 = ad349 := (by injection e349)
                                                  replace p349 := eq_true p349
                                                  replace q349 := eq_true q349
                                                  go_wp2
                                                  go_roundg k3
                                                  case measure => have := HJ6.out; have := HJ21.out; have := HK3.out; omega
                                                  case rel => exact ⟨(wrap64 (x83_3 + 1)), (by first | rfl | (simp; done) | (simp [*]; done)), H', ⟨by have := HJ6.out; have := HJ21.out; have := HK3.out; omega⟩, ⟨by (with_reducible repeat (first | apply Kd.V_alloc | apply Kd.V_drewN | apply Kd.V_drew)); exact HO_0.out⟩, ⟨by (with_reducible repeat (first | apply Kd.R_alloc | apply Kd.R_drewN | apply Kd.R_drew)); exact HO_9.out⟩, ⟨by (with_reducible repeat (first | apply Kd.R_alloc | apply Kd.R_drewN | apply Kd.R_drew)); exact HO_10.out⟩, ⟨by (with_reducible repeat (first | apply Kd.R_alloc | apply Kd.R_drewN | apply Kd.R_drew)); exact HO_81.out⟩, ⟨by repeat (first | (with_reducible first | exact HB.out | apply below_alloc | apply pw_below_drewN | apply below_drew1) | exact HB.out)⟩⟩
                                              · rw [if_neg c50] at H
                                                exact absurd H (by simp)
                                            · rw [if_neg c49] at H
                                              exact absurd H (by simp)
                                          · rw [if_neg c47] at H
                                            have c47b0 : decide (0 < x83_3) = false := decide_eq_false c47
                                            clear c47
                                            have H' := Aside0.mk H
                                            clear H
                                            have p346 : 0 ≤ (x83_3 : Int) := of_decide_eq_true (by first | (with_reducible assumption) | assumption)
                                            have q346 : x83_3 < (t336.length : Int) := of_decide_eq_true (by first | (with_reducible assumption) | assumption)
                                            obtain ⟨ad346, e346, hx346_0⟩ := Kd.at_int (Kd.R_reads' HO_81.out).2.2 x83_3 p346 q346
                                            cases e346
                                            replace p346 := eq_true p346
                                            replace q346 := eq_true q346
                                            have p347 : 0 ≤ ((rd t336 x83_3) : Int) := of_decide_eq_true (by first | (with_reducible assumption) | assumption)
                                            have q347 : (rd t336 x83_3) < (t324.length : Int) := of_decide_eq_true (by first | (with_reducible assumption) | assumption)
                                            obtain ⟨ad347, e347, hx347_0⟩ := Kd.at_bool (Kd.V_reads' HO_0.out).2.2 (rd t336 x83_3) p347 q347
                                            (try rw [← Nbq42.out] at hx347_0)
                                            (try rw [← Nbq45.out] at hx347_0)
                                            cases e347
                                            replace p347 := eq_true p347
                                            replace q347 := eq_true q347
                                            obtain ⟨Ao54, co54, eo54⟩ := Kd.R_slice HO_9.out
                                            subst eo54
                                            have p348 : 0 ≤ ((rd t336 x83_3) : Int) := of_decide_eq_true (by first | (with_reducible assumption) | assumption)
                                            have q348 : (rd t336 x83_3) < (t335.length : Int) := of_decide_eq_true (by first | (with_reducible assumption) | assumption)
                                            obtain ⟨ad348, e348, hx348_0⟩ := Kd.at_bool (Kd.R_reads' HO_9.out).2.2 (rd t336 x83_3) p348 q348
                                            (try rw [← Nbq42.out] at hx348_0)
                                            (try rw [← Nbq45.out] at hx348_0)
                                            cases e348
                                            replace p348 := eq_true p348
                                            replace q348 := eq_true q348
                                            go_wp2
                                            go_roundg k3
                                            case measure => have := HJ6.out; have := HJ21.out; have := HK3.out; omega
                                            case rel => exact ⟨(wrap64 (x83_3 + 1)), (by first | rfl | (simp; done) | (simp [*]; done)), H', ⟨by have := HJ6.out; have := HJ21.out; have := HK3.out; omega⟩, ⟨by (with_reducible repeat (first | apply Kd.V_alloc | apply Kd.V_drewN | apply Kd.V_drew)); exact HO_0.out⟩, ⟨by (with_reducible repeat (first | apply Kd.R_alloc | apply Kd.R_drewN | apply Kd.R_drew)); exact HO_9.out⟩, ⟨by (with_reducible repeat (first | apply Kd.R_alloc | apply Kd.R_drewN | apply Kd.R_drew)); exact HO_10.out⟩, ⟨by (with_reducible repeat (first | apply Kd.R_alloc | apply Kd.R_drewN | apply Kd.R_drew)); exact HO_81.out⟩, ⟨by repeat (first | (with_reducible first | exact HB.out | apply below_alloc | apply pw_below_drewN | apply below_drew1) | exact HB.out)⟩⟩
                                        · replace c46 := Bool.eq_false_iff.mpr c46
                                          subst c46
                                          have H1 : (some false) = some r := by rw [if_neg (show ¬ (false = true) by decide)] at H; exact H
                                          clear H
                                          have H := H1
                                          clear H1
                                          obtain rfl := Option.some.inj H
                                          have p346 : 0 ≤ (x83_3 : Int) := of_decide_eq_true (by first | (with_reducible assumption) | assumption)
                                          have q346 : x83_3 < (t336.length : Int) := of_decide_eq_true (by first | (with_reducible assumption) | assumption)
                                          obtain ⟨ad346, e346, hx346_0⟩ := Kd.at_int (Kd.R_reads' HO_81.out).2.2 x83_3 p346 q346
                                          cases e346
                                          replace p346 := eq_true p346
                                          replace q346 := eq_true q346
                                          have p347 : 0 ≤ ((rd t336 x83_3) : Int) := of_decide_eq_true (by first | (with_reducible assumption) | assumption)
                                          have q347 : (rd t336 x83_3) < (t324.length : Int) := of_decide_eq_true (by first | (with_reducible assumption) | assumption)
                                          obtain ⟨ad347, e347, hx347_0⟩ := Kd.at_bool (Kd.V_reads' HO_0.out).2.2 (rd t336 x83_3) p347 q347
                                          (try rw [← Nbq42.out] at hx347_0)
                                          (try rw [← Nbq45.out] at hx347_0)
                                          cases e347
                                          replace p347 := eq_true p347
                                          replace q347 := eq_true q347
                                          obtain ⟨Ao55, co55, eo55⟩ := Kd.R_slice HO_9.out
                                          subst eo55
                                          have p348 : 0 ≤ ((rd t336 x83_3) : Int) := of_decide_eq_true (by first | (with_reducible assumption) | assumption)
                                          have q348 : (rd t336 x83_3) < (t335.length : Int) := of_decide_eq_true (by first | (with_reducible assumption) | assumption)
                                          obtain ⟨ad348, e348, hx348_0⟩ := Kd.at_bool (Kd.R_reads' HO_9.out).2.2 (rd t336 x83_3) p348 q348
                                          (try rw [← Nbq42.out] at hx348_0)
                                          (try rw [← Nbq45.out] at hx348_0)
                                          cases e348
                                          replace p348 := eq_true p348
                                          replace q348 := eq_true q348
                                          go_wp2
                                          go_ret
                                          exact ⟨by first | rfl | (simp [errW_none, errW_some] <;> rfl) | (simp only [← hji18, ← hji19]; first | rfl | (simp [errW_none, errW_some] <;> rfl)) | (simp [*, errW_none, errW_some] <;> rfl), by repeat (first | (with_reducible first | exact HB.out | apply below_alloc | apply pw_below_drewN | apply below_drew1) | exact HB.out)⟩
                                      · rw [if_neg c44] at H
                                        exact absurd H (by simp)
                                  · rw [if_neg c41] at H
                                    exact absurd H (by simp)
                                · rw [if_neg c40] at H
                                  exact absurd H (by simp)
                          · rw [if_neg c37] at H
                            exact absurd H (by simp)
                        · rw [if_neg c36] at H
                          exact absurd H (by simp)
                      · rw [if_neg c35] at H
                        have c35b0 : decide (x83_3 < (t336.length : Int)) = false := decide_eq_false c35
                        clear c35
                        by_cases c56 : ji19 > 0
                        · rw [if_pos c56] at H
                          have c56b0 : decide (0 < ji19) = true := decide_eq_true c56
                          clear c56
                          by_cases c57 : ji19 = 0
                          · rw [if_pos c57] at H
                            exact absurd H (by simp)
                          · rw [if_neg c57] at H
                            have c57b0 : (ji19 == 0) = false := beq_eq_false_iff_ne.mpr c57
                            have c57b1 : (ji19 != 0) = true := bne_iff_ne.mpr c57
                            obtain ⟨y350, hy350⟩ : ∃ y_ : List Int, y_ = (([] : List Int)) := ⟨_, rfl⟩
                            replace H : (if 0 ≤ (Int.tmod (wrap64 ((Int.tmod a2 ji19) + ji19)) ji19) then (if (Int.tmod (wrap64 ((Int.tmod a2 ji19) + ji19)) ji19) ≤ (t336.length : Int) then ((some (t336.drop ((Int.tmod (wrap64 ((Int.tmod a2 ji19) + ji19)) ji19) : Int).toNat : List Int)).bind fun y353 => (if y350.length + y353.length < 17592186044416 then ((some (y350 ++ y353 : List Int)).bind fun y357 => ((some (t336.take ((Int.tmod (wrap64 ((Int.tmod a2 ji19) + ji19)) ji19) : Int).toNat : List Int)).bind fun y360 => (if y357.length + y360.length < 17592186044416 then ((room_Give.f k3 t335 (y357 ++ y360)).bind fun bt367 => ((doorwardlaw06_alive.f k3).bind fun t371 => (if t371 = true then (if bt367.2 = 0 then ((doorwardref06_Same.f k3 bt367.1 t324).bind fun t372 => (some t372)) else (some false)) else (some false)))) else (none)))) else (none))) else (none)) else (none)) = some r := by first | (rw [hy350]; with_reducible exact H) | (have H2_ := (Option.bind_some _ _).symm.trans H; rw [hy350]; with_reducible exact H2_) | (have H2_ := (Option.bind_some _ _).symm.trans H; with_reducible exact H2_) | with_reducible exact H | (rw [hy350]; exact H) | exact H
                            have Ny350 := Aside0.mk hy350
                            clear hy350
                            obtain ⟨ji58, hji58⟩ : ∃ j_ : Int, (Int.tmod (wrap64 ((Int.tmod a2 ji19) + ji19)) ji19) = j_ := ⟨_, rfl⟩
                            replace H : (if 0 ≤ (ji58) then (if (ji58) ≤ (t336.length : Int) then ((some (t336.drop ((ji58) : Int).toNat : List Int)).bind fun y353 => (if y350.length + y353.length < 17592186044416 then ((some (y350 ++ y353 : List Int)).bind fun y357 => ((some (t336.take ((ji58) : Int).toNat : List Int)).bind fun y360 => (if y357.length + y360.length < 17592186044416 then ((room_Give.f k3 t335 (y357 ++ y360)).bind fun bt367 => ((doorwardlaw06_alive.f k3).bind fun t371 => (if t371 = true then (if bt367.2 = 0 then ((doorwardref06_Same.f k3 bt367.1 t324).bind fun t372 => (some t372)) else (some false)) else (some false)))) else (none)))) else (none))) else (none)) else (none)) = some r := by first | (rw [hji58] at H; exact H) | (simp only [hji58] at H ⊢; exact H)
                            by_cases c59 : 0 ≤ (ji58)
                            · rw [if_pos c59] at H
                              have c59b0 := eq_true c59
                              have c59b1 : decide (0 ≤ (ji58)) = true := decide_eq_true c59
                              clear c59
                              by_cases c60 : (ji58) ≤ (t336.length : Int)
                              · rw [if_pos c60] at H
                                have c60b0 := eq_true c60
                                have c60b1 : decide ((ji58) ≤ (t336.length : Int)) = true := decide_eq_true c60
                                clear c60
                                obtain ⟨y353, hy353⟩ : ∃ y_ : List Int, y_ = (t336.drop ((ji58) : Int).toNat) := ⟨_, rfl⟩
                                replace H : (if y350.length + y353.length < 17592186044416 then ((some (y350 ++ y353 : List Int)).bind fun y357 => ((some (t336.take ((ji58) : Int).toNat : List Int)).bind fun y360 => (if y357.length + y360.length < 17592186044416 then ((room_Give.f k3 t335 (y357 ++ y360)).bind fun bt367 => ((doorwardlaw06_alive.f k3).bind fun t371 => (if t371 = true then (if bt367.2 = 0 then ((doorwardref06_Same.f k3 bt367.1 t324).bind fun t372 => (some t372)) else (some false)) else (some false)))) else (none)))) else (none)) = some r := by first | (rw [hy353]; with_reducible exact H) | (have H2_ := (Option.bind_some _ _).symm.trans H; rw [hy353]; with_reducible exact H2_) | (have H2_ := (Option.bind_some _ _).symm.trans H; with_reducible exact H2_) | with_reducible exact H | (rw [hy353]; exact H) | exact H
                                have Ny353 := Aside0.mk hy353
                                clear hy353
                                by_cases c61 : y350.length + y353.length < 17592186044416
                                · rw [if_pos c61] at H
                                  have LMc61 := Aside0.mk c61
                                  clear c61
                                  obtain ⟨y357, hy357⟩ : ∃ y_ : List Int, y_ = (y350 ++ y353) := ⟨_, rfl⟩
                                  replace H : ((some (t336.take ((ji58) : Int).toNat : List Int)).bind fun y360 => (if y357.length + y360.length < 17592186044416 then ((room_Give.f k3 t335 (y357 ++ y360)).bind fun bt367 => ((doorwardlaw06_alive.f k3).bind fun t371 => (if t371 = true then (if bt367.2 = 0 then ((doorwardref06_Same.f k3 bt367.1 t324).bind fun t372 => (some t372)) else (some false)) else (some false)))) else (none))) = some r := by first | (rw [hy357]; with_reducible exact H) | (have H2_ := (Option.bind_some _ _).symm.trans H; rw [hy357]; with_reducible exact H2_) | (have H2_ := (Option.bind_some _ _).symm.trans H; with_reducible exact H2_) | with_reducible exact H | (rw [hy357]; exact H) | exact H
                                  have Ny357 := Aside0.mk hy357
                                  clear hy357
                                  have c62b0 := eq_true (of_decide_eq_true (by first | (with_reducible assumption) | assumption) : 0 ≤ (ji58))
                                  have c63b0 := eq_true (of_decide_eq_true (by first | (with_reducible assumption) | assumption) : (ji58) ≤ (t336.length : Int))
                                  obtain ⟨y360, hy360⟩ : ∃ y_ : List Int, y_ = (t336.take ((ji58) : Int).toNat) := ⟨_, rfl⟩
                                  replace H : (if y357.length + y360.length < 17592186044416 then ((room_Give.f k3 t335 (y357 ++ y360)).bind fun bt367 => ((doorwardlaw06_alive.f k3).bind fun t371 => (if t371 = true then (if bt367.2 = 0 then ((doorwardref06_Same.f k3 bt367.1 t324).bind fun t372 => (some t372)) else (some false)) else (some false)))) else (none)) = some r := by first | (rw [hy360]; with_reducible exact H) | (have H2_ := (Option.bind_some _ _).symm.trans H; rw [hy360]; with_reducible exact H2_) | (have H2_ := (Option.bind_some _ _).symm.trans H; with_reducible exact H2_) | with_reducible exact H | (rw [hy360]; exact H) | exact H
                                  have Ny360 := Aside0.mk hy360
                                  clear hy360
                                  by_cases c64 : y357.length + y360.length < 17592186044416
                                  · rw [if_pos c64] at H
                                    have LMc64 := Aside0.mk c64
                                    clear c64
                                    obtain ⟨y364, hy364⟩ : ∃ y_ : List Int, y_ = (y357 ++ y360) := ⟨_, rfl⟩
                                    replace H : ((room_Give.f k3 t335 y364).bind fun bt367 => ((doorwardlaw06_alive.f k3).bind fun t371 => (if t371 = true then (if bt367.2 = 0 then ((doorwardref06_Same.f k3 bt367.1 t324).bind fun t372 => (some t372)) else (some false)) else (some false)))) = some r := by first | (rw [hy364]; with_reducible exact H) | (have H2_ := (Option.bind_some _ _).symm.trans H; rw [hy364]; with_reducible exact H2_) | (have H2_ := (Option.bind_some _ _).symm.trans H; with_reducible exact H2_) | with_reducible exact H | (rw [hy364]; exact H) | exact H
                                    have Ny364 := Aside0.mk hy364
                                    clear hy364
                                    replace H := Option.bind_eq_some_iff.mp H
                                    obtain ⟨⟨t367, t368⟩, A650, H⟩ := H
                                    replace H : ((doorwardlaw06_alive.f k3).bind fun t371 => (if t371 = true then (if t368 = 0 then ((doorwardref06_Same.f k3 t367 t324).bind fun t372 => (some t372)) else (some false)) else (some false))) = some r := H
                                    have A65 := Aside0.mk A650
                                    clear A650
                                    replace H := Option.bind_eq_some_iff.mp H
                                    obtain ⟨t371, A660, H⟩ := H
                                    replace H : (if t371 = true then (if t368 = 0 then ((doorwardref06_Same.f k3 t367 t324).bind fun t372 => (some t372)) else (some false)) else (some false)) = some r := H
                                    have A66 := Aside0.mk A660
                                    clear A660
                                    by_cases c67 : t371 = true
                                    · subst c67
                                      have H1 : (if t368 = 0 then ((doorwardref06_Same.f k3 t367 t324).bind fun t372 => (some t372)) else (some false)) = some r := by rw [if_pos rfl] at H; exact H
                                      clear H
                                      have H := H1
                                      clear H1
                                      by_cases c68 : t368 = 0
                                      · rw [if_pos c68] at H
                                        have c68b0 : (t368 == 0) = true := beq_iff_eq.mpr c68
                                        have c68b1 : (t368 != 0) = false := bne_eq_false_iff_eq.mpr c68
                                        clear c68
                                        replace H := Option.bind_eq_some_iff.mp H
                                        obtain ⟨t372, A690, H⟩ := H
                                        replace H : (some t372) = some r := H
                                        have A69 := Aside0.mk A690
                                        clear A690
                                        obtain rfl := Option.some.inj H
                                        try go_wp2
                                        have n0_ := Aside0.mk (Kd.V_drew HO_0.out)
                                        have n1_ := Aside0.mk (Kd.R_drew HO_9.out)
                                        have n2_ := Aside0.mk (Kd.R_drew HO_10.out)
                                        have n3_ := Aside0.mk (Kd.R_drew HO_81.out)
                                        have n4_ := Aside0.mk (below_drew1 HB.out)
                                        clear HO_0
                                        clear HO_9
                                        clear HO_10
                                        clear HO_81
                                        clear HB
                                        have HO_0 := n0_
                                        have HO_9 := n1_
                                        have HO_10 := n2_
                                        have HO_81 := n3_
                                        have HB := n4_
                                        clear n0_ n1_ n2_ n3_ n4_
                                        have q71 : ((ji58) : Int) ≤ ((t336.length : Int) : Int) := of_decide_eq_true (by first | (with_reducible assumption) | assumption)
                                        obtain ⟨i071, hi071, _, hsz71, _⟩ := info_parts info3
                                        have hroom71 : t336.length ≤ co34 := (Kd.R_reads' HO_10.out).2.1
                                        have hC71 : Kd.C (Kd.int .i64) _ Ao34 t336.length t336 := (Kd.R_reads' HO_10.out).2.2
                                        have q071 : (0 : Int) ≤ ((ji58) : Int) := of_decide_eq_true (by first | (with_reducible assumption) | assumption)
                                        have hcut71 := cut_from (P := Try.prog) 33 3 .i64 Try.underlying33 hi071 1 hsz71 Ao34 t336.length co34 (ji58) q071 q71
                                        have hr71 := Kd.C_drop (m := ((ji58) : Int).toNat) (c := co34) hC71 (by omega) hroom71
                                        obtain ⟨A71, hA71⟩ : ∃ A1, A1 = (if co34 = ((ji58) : Int).toNat then Ao34 else (Ao34 : Option Addr).map (·.add (((ji58) : Int).toNat * 1))) := ⟨_, rfl⟩
                                        obtain ⟨c71, hc71⟩ : ∃ c1, c1 = co34 - ((ji58) : Int).toNat := ⟨_, rfl⟩
                                        have hy71 : y353.length = t336.length - ((ji58) : Int).toNat := (by rw [Ny353.out, List.length_drop] <;> omega)
                                        rw [show (t336).drop ((ji58) : Int).toNat = y353 from Ny353.out.symm] at hr71
                                        replace hr71 : Kd.C (Kd.int .i64) _ A71 y353.length y353 := (by rw [hA71]; exact hr71)
                                        rw [← hy71, ← hA71, ← hc71] at hcut71
                                        have HR356 := Aside0.mk hr71
                                        have HC356 := Aside0.mk (show y353.length ≤ c71 from by rw [hy71, hc71]; exact Nat.sub_le_sub_right hroom71 _)
                                        clear hr71 hC71 hroom71 hi071 hsz71 hc71
                                        have KY71 := Aside0.mk hy71
                                        have KA71 := Aside0.mk hA71
                                        clear hy71 hA71
                                        have KL71 := Aside0.mk (show ((ji58) : Int).toNat ≤ t336.length from by omega)
                                        replace q71 := eq_true q71
                                        have q72 : ((ji58) : Int) ≤ ((t336.length : Int) : Int) := of_decide_eq_true (by first | (with_reducible assumption) | assumption)
                                        obtain ⟨i072, hi072, _, hsz72, _⟩ := info_parts info3
                                        have hroom72 : t336.length ≤ co34 := (Kd.R_reads' HO_10.out).2.1
                                        have hC72 : Kd.C (Kd.int .i64) _ Ao34 t336.length t336 := (Kd.R_reads' HO_10.out).2.2
                                        have hcut72 := cut_to (P := Try.prog) 33 3 .i64 Try.underlying33 hi072 Ao34 t336.length co34 (ji58) (of_decide_eq_true (by first | (with_reducible assumption) | assumption)) q72 hroom72
                                        have hr72 := Kd.C_take (m := ((ji58) : Int).toNat) hC72 (by omega)
                                        have hy72 : y360.length = ((ji58) : Int).toNat := (by rw [Ny360.out, List.length_take]; omega)
                                        rw [← Ny360.out] at hr72
                                        rw [← hy72] at hcut72
                                        have HR363 := Aside0.mk hr72
                                        have HC363 := Aside0.mk (show y360.length ≤ co34 from by omega)
                                        clear hr72 hC72 hroom72 hi072 hsz72
                                        have KY72 := Aside0.mk hy72
                                        clear hy72
                                        have KL72 := Aside0.mk (show ((ji58) : Int).toNat ≤ t336.length from by omega)
                                        replace q72 := eq_true q72
                                        refine start_ (n := 10) (S := fun w' => True) (ds := []) #[false, false, false, false, false, false, false, false, false, false] (by kernel_rfl) rfl rfl trivial (fun hHeld => ?_); refine with_tabW doorwardlaw06_RoomBack.tab21 doorwardlaw06_RoomBack.bits21 (fun HT_ HW_ => ?_)
                                        generalize wr.drew = w70 at HO_0 HO_9 HO_10 HO_81 HB HR356 HR363 hHeld ⊢
                                        refine pure_ (i := 1) (N := some 133) (v := ?_) (a' := ?_) #[false, true, false, false, false, false, false, false, false, false] rfl rfl (any_of HT_.out (by kernel_rfl)) (fun _ _ _ h => h) (Or.inl ⟨by rfl, ?_⟩) ?_ ?_
                                        rotate_left
                                        · intro w'
                                          go_simp
                                          with_reducible rfl
                                        rotate_left
                                        · simp only [Act.put, List.setIfInBounds_toArray, List.set_cons_zero, List.set_cons_succ, i64_w, i32_w]
                                          rfl
                                        refine pure_ (i := 2) (N := some 134) (v := ?_) (a' := ?_) #[false, true, true, false, false, false, false, false, false, false] rfl rfl (any_of HT_.out (by kernel_rfl)) (fun _ _ _ h => h) (Or.inl ⟨by rfl, ?_⟩) ?_ ?_
                                        rotate_left
                                        · intro w'
                                          go_simp
                                          with_reducible rfl
                                        rotate_left
                                        · simp only [Act.put, List.setIfInBounds_toArray, List.set_cons_zero, List.set_cons_succ, i64_w, i32_w]
                                          rfl
                                        refine pure_ (i := 3) (N := some 135) (v := ?_) (a' := ?_) #[false, true, true, true, false, false, false, false, false, false] rfl rfl (any_of HT_.out (by kernel_rfl)) (fun _ _ _ h => h) (Or.inl ⟨by rfl, ?_⟩) ?_ ?_
                                        rotate_left
                                        · intro w'
                                          go_simp
                                          with_reducible rfl
                                        rotate_left
                                        · simp only [Act.put, List.setIfInBounds_toArray, List.set_cons_zero, List.set_cons_succ, i64_w, i32_w]
                                          rfl
                                        refine pure_ (i := 5) (N := some 137) (v := ?_) (a' := ?_) #[false, true, true, true, false, true, false, false, false, false] rfl rfl (any_of HT_.out (by kernel_rfl)) (fun _ _ _ h => h) (Or.inl ⟨by rfl, ?_⟩) ?_ ?_
                                        rotate_left
                                        · intro w'
                                          go_simp
                                          with_reducible rfl
                                        rotate_left
                                        · simp only [Act.put, List.setIfInBounds_toArray, List.set_cons_zero, List.set_cons_succ, i64_w, i32_w]
                                          rfl
                                        refine pure_ (i := 6) (N := some 138) (v := ?_) (a' := ?_) #[false, true, true, true, false, true, true, false, false, false] rfl rfl (any_of HT_.out (by kernel_rfl)) (fun _ _ _ h => h) (Or.inl ⟨by rfl, ?_⟩) ?_ ?_
                                        rotate_left
                                        · intro w'
                                          go_simp
                                          with_reducible rfl
                                        rotate_left
                                        · simp only [Act.put, List.setIfInBounds_toArray, List.set_cons_zero, List.set_cons_succ, i64_w, i32_w]
                                          rfl
                                        refine pure_ (i := 7) (N := some 139) (v := ?_) (a' := ?_) #[false, true, true, true, false, true, true, true, false, false] rfl rfl (any_of HT_.out (by kernel_rfl)) (fun _ _ _ h => h) (Or.inl ⟨by rfl, ?_⟩) ?_ ?_
                                        rotate_left
                                        · intro w'
                                          go_simp
                                          with_reducible rfl
                                        rotate_left
                                        · simp only [Act.put, List.setIfInBounds_toArray, List.set_cons_zero, List.set_cons_succ, i64_w, i32_w]
                                          rfl
                                        refine one_ (i := 0) (N := some 132) #[true, true, true, true, false, true, true, true, false, false] rfl rfl (one_of HT_.out (by kernel_rfl)) (by decide) (fun K hK => ?_)
                                        refine Kd.R_lit_step (Kd.int .i64) _ 3 ?hg (N := 132) ?hd (xs := ([] : List Int)) (inner := []) (ok := fun _ => True) (okp := fun _ => True) ?hr ?hp (fun _ hk => hk) trivial (Below.refl _ _) (Nat.le_refl _) (by simp) ?_; (case hd => rfl); (case hg => rfl); (case hr => first | (go_simp; done) | (go_simp; rfl)); (case hp => exact (Reps.none _ _))
                                        intro v351 w73 ho74 hb hg_ hnew_
                                        clear hg_ hnew_
                                        (first | rw [← Ny350.out] at ho74 | (simp only [Int.reduceToNat] at ho74; rw [← Ny350.out] at ho74))
                                        have n0_ := Aside0.mk (Kd.V_elder' (by (with_reducible repeat (first | apply Kd.V_alloc | apply Kd.V_drewN | apply Kd.V_drew)); exact HO_0.out) (Kd.R_base ho74) hb)
                                        have n1_ := Aside0.mk (Kd.R_below (by (with_reducible repeat (first | apply Kd.R_alloc | apply Kd.R_drewN | apply Kd.R_drew)); exact HO_9.out) hb)
                                        have n2_ := Aside0.mk (Kd.R_elder' (by (with_reducible repeat (first | apply Kd.R_alloc | apply Kd.R_drewN | apply Kd.R_drew)); exact HO_10.out) (Kd.R_base ho74) hb)
                                        have n3_ := Aside0.mk (Kd.R_elder' (by (with_reducible repeat (first | apply Kd.R_alloc | apply Kd.R_drewN | apply Kd.R_drew)); exact HO_81.out) (Kd.R_base ho74) hb)
                                        have n4_ := Aside0.mk (Kd.R_lower (Kd.R_new' (Kd.R_new' ho74 (Kd.R_lt (by (with_reducible repeat (first | apply Kd.R_alloc | apply Kd.R_drewN | apply Kd.R_drew)); exact HO_10.out))) (Kd.R_lt (by (with_reducible repeat (first | apply Kd.R_alloc | apply Kd.R_drewN | apply Kd.R_drew)); exact HO_81.out))) (below_size (by repeat (first | (with_reducible first | exact HB.out | apply below_alloc | apply pw_below_drewN | apply below_drew1) | exact HB.out))))
                                        have n5_ := Aside0.mk (Kd.C_below (by repeat (first | (with_reducible exact HR356.out) | (with_reducible refine Kd.C_alloc ?_ _) | (with_reducible refine Kd.C_drewN ?_ _) | (with_reducible refine Kd.C_drew ?_) | exact HR356.out)) hb)
                                        have n6_ := Aside0.mk (Kd.C_below (by repeat (first | (with_reducible exact HR363.out) | (with_reducible refine Kd.C_alloc ?_ _) | (with_reducible refine Kd.C_drewN ?_ _) | (with_reducible refine Kd.C_drew ?_) | exact HR363.out)) hb)
                                        have n7_ := Aside0.mk (below_step (by repeat (first | (with_reducible first | exact HB.out | apply below_alloc | apply pw_below_drewN | apply below_drew1) | exact HB.out)) hb)
                                        clear HO_0
                                        clear HO_9
                                        clear HO_10
                                        clear HO_81
                                        clear HR356
                                        clear HR363
                                        clear HB
                                        have HO_0 := n0_
                                        have HO_9 := n1_
                                        have HO_10 := n2_
                                        have HO_81 := n3_
                                        have HO352 := n4_
                                        have HR356 := n5_
                                        have HR363 := n6_
                                        have HB := n7_
                                        clear n0_ n1_ n2_ n3_ n4_ n5_ n6_ n7_
                                        clear hb ho74
                                        refine hK.out _ _ trivial (fun hHeld => ?_)
                                        clear hK K
                                        refine norm_ (a' := ?_) ?_ ?_
                                        rotate_left
                                        · show Act.put _ (some 132) _ = _
                                          simp only [Act.put, List.setIfInBounds_toArray, List.set_cons_zero, List.set_cons_succ, i64_w, i32_w]
                                          rfl
                                        refine one_ (i := 4) (N := some 136) #[true, true, true, true, true, true, true, true, false, false] rfl rfl (one_of HT_.out (by kernel_rfl)) (by decide) (fun K hK => ?_)
                                        refine Kd.R_append_rows_step (Kd.int .i64) (w0 := w) w.heap.size (by rfl) (.tmp 132) (.tmp 135) 33 3 (.int .i64 0) 8 rfl Try.underlying33 info3 rfl (by decide) (by omega) v351 y350 y353 _ _ _ (fun k_ => some k_ ≠ (.slice Ao34 t336.length co34 : Value).ownBlock ∧ some k_ ≠ (.slice Ao34 t336.length co34 : Value).ownBlock) (fun _ => False) rfl rfl ?aO ?aR (fun _ _ h => h) (fun _ h => h.elim) ?aF ?aB ?aS ?aL ?_
                                        (case aR => repeat (first | exact (by repeat (first | (with_reducible exact HR356.out) | (with_reducible refine Kd.C_alloc ?_ _) | (with_reducible refine Kd.C_drewN ?_ _) | (with_reducible refine Kd.C_drew ?_) | exact HR356.out)) | (with_reducible refine Kd.C_alloc ?_ _) | (with_reducible refine Kd.C_drewN ?_ _) | (with_reducible refine Kd.C_drew ?_)))
                                        (case aB => exact (by repeat (first | (with_reducible first | exact HB.out | apply below_alloc | apply pw_below_drewN | apply below_drew1) | exact HB.out)))
                                        (case aF => exact (fun k_ hk => ⟨Kd.fresh' (Kd.R_lt (by (with_reducible repeat (first | apply Kd.R_alloc | apply Kd.R_drewN | apply Kd.R_drew)); exact HO_10.out)) k_ hk, Kd.fresh' (Kd.R_lt (by (with_reducible repeat (first | apply Kd.R_alloc | apply Kd.R_drewN | apply Kd.R_drew)); exact HO_81.out)) k_ hk⟩))
                                        (case aO => exact (by (with_reducible repeat (first | apply Kd.R_alloc | apply Kd.R_drewN | apply Kd.R_drew)); exact Kd.R_mono HO352.out (fun _ hk => ⟨hk.1.2, hk.2⟩)))
                                        (case aS => exact (below_size (by repeat (first | (with_reducible first | exact HB.out | apply below_alloc | apply pw_below_drewN | apply below_drew1) | exact HB.out))))
                                        (case aL => have := LMc61.out; omega)
                                        intro v358 w75 ho hb hg hat
                                        rw [← Ny357.out] at ho
                                        have n0_ := Aside0.mk (Kd.V_afterv (ok := (fun k_ => some k_ ≠ (v338 : Value).ownBlock ∧ some k_ ≠ (.slice Ao34 t336.length co34 : Value).ownBlock ∧ some k_ ≠ (.slice Ao34 t336.length co34 : Value).ownBlock)) (by (with_reducible repeat (first | apply Kd.V_alloc | apply Kd.V_drewN | apply Kd.V_drew)); exact HO_0.out) hg hat)
                                        have n1_ := Aside0.mk (Kd.R_over' (by (with_reducible repeat (first | apply Kd.R_alloc | apply Kd.R_drewN | apply Kd.R_drew)); exact HO_9.out) (Kd.R_typed (by (with_reducible repeat (first | apply Kd.R_alloc | apply Kd.R_drewN | apply Kd.R_drew)); exact HO352.out)) (by decide) hg)
                                        have n2_ := Aside0.mk (Kd.R_after (ok := (fun _ => True)) (by (with_reducible repeat (first | apply Kd.R_alloc | apply Kd.R_drewN | apply Kd.R_drew)); exact HO_10.out) hg hat)
                                        have n3_ := Aside0.mk (Kd.R_after (ok := (fun _ => True)) (by (with_reducible repeat (first | apply Kd.R_alloc | apply Kd.R_drewN | apply Kd.R_drew)); exact HO_81.out) hg hat)
                                        have n4_ := Aside0.mk (hb)
                                        have n5_ := Aside0.mk ((show Kd.C (Kd.int .i64) w75 A71 y353.length y353 from by rw [Ny353.out, KA71.out]; exact Kd.C_drop (m := ((ji58) : Int).toNat) (c := co34) ((Kd.R_reads' (Kd.R_after (ok := (fun _ => True)) (by (with_reducible repeat (first | apply Kd.R_alloc | apply Kd.R_drewN | apply Kd.R_drew)); exact HO_10.out) hg hat)).2.2) KL71.out ((Kd.R_reads' (Kd.R_after (ok := (fun _ => True)) (by (with_reducible repeat (first | apply Kd.R_alloc | apply Kd.R_drewN | apply Kd.R_drew)); exact HO_10.out) hg hat)).2.1)))
                                        have n6_ := Aside0.mk ((show Kd.C (Kd.int .i64) w75 Ao34 y360.length y360 from by rw [Ny360.out]; exact Kd.C_take (m := ((ji58) : Int).toNat) ((Kd.R_reads' (Kd.R_after (ok := (fun _ => True)) (by (with_reducible repeat (first | apply Kd.R_alloc | apply Kd.R_drewN | apply Kd.R_drew)); exact HO_10.out) hg hat)).2.2) KL72.out))
                                        have n7_ := Aside0.mk (ho)
                                        clear HO_0
                                        clear HO_9
                                        clear HO_10
                                        clear HO_81
                                        clear HB
                                        clear HR356
                                        clear HR363
                                        clear HO352
                                        have HO_0 := n0_
                                        have HO_9 := n1_
                                        have HO_10 := n2_
                                        have HO_81 := n3_
                                        have HB := n4_
                                        have HR356 := n5_
                                        have HR363 := n6_
                                        have HO359 := n7_
                                        clear n0_ n1_ n2_ n3_ n4_ n5_ n6_ n7_
                                        clear ho hb hg hat
                                        refine hK.out _ _ trivial (fun hHeld => ?_)
                                        clear hK K
                                        refine norm_ (a' := ?_) ?_ ?_
                                        rotate_left
                                        · show Act.put _ (some 136) _ = _
                                          simp only [Act.put, List.setIfInBounds_toArray, List.set_cons_zero, List.set_cons_succ, i64_w, i32_w]
                                          rfl
                                        refine one_ (i := 8) (N := some 140) #[true, true, true, true, true, true, true, true, true, false] rfl rfl (one_of HT_.out (by kernel_rfl)) (by decide) (fun K hK => ?_)
                                        refine Kd.R_append_rows_step (Kd.int .i64) (w0 := w) w.heap.size (by rfl) (.tmp 136) (.tmp 139) 33 3 (.int .i64 0) 8 rfl Try.underlying33 info3 rfl (by decide) (by omega) v358 y357 y360 _ _ _ (fun k_ => some k_ ≠ (.slice Ao34 t336.length co34 : Value).ownBlock ∧ some k_ ≠ (.slice Ao34 t336.length co34 : Value).ownBlock) (fun _ => False) rfl rfl ?aO ?aR (fun _ _ h => h) (fun _ h => h.elim) ?aF ?aB ?aS ?aL ?_
                                        (case aR => repeat (first | exact (by repeat (first | (with_reducible exact HR363.out) | (with_reducible refine Kd.C_alloc ?_ _) | (with_reducible refine Kd.C_drewN ?_ _) | (with_reducible refine Kd.C_drew ?_) | exact HR363.out)) | (with_reducible refine Kd.C_alloc ?_ _) | (with_reducible refine Kd.C_drewN ?_ _) | (with_reducible refine Kd.C_drew ?_)))
                                        (case aB => exact (by repeat (first | (with_reducible first | exact HB.out | apply below_alloc | apply pw_below_drewN | apply below_drew1) | exact HB.out)))
                                        (case aF => exact (fun k_ hk => ⟨Kd.fresh' (Kd.R_lt (by (with_reducible repeat (first | apply Kd.R_alloc | apply Kd.R_drewN | apply Kd.R_drew)); exact HO_10.out)) k_ hk, Kd.fresh' (Kd.R_lt (by (with_reducible repeat (first | apply Kd.R_alloc | apply Kd.R_drewN | apply Kd.R_drew)); exact HO_81.out)) k_ hk⟩))
                                        (case aO => exact (by (with_reducible repeat (first | apply Kd.R_alloc | apply Kd.R_drewN | apply Kd.R_drew)); exact HO359.out))
                                        (case aS => exact (below_size (by repeat (first | (with_reducible first | exact HB.out | apply below_alloc | apply pw_below_drewN | apply below_drew1) | exact HB.out))))
                                        (case aL => have := LMc64.out; omega)
                                        intro v365 w76 ho hb hg hat
                                        rw [← Ny364.out] at ho
                                        have n0_ := Aside0.mk (Kd.V_afterv (ok := (fun k_ => some k_ ≠ (v338 : Value).ownBlock ∧ some k_ ≠ (.slice Ao34 t336.length co34 : Value).ownBlock ∧ some k_ ≠ (.slice Ao34 t336.length co34 : Value).ownBlock)) (by (with_reducible repeat (first | apply Kd.V_alloc | apply Kd.V_drewN | apply Kd.V_drew)); exact HO_0.out) hg hat)
                                        have n1_ := Aside0.mk (Kd.R_over' (by (with_reducible repeat (first | apply Kd.R_alloc | apply Kd.R_drewN | apply Kd.R_drew)); exact HO_9.out) (Kd.R_typed (by (with_reducible repeat (first | apply Kd.R_alloc | apply Kd.R_drewN | apply Kd.R_drew)); exact HO359.out)) (by decide) hg)
                                        have n2_ := Aside0.mk (Kd.R_after (ok := (fun _ => True)) (by (with_reducible repeat (first | apply Kd.R_alloc | apply Kd.R_drewN | apply Kd.R_drew)); exact HO_10.out) hg hat)
                                        have n3_ := Aside0.mk (Kd.R_after (ok := (fun _ => True)) (by (with_reducible repeat (first | apply Kd.R_alloc | apply Kd.R_drewN | apply Kd.R_drew)); exact HO_81.out) hg hat)
                                        have n4_ := Aside0.mk (hb)
                                        have n5_ := Aside0.mk ((show Kd.C (Kd.int .i64) w76 A71 y353.length y353 from by rw [Ny353.out, KA71.out]; exact Kd.C_drop (m := ((ji58) : Int).toNat) (c := co34) ((Kd.R_reads' (Kd.R_after (ok := (fun _ => True)) (by (with_reducible repeat (first | apply Kd.R_alloc | apply Kd.R_drewN | apply Kd.R_drew)); exact HO_10.out) hg hat)).2.2) KL71.out ((Kd.R_reads' (Kd.R_after (ok := (fun _ => True)) (by (with_reducible repeat (first | apply Kd.R_alloc | apply Kd.R_drewN | apply Kd.R_drew)); exact HO_10.out) hg hat)).2.1)))
                                        have n6_ := Aside0.mk ((show Kd.C (Kd.int .i64) w76 Ao34 y360.length y360 from by rw [Ny360.out]; exact Kd.C_take (m := ((ji58) : Int).toNat) ((Kd.R_reads' (Kd.R_after (ok := (fun _ => True)) (by (with_reducible repeat (first | apply Kd.R_alloc | apply Kd.R_drewN | apply Kd.R_drew)); exact HO_10.out) hg hat)).2.2) KL72.out))
                                        have n7_ := Aside0.mk (ho)
                                        clear HO_0
                                        clear HO_9
                                        clear HO_10
                                        clear HO_81
                                        clear HB
                                        clear HR356
                                        clear HR363
                                        clear HO359
                                        have HO_0 := n0_
                                        have HO_9 := n1_
                                        have HO_10 := n2_
                                        have HO_81 := n3_
                                        have HB := n4_
                                        have HR356 := n5_
                                        have HR363 := n6_
                                        have HO366 := n7_
                                        clear n0_ n1_ n2_ n3_ n4_ n5_ n6_ n7_
                                        clear ho hb hg hat
                                        refine hK.out _ _ trivial (fun hHeld => ?_)
                                        clear hK K
                                        refine norm_ (a' := ?_) ?_ ?_
                                        rotate_left
                                        · show Act.put _ (some 140) _ = _
                                          simp only [Act.put, List.setIfInBounds_toArray, List.set_cons_zero, List.set_cons_succ, i64_w, i32_w]
                                          rfl
                                        refine pure_ (i := 9) (N := some 10) (v := ?_) (a' := ?_) #[true, true, true, true, true, true, true, true, true, true] rfl rfl (any_of HT_.out (by kernel_rfl)) (fun _ _ _ h => h) (Or.inl ⟨by rfl, ?_⟩) ?_ ?_
                                        rotate_left
                                        · intro w'
                                          go_simp
                                          with_reducible rfl
                                        rotate_left
                                        · simp only [Act.put, List.setIfInBounds_toArray, List.set_cons_zero, List.set_cons_succ, i64_w, i32_w]
                                          rfl
                                        refine done_ (done_of HT_.out (by kernel_rfl)) ?_
                                        obtain ⟨Ao77, co77, eo77⟩ := Kd.R_slice HO_9.out
                                        subst eo77
                                        obtain ⟨Ao78, co78, eo78⟩ := Kd.R_slice HO366.out
                                        subst eo78
                                        try go_wp2_with (first | ((with_reducible refine gate_callee (f := 20) rfl ?_); refine goesL_ (some 144) rfl rfl Try.func20 (by kernel_rfl) rfl #[.slice Ao77 t335.length co77, .slice Ao78 y364.length co78] rfl (by (try simp only [List.map_toArray, List.map_cons, List.map_nil]); first | done | rfl | (simp only [List.length_drop, List.length_take]; rfl)) ?_; (with_reducible refine (room_Give.calls k3 _ _ t335 _ _ y364 t367 t368 _ ?side1 ?side2 ?side3 ?side4 A65.out).mono ?_); (case side1 => repeat (first | exact (Kd.R_reads' HO_9.out).2.2 | (with_reducible refine Kd.C_alloc ?_ _) | (with_reducible refine Kd.C_drewN ?_ _) | (with_reducible refine Kd.C_drew ?_))); (case side2 => exact (Kd.R_reads' HO_9.out).2.1); (case side3 => repeat (first | exact (Kd.R_reads' HO366.out).2.2 | (with_reducible refine Kd.C_alloc ?_ _) | (with_reducible refine Kd.C_drewN ?_ _) | (with_reducible refine Kd.C_drew ?_))); (case side4 => exact (Kd.R_reads' HO366.out).2.1); rintro e w79 ⟨v369, rfl, ho0, hb⟩; refine ⟨_, rfl, ?_⟩; have n0_ := Aside0.mk (Kd.V_elder' (by (with_reducible repeat (first | apply Kd.V_alloc | apply Kd.V_drewN | apply Kd.V_drew)); exact HO_0.out) (Kd.R_base ho0) hb); have n1_ := Aside0.mk (Kd.R_elder' (by (with_reducible repeat (first | apply Kd.R_alloc | apply Kd.R_drewN | apply Kd.R_drew)); exact HO_9.out) (Kd.R_base ho0) hb); have n2_ := Aside0.mk (Kd.R_below (by (with_reducible repeat (first | apply Kd.R_alloc | apply Kd.R_drewN | apply Kd.R_drew)); exact HO_10.out) hb); have n3_ := Aside0.mk (Kd.R_below (by (with_reducible repeat (first | apply Kd.R_alloc | apply Kd.R_drewN | apply Kd.R_drew)); exact HO_81.out) hb); have n4_ := Aside0.mk (Kd.R_below (by (with_reducible repeat (first | apply Kd.R_alloc | apply Kd.R_drewN | apply Kd.R_drew)); exact HO366.out) hb); have n5_ := Aside0.mk (Kd.R_lower (Kd.R_new' ho0 (Kd.R_lt (by (with_reducible repeat (first | apply Kd.R_alloc | apply Kd.R_drewN | apply Kd.R_drew)); exact HO_9.out))) (below_size (by repeat (first | (with_reducible first | exact HB.out | apply below_alloc | apply pw_below_drewN | apply below_drew1) | exact HB.out)))); have n6_ := Aside0.mk (Kd.C_below (by repeat (first | (with_reducible exact HR356.out) | (with_reducible refine Kd.C_alloc ?_ _) | (with_reducible refine Kd.C_drewN ?_ _) | (with_reducible refine Kd.C_drew ?_) | exact HR356.out)) hb); have n7_ := Aside0.mk (Kd.C_below (by repeat (first | (with_reducible exact HR363.out) | (with_reducible refine Kd.C_alloc ?_ _) | (with_reducible refine Kd.C_drewN ?_ _) | (with_reducible refine Kd.C_drew ?_) | exact HR363.out)) hb); have n8_ := Aside0.mk (below_step (by repeat (first | (with_reducible first | exact HB.out | apply below_alloc | apply pw_below_drewN | apply below_drew1) | exact HB.out)) hb); clear HO_0; clear HO_9; clear HO_10; clear HO_81; clear HO366; clear HR356; clear HR363; clear HB; have HO_0 := n0_; have HO_9 := n1_; have HO_10 := n2_; have HO_81 := n3_; have HO366 := n4_; have HO370 := n5_; have HR356 := n6_; have HR363 := n7_; have HB := n8_; clear n0_ n1_ n2_ n3_ n4_ n5_ n6_ n7_ n8_; (try clear hb); (try clear hb2); (try clear hk); (try clear hi); (try clear ho0)) | ((with_reducible refine gate_callee (f := 12) rfl ?_); refine goesL_ (some 147) rfl rfl Try.func12 (by kernel_rfl) rfl #[] rfl (by (try simp only [List.map_toArray, List.map_cons, List.map_nil]); first | done | rfl | (simp only [List.length_drop, List.length_take]; rfl)) ?_; (with_reducible refine (doorwardlaw06_alive.calls k3  true _ A66.out).mono ?_); rintro e w80 ⟨rfl, hb⟩; refine ⟨_, rfl, ?_⟩; have n0_ := Aside0.mk (Kd.V_below (by (with_reducible repeat (first | apply Kd.V_alloc | apply Kd.V_drewN | apply Kd.V_drew)); exact HO_0.out) hb); have n1_ := Aside0.mk (Kd.R_below (by (with_reducible repeat (first | apply Kd.R_alloc | apply Kd.R_drewN | apply Kd.R_drew)); exact HO_9.out) hb); have n2_ := Aside0.mk (Kd.R_below (by (with_reducible repeat (first | apply Kd.R_alloc | apply Kd.R_drewN | apply Kd.R_drew)); exact HO_10.out) hb); have n3_ := Aside0.mk (Kd.R_below (by (with_reducible repeat (first | apply Kd.R_alloc | apply Kd.R_drewN | apply Kd.R_drew)); exact HO_81.out) hb); have n4_ := Aside0.mk (Kd.R_below (by (with_reducible repeat (first | apply Kd.R_alloc | apply Kd.R_drewN | apply Kd.R_drew)); exact HO366.out) hb); have n5_ := Aside0.mk (Kd.R_below (by (with_reducible repeat (first | apply Kd.R_alloc | apply Kd.R_drewN | apply Kd.R_drew)); exact HO370.out) hb); have n6_ := Aside0.mk (Kd.C_below (by repeat (first | (with_reducible exact HR356.out) | (with_reducible refine Kd.C_alloc ?_ _) | (with_reducible refine Kd.C_drewN ?_ _) | (with_reducible refine Kd.C_drew ?_) | exact HR356.out)) hb); have n7_ := Aside0.mk (Kd.C_below (by repeat (first | (with_reducible exact HR363.out) | (with_reducible refine Kd.C_alloc ?_ _) | (with_reducible refine Kd.C_drewN ?_ _) | (with_reducible refine Kd.C_drew ?_) | exact HR363.out)) hb); have n8_ := Aside0.mk (below_step (by repeat (first | (with_reducible first | exact HB.out | apply below_alloc | apply pw_below_drewN | apply below_drew1) | exact HB.out)) hb); clear HO_0; clear HO_9; clear HO_10; clear HO_81; clear HO366; clear HO370; clear HR356; clear HR363; clear HB; have HO_0 := n0_; have HO_9 := n1_; have HO_10 := n2_; have HO_81 := n3_; have HO366 := n4_; have HO370 := n5_; have HR356 := n6_; have HR363 := n7_; have HB := n8_; clear n0_ n1_ n2_ n3_ n4_ n5_ n6_ n7_ n8_; (try clear hb); (try clear hb2); (try clear hk); (try clear hi); obtain ⟨Ao81, co81, eo81⟩ := Kd.R_slice HO370.out; subst eo81) | (go_at_call 10; (with_reducible refine (doorwardref06_Same.calls k3 _ _ t367 _ _ t324 t372 _ ?side1 ?side2 ?side3 ?side4 A69.out).mono ?_); (case side1 => repeat (first | exact (Kd.R_reads' HO370.out).2.2 | (with_reducible refine Kd.C_alloc ?_ _) | (with_reducible refine Kd.C_drewN ?_ _) | (with_reducible refine Kd.C_drew ?_))); (case side2 => exact (Kd.R_reads' HO370.out).2.1); (case side3 => repeat (first | exact (Kd.V_reads' HO_0.out).2.2 | (with_reducible refine Kd.C_alloc ?_ _) | (with_reducible refine Kd.C_drewN ?_ _) | (with_reducible refine Kd.C_drew ?_))); (case side4 => exact (Kd.V_reads' HO_0.out).2.1); rintro e w' ⟨rfl, ⟨nd, rfl⟩⟩))
                                        go_ret
                                        exact ⟨by first | rfl | (simp [errW_none, errW_some] <;> rfl) | (simp only [← hji18, ← hji19, ← hji58]; first | rfl | (simp [errW_none, errW_some] <;> rfl)) | (simp [*, errW_none, errW_some] <;> rfl), by repeat (first | (with_reducible first | exact HB.out | apply below_alloc | apply pw_below_drewN | apply below_drew1) | exact HB.out)⟩
                                      · rw [if_neg c68] at H
                                        have c68b0 : (t368 == 0) = false := beq_eq_false_iff_ne.mpr c68
                                        have c68b1 : (t368 != 0) = true := bne_iff_ne.mpr c68
                                        obtain rfl := Option.some.inj H
                                        try go_wp2
                                        have n0_ := Aside0.mk (Kd.V_drew HO_0.out)
                                        have n1_ := Aside0.mk (Kd.R_drew HO_9.out)
                                        have n2_ := Aside0.mk (Kd.R_drew HO_10.out)
                                        have n3_ := Aside0.mk (Kd.R_drew HO_81.out)
                                        have n4_ := Aside0.mk (below_drew1 HB.out)
                                        clear HO_0
                                        clear HO_9
                                        clear HO_10
                                        clear HO_81
                                        clear HB
                                        have HO_0 := n0_
                                        have HO_9 := n1_
                                        have HO_10 := n2_
                                        have HO_81 := n3_
                                        have HB := n4_
                                        clear n0_ n1_ n2_ n3_ n4_
                                        have q83 : ((ji58) : Int) ≤ ((t336.length : Int) : Int) := of_decide_eq_true (by first | (with_reducible assumption) | assumption)
                                        obtain ⟨i083, hi083, _, hsz83, _⟩ := info_parts info3
                                        have hroom83 : t336.length ≤ co34 := (Kd.R_reads' HO_10.out).2.1
                                        have hC83 : Kd.C (Kd.int .i64) _ Ao34 t336.length t336 := (Kd.R_reads' HO_10.out).2.2
                                        have q083 : (0 : Int) ≤ ((ji58) : Int) := of_decide_eq_true (by first | (with_reducible assumption) | assumption)
                                        have hcut83 := cut_from (P := Try.prog) 33 3 .i64 Try.underlying33 hi083 1 hsz83 Ao34 t336.length co34 (ji58) q083 q83
                                        have hr83 := Kd.C_drop (m := ((ji58) : Int).toNat) (c := co34) hC83 (by omega) hroom83
                                        obtain ⟨A83, hA83⟩ : ∃ A1, A1 = (if co34 = ((ji58) : Int).toNat then Ao34 else (Ao34 : Option Addr).map (·.add (((ji58) : Int).toNat * 1))) := ⟨_, rfl⟩
                                        obtain ⟨c83, hc83⟩ : ∃ c1, c1 = co34 - ((ji58) : Int).toNat := ⟨_, rfl⟩
                                        have hy83 : y353.length = t336.length - ((ji58) : Int).toNat := (by rw [Ny353.out, List.length_drop] <;> omega)
                                        rw [show (t336).drop ((ji58) : Int).toNat = y353 from Ny353.out.symm] at hr83
                                        replace hr83 : Kd.C (Kd.int .i64) _ A83 y353.length y353 := (by rw [hA83]; exact hr83)
                                        rw [← hy83, ← hA83, ← hc83] at hcut83
                                        have HR356 := Aside0.mk hr83
                                        have HC356 := Aside0.mk (show y353.length ≤ c83 from by rw [hy83, hc83]; exact Nat.sub_le_sub_right hroom83 _)
                                        clear hr83 hC83 hroom83 hi083 hsz83 hc83
                                        have KY83 := Aside0.mk hy83
                                        have KA83 := Aside0.mk hA83
                                        clear hy83 hA83
                                        have KL83 := Aside0.mk (show ((ji58) : Int).toNat ≤ t336.length from by omega)
                                        replace q83 := eq_true q83
                                        have q84 : ((ji58) : Int) ≤ ((t336.length : Int) : Int) := of_decide_eq_true (by first | (with_reducible assumption) | assumption)
                                        obtain ⟨i084, hi084, _, hsz84, _⟩ := info_parts info3
                                        have hroom84 : t336.length ≤ co34 := (Kd.R_reads' HO_10.out).2.1
                                        have hC84 : Kd.C (Kd.int .i64) _ Ao34 t336.length t336 := (Kd.R_reads' HO_10.out).2.2
                                        have hcut84 := cut_to (P := Try.prog) 33 3 .i64 Try.underlying33 hi084 Ao34 t336.length co34 (ji58) (of_decide_eq_true (by first | (with_reducible assumption) | assumption)) q84 hroom84
                                        have hr84 := Kd.C_take (m := ((ji58) : Int).toNat) hC84 (by omega)
                                        have hy84 : y360.length = ((ji58) : Int).toNat := (by rw [Ny360.out, List.length_take]; omega)
                                        rw [← Ny360.out] at hr84
                                        rw [← hy84] at hcut84
                                        have HR363 := Aside0.mk hr84
                                        have HC363 := Aside0.mk (show y360.length ≤ co34 from by omega)
                                        clear hr84 hC84 hroom84 hi084 hsz84
                                        have KY84 := Aside0.mk hy84
                                        clear hy84
                                        have KL84 := Aside0.mk (show ((ji58) : Int).toNat ≤ t336.length from by omega)
                                        replace q84 := eq_true q84
                                        refine start_ (n := 10) (S := fun w' => True) (ds := []) #[false, false, false, false, false, false, false, false, false, false] (by kernel_rfl) rfl rfl trivial (fun hHeld => ?_); refine with_tabW doorwardlaw06_RoomBack.tab21 doorwardlaw06_RoomBack.bits21 (fun HT_ HW_ => ?_)
                                        generalize wr.drew = w82 at HO_0 HO_9 HO_10 HO_81 HB HR356 HR363 hHeld ⊢
                                        refine pure_ (i := 1) (N := some 133) (v := ?_) (a' := ?_) #[false, true, false, false, false, false, false, false, false, false] rfl rfl (any_of HT_.out (by kernel_rfl)) (fun _ _ _ h => h) (Or.inl ⟨by rfl, ?_⟩) ?_ ?_
                                        rotate_left
                                        · intro w'
                                          go_simp
                                          with_reducible rfl
                                        rotate_left
                                        · simp only [Act.put, List.setIfInBounds_toArray, List.set_cons_zero, List.set_cons_succ, i64_w, i32_w]
                                          rfl
                                        refine pure_ (i := 2) (N := some 134) (v := ?_) (a' := ?_) #[false, true, true, false, false, false, false, false, false, false] rfl rfl (any_of HT_.out (by kernel_rfl)) (fun _ _ _ h => h) (Or.inl ⟨by rfl, ?_⟩) ?_ ?_
                                        rotate_left
                                        · intro w'
                                          go_simp
                                          with_reducible rfl
                                        rotate_left
                                        · simp only [Act.put, List.setIfInBounds_toArray, List.set_cons_zero, List.set_cons_succ, i64_w, i32_w]
                                          rfl
                                        refine pure_ (i := 3) (N := some 135) (v := ?_) (a' := ?_) #[false, true, true, true, false, false, false, false, false, false] rfl rfl (any_of HT_.out (by kernel_rfl)) (fun _ _ _ h => h) (Or.inl ⟨by rfl, ?_⟩) ?_ ?_
                                        rotate_left
                                        · intro w'
                                          go_simp
                                          with_reducible rfl
                                        rotate_left
                                        · simp only [Act.put, List.setIfInBounds_toArray, List.set_cons_zero, List.set_cons_succ, i64_w, i32_w]
                                          rfl
                                        refine pure_ (i := 5) (N := some 137) (v := ?_) (a' := ?_) #[false, true, true, true, false, true, false, false, false, false] rfl rfl (any_of HT_.out (by kernel_rfl)) (fun _ _ _ h => h) (Or.inl ⟨by rfl, ?_⟩) ?_ ?_
                                        rotate_left
                                        · intro w'
                                          go_simp
                                          with_reducible rfl
                                        rotate_left
                                        · simp only [Act.put, List.setIfInBounds_toArray, List.set_cons_zero, List.set_cons_succ, i64_w, i32_w]
                                          rfl
                                        refine pure_ (i := 6) (N := some 138) (v := ?_) (a' := ?_) #[false, true, true, true, false, true, true, false, false, false] rfl rfl (any_of HT_.out (by kernel_rfl)) (fun _ _ _ h => h) (Or.inl ⟨by rfl, ?_⟩) ?_ ?_
                                        rotate_left
                                        · intro w'
                                          go_simp
                                          with_reducible rfl
                                        rotate_left
                                        · simp only [Act.put, List.setIfInBounds_toArray, List.set_cons_zero, List.set_cons_succ, i64_w, i32_w]
                                          rfl
                                        refine pure_ (i := 7) (N := some 139) (v := ?_) (a' := ?_) #[false, true, true, true, false, true, true, true, false, false] rfl rfl (any_of HT_.out (by kernel_rfl)) (fun _ _ _ h => h) (Or.inl ⟨by rfl, ?_⟩) ?_ ?_
                                        rotate_left
                                        · intro w'
                                          go_simp
                                          with_reducible rfl
                                        rotate_left
                                        · simp only [Act.put, List.setIfInBounds_toArray, List.set_cons_zero, List.set_cons_succ, i64_w, i32_w]
                                          rfl
                                        refine one_ (i := 0) (N := some 132) #[true, true, true, true, false, true, true, true, false, false] rfl rfl (one_of HT_.out (by kernel_rfl)) (by decide) (fun K hK => ?_)
                                        refine Kd.R_lit_step (Kd.int .i64) _ 3 ?hg (N := 132) ?hd (xs := ([] : List Int)) (inner := []) (ok := fun _ => True) (okp := fun _ => True) ?hr ?hp (fun _ hk => hk) trivial (Below.refl _ _) (Nat.le_refl _) (by simp) ?_; (case hd => rfl); (case hg => rfl); (case hr => first | (go_simp; done) | (go_simp; rfl)); (case hp => exact (Reps.none _ _))
                                        intro v351 w85 ho86 hb hg_ hnew_
                                        clear hg_ hnew_
                                        (first | rw [← Ny350.out] at ho86 | (simp only [Int.reduceToNat] at ho86; rw [← Ny350.out] at ho86))
                                        have n0_ := Aside0.mk (Kd.V_elder' (by (with_reducible repeat (first | apply Kd.V_alloc | apply Kd.V_drewN | apply Kd.V_drew)); exact HO_0.out) (Kd.R_base ho86) hb)
                                        have n1_ := Aside0.mk (Kd.R_below (by (with_reducible repeat (first | apply Kd.R_alloc | apply Kd.R_drewN | apply Kd.R_drew)); exact HO_9.out) hb)
                                        have n2_ := Aside0.mk (Kd.R_elder' (by (with_reducible repeat (first | apply Kd.R_alloc | apply Kd.R_drewN | apply Kd.R_drew)); exact HO_10.out) (Kd.R_base ho86) hb)
                                        have n3_ := Aside0.mk (Kd.R_elder' (by (with_reducible repeat (first | apply Kd.R_alloc | apply Kd.R_drewN | apply Kd.R_drew)); exact HO_81.out) (Kd.R_base ho86) hb)
                                        have n4_ := Aside0.mk (Kd.R_lower (Kd.R_new' (Kd.R_new' ho86 (Kd.R_lt (by (with_reducible repeat (first | apply Kd.R_alloc | apply Kd.R_drewN | apply Kd.R_drew)); exact HO_10.out))) (Kd.R_lt (by (with_reducible repeat (first | apply Kd.R_alloc | apply Kd.R_drewN | apply Kd.R_drew)); exact HO_81.out))) (below_size (by repeat (first | (with_reducible first | exact HB.out | apply below_alloc | apply pw_below_drewN | apply below_drew1) | exact HB.out))))
                                        have n5_ := Aside0.mk (Kd.C_below (by repeat (first | (with_reducible exact HR356.out) | (with_reducible refine Kd.C_alloc ?_ _) | (with_reducible refine Kd.C_drewN ?_ _) | (with_reducible refine Kd.C_drew ?_) | exact HR356.out)) hb)
                                        have n6_ := Aside0.mk (Kd.C_below (by repeat (first | (with_reducible exact HR363.out) | (with_reducible refine Kd.C_alloc ?_ _) | (with_reducible refine Kd.C_drewN ?_ _) | (with_reducible refine Kd.C_drew ?_) | exact HR363.out)) hb)
                                        have n7_ := Aside0.mk (below_step (by repeat (first | (with_reducible first | exact HB.out | apply below_alloc | apply pw_below_drewN | apply below_drew1) | exact HB.out)) hb)
                                        clear HO_0
                                        clear HO_9
                                        clear HO_10
                                        clear HO_81
                                        clear HR356
                                        clear HR363
                                        clear HB
                                        have HO_0 := n0_
                                        have HO_9 := n1_
                                        have HO_10 := n2_
                                        have HO_81 := n3_
                                        have HO352 := n4_
                                        have HR356 := n5_
                                        have HR363 := n6_
                                        have HB := n7_
                                        clear n0_ n1_ n2_ n3_ n4_ n5_ n6_ n7_
                                        clear hb ho86
                                        refine hK.out _ _ trivial (fun hHeld => ?_)
                                        clear hK K
                                        refine norm_ (a' := ?_) ?_ ?_
                                        rotate_left
                                        · show Act.put _ (some 132) _ = _
                                          simp only [Act.put, List.setIfInBounds_toArray, List.set_cons_zero, List.set_cons_succ, i64_w, i32_w]
                                          rfl
                                        refine one_ (i := 4) (N := some 136) #[true, true, true, true, true, true, true, true, false, false] rfl rfl (one_of HT_.out (by kernel_rfl)) (by decide) (fun K hK => ?_)
                                        refine Kd.R_append_rows_step (Kd.int .i64) (w0 := w) w.heap.size (by rfl) (.tmp 132) (.tmp 135) 33 3 (.int .i64 0) 8 rfl Try.underlying33 info3 rfl (by decide) (by omega) v351 y350 y353 _ _ _ (fun k_ => some k_ ≠ (.slice Ao34 t336.length co34 : Value).ownBlock ∧ some k_ ≠ (.slice Ao34 t336.length co34 : Value).ownBlock) (fun _ => False) rfl rfl ?aO ?aR (fun _ _ h => h) (fun _ h => h.elim) ?aF ?aB ?aS ?aL ?_
                                        (case aR => repeat (first | exact (by repeat (first | (with_reducible exact HR356.out) | (with_reducible refine Kd.C_alloc ?_ _) | (with_reducible refine Kd.C_drewN ?_ _) | (with_reducible refine Kd.C_drew ?_) | exact HR356.out)) | (with_reducible refine Kd.C_alloc ?_ _) | (with_reducible refine Kd.C_drewN ?_ _) | (with_reducible refine Kd.C_drew ?_)))
                                        (case aB => exact (by repeat (first | (with_reducible first | exact HB.out | apply below_alloc | apply pw_below_drewN | apply below_drew1) | exact HB.out)))
                                        (case aF => exact (fun k_ hk => ⟨Kd.fresh' (Kd.R_lt (by (with_reducible repeat (first | apply Kd.R_alloc | apply Kd.R_drewN | apply Kd.R_drew)); exact HO_10.out)) k_ hk, Kd.fresh' (Kd.R_lt (by (with_reducible repeat (first | apply Kd.R_alloc | apply Kd.R_drewN | apply Kd.R_drew)); exact HO_81.out)) k_ hk⟩))
                                        (case aO => exact (by (with_reducible repeat (first | apply Kd.R_alloc | apply Kd.R_drewN | apply Kd.R_drew)); exact Kd.R_mono HO352.out (fun _ hk => ⟨hk.1.2, hk.2⟩)))
                                        (case aS => exact (below_size (by repeat (first | (with_reducible first | exact HB.out | apply below_alloc | apply pw_below_drewN | apply below_drew1) | exact HB.out))))
                                        (case aL => have := LMc61.out; omega)
                                        intro v358 w87 ho hb hg hat
                                        rw [← Ny357.out] at ho
                                        have n0_ := Aside0.mk (Kd.V_afterv (ok := (fun k_ => some k_ ≠ (v338 : Value).ownBlock ∧ some k_ ≠ (.slice Ao34 t336.length co34 : Value).ownBlock ∧ some k_ ≠ (.slice Ao34 t336.length co34 : Value).ownBlock)) (by (with_reducible repeat (first | apply Kd.V_alloc | apply Kd.V_drewN | apply Kd.V_drew)); exact HO_0.out) hg hat)
                                        have n1_ := Aside0.mk (Kd.R_over' (by (with_reducible repeat (first | apply Kd.R_alloc | apply Kd.R_drewN | apply Kd.R_drew)); exact HO_9.out) (Kd.R_typed (by (with_reducible repeat (first | apply Kd.R_alloc | apply Kd.R_drewN | apply Kd.R_drew)); exact HO352.out)) (by decide) hg)
                                        have n2_ := Aside0.mk (Kd.R_after (ok := (fun _ => True)) (by (with_reducible repeat (first | apply Kd.R_alloc | apply Kd.R_drewN | apply Kd.R_drew)); exact HO_10.out) hg hat)
                                        have n3_ := Aside0.mk (Kd.R_after (ok := (fun _ => True)) (by (with_reducible repeat (first | apply Kd.R_alloc | apply Kd.R_drewN | apply Kd.R_drew)); exact HO_81.out) hg hat)
                                        have n4_ := Aside0.mk (hb)
                                        have n5_ := Aside0.mk ((show Kd.C (Kd.int .i64) w87 A83 y353.length y353 from by rw [Ny353.out, KA83.out]; exact Kd.C_drop (m := ((ji58) : Int).toNat) (c := co34) ((Kd.R_reads' (Kd.R_after (ok := (fun _ => True)) (by (with_reducible repeat (first | apply Kd.R_alloc | apply Kd.R_drewN | apply Kd.R_drew)); exact HO_10.out) hg hat)).2.2) KL83.out ((Kd.R_reads' (Kd.R_after (ok := (fun _ => True)) (by (with_reducible repeat (first | apply Kd.R_alloc | apply Kd.R_drewN | apply Kd.R_drew)); exact HO_10.out) hg hat)).2.1)))
                                        have n6_ := Aside0.mk ((show Kd.C (Kd.int .i64) w87 Ao34 y360.length y360 from by rw [Ny360.out]; exact Kd.C_take (m := ((ji58) : Int).toNat) ((Kd.R_reads' (Kd.R_after (ok := (fun _ => True)) (by (with_reducible repeat (first | apply Kd.R_alloc | apply Kd.R_drewN | apply Kd.R_drew)); exact HO_10.out) hg hat)).2.2) KL84.out))
                                        have n7_ := Aside0.mk (ho)
                                        clear HO_0
                                        clear HO_9
                                        clear HO_10
                                        clear HO_81
                                        clear HB
                                        clear HR356
                                        clear HR363
                                        clear HO352
                                        have HO_0 := n0_
                                        have HO_9 := n1_
                                        have HO_10 := n2_
                                        have HO_81 := n3_
                                        have HB := n4_
                                        have HR356 := n5_
                                        have HR363 := n6_
                                        have HO359 := n7_
                                        clear n0_ n1_ n2_ n3_ n4_ n5_ n6_ n7_
                                        clear ho hb hg hat
                                        refine hK.out _ _ trivial (fun hHeld => ?_)
                                        clear hK K
                                        refine norm_ (a' := ?_) ?_ ?_
                                        rotate_left
                                        · show Act.put _ (some 136) _ = _
                                          simp only [Act.put, List.setIfInBounds_toArray, List.set_cons_zero, List.set_cons_succ, i64_w, i32_w]
                                          rfl
                                        refine one_ (i := 8) (N := some 140) #[true, true, true, true, true, true, true, true, true, false] rfl rfl (one_of HT_.out (by kernel_rfl)) (by decide) (fun K hK => ?_)
                                        refine Kd.R_append_rows_step (Kd.int .i64) (w0 := w) w.heap.size (by rfl) (.tmp 136) (.tmp 139) 33 3 (.int .i64 0) 8 rfl Try.underlying33 info3 rfl (by decide) (by omega) v358 y357 y360 _ _ _ (fun k_ => some k_ ≠ (.slice Ao34 t336.length co34 : Value).ownBlock ∧ some k_ ≠ (.slice Ao34 t336.length co34 : Value).ownBlock) (fun _ => False) rfl rfl ?aO ?aR (fun _ _ h => h) (fun _ h => h.elim) ?aF ?aB ?aS ?aL ?_
                                        (case aR => repeat (first | exact (by repeat (first | (with_reducible exact HR363.out) | (with_reducible refine Kd.C_alloc ?_ _) | (with_reducible refine Kd.C_drewN ?_ _) | (with_reducible refine Kd.C_drew ?_) | exact HR363.out)) | (with_reducible refine Kd.C_alloc ?_ _) | (with_reducible refine Kd.C_drewN ?_ _) | (with_reducible refine Kd.C_drew ?_)))
                                        (case aB => exact (by repeat (first | (with_reducible first | exact HB.out | apply below_alloc | apply pw_below_drewN | apply below_drew1) | exact HB.out)))
                                        (case aF => exact (fun k_ hk => ⟨Kd.fresh' (Kd.R_lt (by (with_reducible repeat (first | apply Kd.R_alloc | apply Kd.R_drewN | apply Kd.R_drew)); exact HO_10.out)) k_ hk, Kd.fresh' (Kd.R_lt (by (with_reducible repeat (first | apply Kd.R_alloc | apply Kd.R_drewN | apply Kd.R_drew)); exact HO_81.out)) k_ hk⟩))
                                        (case aO => exact (by (with_reducible repeat (first | apply Kd.R_alloc | apply Kd.R_drewN | apply Kd.R_drew)); exact HO359.out))
                                        (case aS => exact (below_size (by repeat (first | (with_reducible first | exact HB.out | apply below_alloc | apply pw_below_drewN | apply below_drew1) | exact HB.out))))
                                        (case aL => have := LMc64.out; omega)
                                        intro v365 w88 ho hb hg hat
                                        rw [← Ny364.out] at ho
                                        have n0_ := Aside0.mk (Kd.V_afterv (ok := (fun k_ => some k_ ≠ (v338 : Value).ownBlock ∧ some k_ ≠ (.slice Ao34 t336.length co34 : Value).ownBlock ∧ some k_ ≠ (.slice Ao34 t336.length co34 : Value).ownBlock)) (by (with_reducible repeat (first | apply Kd.V_alloc | apply Kd.V_drewN | apply Kd.V_drew)); exact HO_0.out) hg hat)
                                        have n1_ := Aside0.mk (Kd.R_over' (by (with_reducible repeat (first | apply Kd.R_alloc | apply Kd.R_drewN | apply Kd.R_drew)); exact HO_9.out) (Kd.R_typed (by (with_reducible repeat (first | apply Kd.R_alloc | apply Kd.R_drewN | apply Kd.R_drew)); exact HO359.out)) (by decide) hg)
                                        have n2_ := Aside0.mk (Kd.R_after (ok := (fun _ => True)) (by (with_reducible repeat (first | apply Kd.R_alloc | apply Kd.R_drewN | apply Kd.R_drew)); exact HO_10.out) hg hat)
                                        have n3_ := Aside0.mk (Kd.R_after (ok := (fun _ => True)) (by (with_reducible repeat (first | apply Kd.R_alloc | apply Kd.R_drewN | apply Kd.R_drew)); exact HO_81.out) hg hat)
                                        have n4_ := Aside0.mk (hb)
                                        have n5_ := Aside0.mk ((show Kd.C (Kd.int .i64) w88 A83 y353.length y353 from by rw [Ny353.out, KA83.out]; exact Kd.C_drop (m := ((ji58) : Int).toNat) (c := co34) ((Kd.R_reads' (Kd.R_after (ok := (fun _ => True)) (by (with_reducible repeat (first | apply Kd.R_alloc | apply Kd.R_drewN | apply Kd.R_drew)); exact HO_10.out) hg hat)).2.2) KL83.out ((Kd.R_reads' (Kd.R_after (ok := (fun _ => True)) (by (with_reducible repeat (first | apply Kd.R_alloc | apply Kd.R_drewN | apply Kd.R_drew)); exact HO_10.out) hg hat)).2.1)))
                                        have n6_ := Aside0.mk ((show Kd.C (Kd.int .i64) w88 Ao34 y360.length y360 from by rw [Ny360.out]; exact Kd.C_take (m := ((ji58) : Int).toNat) ((Kd.R_reads' (Kd.R_after (ok := (fun _ => True)) (by (with_reducible repeat (first | apply Kd.R_alloc | apply Kd.R_drewN | apply Kd.R_drew)); exact HO_10.out) hg hat)).2.2) KL84.out))
                                        have n7_ := Aside0.mk (ho)
                                        clear HO_0
                                        clear HO_9
                                        clear HO_10
                                        clear HO_81
                                        clear HB
                                        clear HR356
                                        clear HR363
                                        clear HO359
                                        have HO_0 := n0_
                                        have HO_9 := n1_
                                        have HO_10 := n2_
                                        have HO_81 := n3_
                                        have HB := n4_
                                        have HR356 := n5_
                                        have HR363 := n6_
                                        have HO366 := n7_
                                        clear n0_ n1_ n2_ n3_ n4_ n5_ n6_ n7_
                                        clear ho hb hg hat
                                        refine hK.out _ _ trivial (fun hHeld => ?_)
                                        clear hK K
                                        refine norm_ (a' := ?_) ?_ ?_
                                        rotate_left
                                        · show Act.put _ (some 140) _ = _
                                          simp only [Act.put, List.setIfInBounds_toArray, List.set_cons_zero, List.set_cons_succ, i64_w, i32_w]
                                          rfl
                                        refine pure_ (i := 9) (N := some 10) (v := ?_) (a' := ?_) #[true, true, true, true, true, true, true, true, true, true] rfl rfl (any_of HT_.out (by kernel_rfl)) (fun _ _ _ h => h) (Or.inl ⟨by rfl, ?_⟩) ?_ ?_
                                        rotate_left
                                        · intro w'
                                          go_simp
                                          with_reducible rfl
                                        rotate_left
                                        · simp only [Act.put, List.setIfInBounds_toArray, List.set_cons_zero, List.set_cons_succ, i64_w, i32_w]
                                          rfl
                                        refine done_ (done_of HT_.out (by kernel_rfl)) ?_
                                        obtain ⟨Ao89, co89, eo89⟩ := Kd.R_slice HO_9.out
                                        subst eo89
                                        obtain ⟨Ao90, co90, eo90⟩ := Kd.R_slice HO366.out
                                        subst eo90
                                        try go_wp2_with (first | ((with_reducible refine gate_callee (f := 20) rfl ?_); refine goesL_ (some 144) rfl rfl Try.func20 (by kernel_rfl) rfl #[.slice Ao89 t335.length co89, .slice Ao90 y364.length co90] rfl (by (try simp only [List.map_toArray, List.map_cons, List.map_nil]); first | done | rfl | (simp only [List.length_drop, List.length_take]; rfl)) ?_; (with_reducible refine (room_Give.calls k3 _ _ t335 _ _ y364 t367 t368 _ ?side1 ?side2 ?side3 ?side4 A65.out).mono ?_); (case side1 => repeat (first | exact (Kd.R_reads' HO_9.out).2.2 | (with_reducible refine Kd.C_alloc ?_ _) | (with_reducible refine Kd.C_drewN ?_ _) | (with_reducible refine Kd.C_drew ?_))); (case side2 => exact (Kd.R_reads' HO_9.out).2.1); (case side3 => repeat (first | exact (Kd.R_reads' HO366.out).2.2 | (with_reducible refine Kd.C_alloc ?_ _) | (with_reducible refine Kd.C_drewN ?_ _) | (with_reducible refine Kd.C_drew ?_))); (case side4 => exact (Kd.R_reads' HO366.out).2.1); rintro e w91 ⟨v369, rfl, ho0, hb⟩; refine ⟨_, rfl, ?_⟩; have n0_ := Aside0.mk (Kd.V_elder' (by (with_reducible repeat (first | apply Kd.V_alloc | apply Kd.V_drewN | apply Kd.V_drew)); exact HO_0.out) (Kd.R_base ho0) hb); have n1_ := Aside0.mk (Kd.R_elder' (by (with_reducible repeat (first | apply Kd.R_alloc | apply Kd.R_drewN | apply Kd.R_drew)); exact HO_9.out) (Kd.R_base ho0) hb); have n2_ := Aside0.mk (Kd.R_below (by (with_reducible repeat (first | apply Kd.R_alloc | apply Kd.R_drewN | apply Kd.R_drew)); exact HO_10.out) hb); have n3_ := Aside0.mk (Kd.R_below (by (with_reducible repeat (first | apply Kd.R_alloc | apply Kd.R_drewN | apply Kd.R_drew)); exact HO_81.out) hb); have n4_ := Aside0.mk (Kd.R_below (by (with_reducible repeat (first | apply Kd.R_alloc | apply Kd.R_drewN | apply Kd.R_drew)); exact HO366.out) hb); have n5_ := Aside0.mk (Kd.R_lower (Kd.R_new' ho0 (Kd.R_lt (by (with_reducible repeat (first | apply Kd.R_alloc | apply Kd.R_drewN | apply Kd.R_drew)); exact HO_9.out))) (below_size (by repeat (first | (with_reducible first | exact HB.out | apply below_alloc | apply pw_below_drewN | apply below_drew1) | exact HB.out)))); have n6_ := Aside0.mk (Kd.C_below (by repeat (first | (with_reducible exact HR356.out) | (with_reducible refine Kd.C_alloc ?_ _) | (with_reducible refine Kd.C_drewN ?_ _) | (with_reducible refine Kd.C_drew ?_) | exact HR356.out)) hb); have n7_ := Aside0.mk (Kd.C_below (by repeat (first | (with_reducible exact HR363.out) | (with_reducible refine Kd.C_alloc ?_ _) | (with_reducible refine Kd.C_drewN ?_ _) | (with_reducible refine Kd.C_drew ?_) | exact HR363.out)) hb); have n8_ := Aside0.mk (below_step (by repeat (first | (with_reducible first | exact HB.out | apply below_alloc | apply pw_below_drewN | apply below_drew1) | exact HB.out)) hb); clear HO_0; clear HO_9; clear HO_10; clear HO_81; clear HO366; clear HR356; clear HR363; clear HB; have HO_0 := n0_; have HO_9 := n1_; have HO_10 := n2_; have HO_81 := n3_; have HO366 := n4_; have HO370 := n5_; have HR356 := n6_; have HR363 := n7_; have HB := n8_; clear n0_ n1_ n2_ n3_ n4_ n5_ n6_ n7_ n8_; (try clear hb); (try clear hb2); (try clear hk); (try clear hi); (try clear ho0)) | ((with_reducible refine gate_callee (f := 12) rfl ?_); refine goesL_ (some 147) rfl rfl Try.func12 (by kernel_rfl) rfl #[] rfl (by (try simp only [List.map_toArray, List.map_cons, List.map_nil]); first | done | rfl | (simp only [List.length_drop, List.length_take]; rfl)) ?_; (with_reducible refine (doorwardlaw06_alive.calls k3  true _ A66.out).mono ?_); rintro e w92 ⟨rfl, hb⟩; refine ⟨_, rfl, ?_⟩; have n0_ := Aside0.mk (Kd.V_below (by (with_reducible repeat (first | apply Kd.V_alloc | apply Kd.V_drewN | apply Kd.V_drew)); exact HO_0.out) hb); have n1_ := Aside0.mk (Kd.R_below (by (with_reducible repeat (first | apply Kd.R_alloc | apply Kd.R_drewN | apply Kd.R_drew)); exact HO_9.out) hb); have n2_ := Aside0.mk (Kd.R_below (by (with_reducible repeat (first | apply Kd.R_alloc | apply Kd.R_drewN | apply Kd.R_drew)); exact HO_10.out) hb); have n3_ := Aside0.mk (Kd.R_below (by (with_reducible repeat (first | apply Kd.R_alloc | apply Kd.R_drewN | apply Kd.R_drew)); exact HO_81.out) hb); have n4_ := Aside0.mk (Kd.R_below (by (with_reducible repeat (first | apply Kd.R_alloc | apply Kd.R_drewN | apply Kd.R_drew)); exact HO366.out) hb); have n5_ := Aside0.mk (Kd.R_below (by (with_reducible repeat (first | apply Kd.R_alloc | apply Kd.R_drewN | apply Kd.R_drew)); exact HO370.out) hb); have n6_ := Aside0.mk (Kd.C_below (by repeat (first | (with_reducible exact HR356.out) | (with_reducible refine Kd.C_alloc ?_ _) | (with_reducible refine Kd.C_drewN ?_ _) | (with_reducible refine Kd.C_drew ?_) | exact HR356.out)) hb); have n7_ := Aside0.mk (Kd.C_below (by repeat (first | (with_reducible exact HR363.out) | (with_reducible refine Kd.C_alloc ?_ _) | (with_reducible refine Kd.C_drewN ?_ _) | (with_reducible refine Kd.C_drew ?_) | exact HR363.out)) hb); have n8_ := Aside0.mk (below_step (by repeat (first | (with_reducible first | exact HB.out | apply below_alloc | apply pw_below_drewN | apply below_drew1) | exact HB.out)) hb); clear HO_0; clear HO_9; clear HO_10; clear HO_81; clear HO366; clear HO370; clear HR356; clear HR363; clear HB; have HO_0 := n0_; have HO_9 := n1_; have HO_10 := n2_; have HO_81 := n3_; have HO366 := n4_; have HO370 := n5_; have HR356 := n6_; have HR363 := n7_; have HB := n8_; clear n0_ n1_ n2_ n3_ n4_ n5_ n6_ n7_ n8_; (try clear hb); (try clear hb2); (try clear hk); (try clear hi)))
                                        go_ret
                                        exact ⟨by first | rfl | (simp [errW_none, errW_some] <;> rfl) | (simp only [← hji18, ← hji19, ← hji58]; first | rfl | (simp [errW_none, errW_some] <;> rfl)) | (simp [*, errW_none, errW_some] <;> rfl), by repeat (first | (with_reducible first | exact HB.out | apply below_alloc | apply pw_below_drewN | apply below_drew1) | exact HB.out)⟩
                                    · replace c67 := Bool.eq_false_iff.mpr c67
                                      subst c67
                                      have H1 : (some false) = some r := by rw [if_neg (show ¬ (false = true) by decide)] at H; exact H
                                      clear H
                                      have H := H1
                                      clear H1
                                      obtain rfl := Option.some.inj H
                                      try go_wp2
                                      have n0_ := Aside0.mk (Kd.V_drew HO_0.out)
                                      have n1_ := Aside0.mk (Kd.R_drew HO_9.out)
                                      have n2_ := Aside0.mk (Kd.R_drew HO_10.out)
                                      have n3_ := Aside0.mk (Kd.R_drew HO_81.out)
                                      have n4_ := Aside0.mk (below_drew1 HB.out)
                                      clear HO_0
                                      clear HO_9
                                      clear HO_10
                                      clear HO_81
                                      clear HB
                                      have HO_0 := n0_
                                      have HO_9 := n1_
                                      have HO_10 := n2_
                                      have HO_81 := n3_
                                      have HB := n4_
                                      clear n0_ n1_ n2_ n3_ n4_
                                      have q94 : ((ji58) : Int) ≤ ((t336.length : Int) : Int) := of_decide_eq_true (by first | (with_reducible assumption) | assumption)
                                      obtain ⟨i094, hi094, _, hsz94, _⟩ := info_parts info3
                                      have hroom94 : t336.length ≤ co34 := (Kd.R_reads' HO_10.out).2.1
                                      have hC94 : Kd.C (Kd.int .i64) _ Ao34 t336.length t336 := (Kd.R_reads' HO_10.out).2.2
                                      have q094 : (0 : Int) ≤ ((ji58) : Int) := of_decide_eq_true (by first | (with_reducible assumption) | assumption)
                                      have hcut94 := cut_from (P := Try.prog) 33 3 .i64 Try.underlying33 hi094 1 hsz94 Ao34 t336.length co34 (ji58) q094 q94
                                      have hr94 := Kd.C_drop (m := ((ji58) : Int).toNat) (c := co34) hC94 (by omega) hroom94
                                      obtain ⟨A94, hA94⟩ : ∃ A1, A1 = (if co34 = ((ji58) : Int).toNat then Ao34 else (Ao34 : Option Addr).map (·.add (((ji58) : Int).toNat * 1))) := ⟨_, rfl⟩
                                      obtain ⟨c94, hc94⟩ : ∃ c1, c1 = co34 - ((ji58) : Int).toNat := ⟨_, rfl⟩
                                      have hy94 : y353.length = t336.length - ((ji58) : Int).toNat := (by rw [Ny353.out, List.length_drop] <;> omega)
                                      rw [show (t336).drop ((ji58) : Int).toNat = y353 from Ny353.out.symm] at hr94
                                      replace hr94 : Kd.C (Kd.int .i64) _ A94 y353.length y353 := (by rw [hA94]; exact hr94)
                                      rw [← hy94, ← hA94, ← hc94] at hcut94
                                      have HR356 := Aside0.mk hr94
                                      have HC356 := Aside0.mk (show y353.length ≤ c94 from by rw [hy94, hc94]; exact Nat.sub_le_sub_right hroom94 _)
                                      clear hr94 hC94 hroom94 hi094 hsz94 hc94
                                      have KY94 := Aside0.mk hy94
                                      have KA94 := Aside0.mk hA94
                                      clear hy94 hA94
                                      have KL94 := Aside0.mk (show ((ji58) : Int).toNat ≤ t336.length from by omega)
                                      replace q94 := eq_true q94
                                      have q95 : ((ji58) : Int) ≤ ((t336.length : Int) : Int) := of_decide_eq_true (by first | (with_reducible assumption) | assumption)
                                      obtain ⟨i095, hi095, _, hsz95, _⟩ := info_parts info3
                                      have hroom95 : t336.length ≤ co34 := (Kd.R_reads' HO_10.out).2.1
                                      have hC95 : Kd.C (Kd.int .i64) _ Ao34 t336.length t336 := (Kd.R_reads' HO_10.out).2.2
                                      have hcut95 := cut_to (P := Try.prog) 33 3 .i64 Try.underlying33 hi095 Ao34 t336.length co34 (ji58) (of_decide_eq_true (by first | (with_reducible assumption) | assumption)) q95 hroom95
                                      have hr95 := Kd.C_take (m := ((ji58) : Int).toNat) hC95 (by omega)
                                      have hy95 : y360.length = ((ji58) : Int).toNat := (by rw [Ny360.out, List.length_take]; omega)
                                      rw [← Ny360.out] at hr95
                                      rw [← hy95] at hcut95
                                      have HR363 := Aside0.mk hr95
                                      have HC363 := Aside0.mk (show y360.length ≤ co34 from by omega)
                                      clear hr95 hC95 hroom95 hi095 hsz95
                                      have KY95 := Aside0.mk hy95
                                      clear hy95
                                      have KL95 := Aside0.mk (show ((ji58) : Int).toNat ≤ t336.length from by omega)
                                      replace q95 := eq_true q95
                                      refine start_ (n := 10) (S := fun w' => True) (ds := []) #[false, false, false, false, false, false, false, false, false, false] (by kernel_rfl) rfl rfl trivial (fun hHeld => ?_); refine with_tabW doorwardlaw06_RoomBack.tab21 doorwardlaw06_RoomBack.bits21 (fun HT_ HW_ => ?_)
                                      generalize wr.drew = w93 at HO_0 HO_9 HO_10 HO_81 HB HR356 HR363 hHeld ⊢
                                      refine pure_ (i := 1) (N := some 133) (v := ?_) (a' := ?_) #[false, true, false, false, false, false, false, false, false, false] rfl rfl (any_of HT_.out (by kernel_rfl)) (fun _ _ _ h => h) (Or.inl ⟨by rfl, ?_⟩) ?_ ?_
                                      rotate_left
                                      · intro w'
                                        go_simp
                                        with_reducible rfl
                                      rotate_left
                                      · simp only [Act.put, List.setIfInBounds_toArray, List.set_cons_zero, List.set_cons_succ, i64_w, i32_w]
                                        rfl
                                      refine pure_ (i := 2) (N := some 134) (v := ?_) (a' := ?_) #[false, true, true, false, false, false, false, false, false, false] rfl rfl (any_of HT_.out (by kernel_rfl)) (fun _ _ _ h => h) (Or.inl ⟨by rfl, ?_⟩) ?_ ?_
                                      rotate_left
                                      · intro w'
                                        go_simp
                                        with_reducible rfl
                                      rotate_left
                                      · simp only [Act.put, List.setIfInBounds_toArray, List.set_cons_zero, List.set_cons_succ, i64_w, i32_w]
                                        rfl
                                      refine pure_ (i := 3) (N := some 135) (v := ?_) (a' := ?_) #[false, true, true, true, false, false, false, false, false, false] rfl rfl (any_of HT_.out (by kernel_rfl)) (fun _ _ _ h => h) (Or.inl ⟨by rfl, ?_⟩) ?_ ?_
                                      rotate_left
                                      · intro w'
                                        go_simp
                                        with_reducible rfl
                                      rotate_left
                                      · simp only [Act.put, List.setIfInBounds_toArray, List.set_cons_zero, List.set_cons_succ, i64_w, i32_w]
                                        rfl
                                      refine pure_ (i := 5) (N := some 137) (v := ?_) (a' := ?_) #[false, true, true, true, false, true, false, false, false, false] rfl rfl (any_of HT_.out (by kernel_rfl)) (fun _ _ _ h => h) (Or.inl ⟨by rfl, ?_⟩) ?_ ?_
                                      rotate_left
                                      · intro w'
                                        go_simp
                                        with_reducible rfl
                                      rotate_left
                                      · simp only [Act.put, List.setIfInBounds_toArray, List.set_cons_zero, List.set_cons_succ, i64_w, i32_w]
                                        rfl
                                      refine pure_ (i := 6) (N := some 138) (v := ?_) (a' := ?_) #[false, true, true, true, false, true, true, false, false, false] rfl rfl (any_of HT_.out (by kernel_rfl)) (fun _ _ _ h => h) (Or.inl ⟨by rfl, ?_⟩) ?_ ?_
                                      rotate_left
                                      · intro w'
                                        go_simp
                                        with_reducible rfl
                                      rotate_left
                                      · simp only [Act.put, List.setIfInBounds_toArray, List.set_cons_zero, List.set_cons_succ, i64_w, i32_w]
                                        rfl
                                      refine pure_ (i := 7) (N := some 139) (v := ?_) (a' := ?_) #[false, true, true, true, false, true, true, true, false, false] rfl rfl (any_of HT_.out (by kernel_rfl)) (fun _ _ _ h => h) (Or.inl ⟨by rfl, ?_⟩) ?_ ?_
                                      rotate_left
                                      · intro w'
                                        go_simp
                                        with_reducible rfl
                                      rotate_left
                                      · simp only [Act.put, List.setIfInBounds_toArray, List.set_cons_zero, List.set_cons_succ, i64_w, i32_w]
                                        rfl
                                      refine one_ (i := 0) (N := some 132) #[true, true, true, true, false, true, true, true, false, false] rfl rfl (one_of HT_.out (by kernel_rfl)) (by decide) (fun K hK => ?_)
                                      refine Kd.R_lit_step (Kd.int .i64) _ 3 ?hg (N := 132) ?hd (xs := ([] : List Int)) (inner := []) (ok := fun _ => True) (okp := fun _ => True) ?hr ?hp (fun _ hk => hk) trivial (Below.refl _ _) (Nat.le_refl _) (by simp) ?_; (case hd => rfl); (case hg => rfl); (case hr => first | (go_simp; done) | (go_simp; rfl)); (case hp => exact (Reps.none _ _))
                                      intro v351 w96 ho97 hb hg_ hnew_
                                      clear hg_ hnew_
                                      (first | rw [← Ny350.out] at ho97 | (simp only [Int.reduceToNat] at ho97; rw [← Ny350.out] at ho97))
                                      have n0_ := Aside0.mk (Kd.V_elder' (by (with_reducible repeat (first | apply Kd.V_alloc | apply Kd.V_drewN | apply Kd.V_drew)); exact HO_0.out) (Kd.R_base ho97) hb)
                                      have n1_ := Aside0.mk (Kd.R_below (by (with_reducible repeat (first | apply Kd.R_alloc | apply Kd.R_drewN | apply Kd.R_drew)); exact HO_9.out) hb)
                                      have n2_ := Aside0.mk (Kd.R_elder' (by (with_reducible repeat (first | apply Kd.R_alloc | apply Kd.R_drewN | apply Kd.R_drew)); exact HO_10.out) (Kd.R_base ho97) hb)
                                      have n3_ := Aside0.mk (Kd.R_elder' (by (with_reducible repeat (first | apply Kd.R_alloc | apply Kd.R_drewN | apply Kd.R_drew)); exact HO_81.out) (Kd.R_base ho97) hb)
                                      have n4_ := Aside0.mk (Kd.R_lower (Kd.R_new' (Kd.R_new' ho97 (Kd.R_lt (by (with_reducible repeat (first | apply Kd.R_alloc | apply Kd.R_drewN | apply Kd.R_drew)); exact HO_10.out))) (Kd.R_lt (by (with_reducible repeat (first | apply Kd.R_alloc | apply Kd.R_drewN | apply Kd.R_drew)); exact HO_81.out))) (below_size (by repeat (first | (with_reducible first | exact HB.out | apply below_alloc | apply pw_below_drewN | apply below_drew1) | exact HB.out))))
                                      have n5_ := Aside0.mk (Kd.C_below (by repeat (first | (with_reducible exact HR356.out) | (with_reducible refine Kd.C_alloc ?_ _) | (with_reducible refine Kd.C_drewN ?_ _) | (with_reducible refine Kd.C_drew ?_) | exact HR356.out)) hb)
                                      have n6_ := Aside0.mk (Kd.C_below (by repeat (first | (with_reducible exact HR363.out) | (with_reducible refine Kd.C_alloc ?_ _) | (with_reducible refine Kd.C_drewN ?_ _) | (with_reducible refine Kd.C_drew ?_) | exact HR363.out)) hb)
                                      have n7_ := Aside0.mk (below_step (by repeat (first | (with_reducible first | exact HB.out | apply below_alloc | apply pw_below_drewN | apply below_drew1) | exact HB.out)) hb)
                                      clear HO_0
                                      clear HO_9
                                      clear HO_10
                                      clear HO_81
                                      clear HR356
                                      clear HR363
                                      clear HB
                                      have HO_0 := n0_
                                      have HO_9 := n1_
                                      have HO_10 := n2_
                                      have HO_81 := n3_
                                      have HO352 := n4_
                                      have HR356 := n5_
                                      have HR363 := n6_
                                      have HB := n7_
                                      clear n0_ n1_ n2_ n3_ n4_ n5_ n6_ n7_
                                      clear hb ho97
                                      refine hK.out _ _ trivial (fun hHeld => ?_)
                                      clear hK K
                                      refine norm_ (a' := ?_) ?_ ?_
                                      rotate_left
                                      · show Act.put _ (some 132) _ = _
                                        simp only [Act.put, List.setIfInBounds_toArray, List.set_cons_zero, List.set_cons_succ, i64_w, i32_w]
                                        rfl
                                      refine one_ (i := 4) (N := some 136) #[true, true, true, true, true, true, true, true, false, false] rfl rfl (one_of HT_.out (by kernel_rfl)) (by decide) (fun K hK => ?_)
                                      refine Kd.R_append_rows_step (Kd.int .i64) (w0 := w) w.heap.size (by rfl) (.tmp 132) (.tmp 135) 33 3 (.int .i64 0) 8 rfl Try.underlying33 info3 rfl (by decide) (by omega) v351 y350 y353 _ _ _ (fun k_ => some k_ ≠ (.slice Ao34 t336.length co34 : Value).ownBlock ∧ some k_ ≠ (.slice Ao34 t336.length co34 : Value).ownBlock) (fun _ => False) rfl rfl ?aO ?aR (fun _ _ h => h) (fun _ h => h.elim) ?aF ?aB ?aS ?aL ?_
                                      (case aR => repeat (first | exact (by repeat (first | (with_reducible exact HR356.out) | (with_reducible refine Kd.C_alloc ?_ _) | (with_reducible refine Kd.C_drewN ?_ _) | (with_reducible refine Kd.C_drew ?_) | exact HR356.out)) | (with_reducible refine Kd.C_alloc ?_ _) | (with_reducible refine Kd.C_drewN ?_ _) | (with_reducible refine Kd.C_drew ?_)))
                                      (case aB => exact (by repeat (first | (with_reducible first | exact HB.out | apply below_alloc | apply pw_below_drewN | apply below_drew1) | exact HB.out)))
                                      (case aF => exact (fun k_ hk => ⟨Kd.fresh' (Kd.R_lt (by (with_reducible repeat (first | apply Kd.R_alloc | apply Kd.R_drewN | apply Kd.R_drew)); exact HO_10.out)) k_ hk, Kd.fresh' (Kd.R_lt (by (with_reducible repeat (first | apply Kd.R_alloc | apply Kd.R_drewN | apply Kd.R_drew)); exact HO_81.out)) k_ hk⟩))
                                      (case aO => exact (by (with_reducible repeat (first | apply Kd.R_alloc | apply Kd.R_drewN | apply Kd.R_drew)); exact Kd.R_mono HO352.out (fun _ hk => ⟨hk.1.2, hk.2⟩)))
                                      (case aS => exact (below_size (by repeat (first | (with_reducible first | exact HB.out | apply below_alloc | apply pw_below_drewN | apply below_drew1) | exact HB.out))))
                                      (case aL => have := LMc61.out; omega)
                                      intro v358 w98 ho hb hg hat
                                      rw [← Ny357.out] at ho
                                      have n0_ := Aside0.mk (Kd.V_afterv (ok := (fun k_ => some k_ ≠ (v338 : Value).ownBlock ∧ some k_ ≠ (.slice Ao34 t336.length co34 : Value).ownBlock ∧ some k_ ≠ (.slice Ao34 t336.length co34 : Value).ownBlock)) (by (with_reducible repeat (first | apply Kd.V_alloc | apply Kd.V_drewN | apply Kd.V_drew)); exact HO_0.out) hg hat)
                                      have n1_ := Aside0.mk (Kd.R_over' (by (with_reducible repeat (first | apply Kd.R_alloc | apply Kd.R_drewN | apply Kd.R_drew)); exact HO_9.out) (Kd.R_typed (by (with_reducible repeat (first | apply Kd.R_alloc | apply Kd.R_drewN | apply Kd.R_drew)); exact HO352.out)) (by decide) hg)
                                      have n2_ := Aside0.mk (Kd.R_after (ok := (fun _ => True)) (by (with_reducible repeat (first | apply Kd.R_alloc | apply Kd.R_drewN | apply Kd.R_drew)); exact HO_10.out) hg hat)
                                      have n3_ := Aside0.mk (Kd.R_after (ok := (fun _ => True)) (by (with_reducible repeat (first | apply Kd.R_alloc | apply Kd.R_drewN | apply Kd.R_drew)); exact HO_81.out) hg hat)
                                      have n4_ := Aside0.mk (hb)
                                      have n5_ := Aside0.mk ((show Kd.C (Kd.int .i64) w98 A94 y353.length y353 from by rw [Ny353.out, KA94.out]; exact Kd.C_drop (m := ((ji58) : Int).toNat) (c := co34) ((Kd.R_reads' (Kd.R_after (ok := (fun _ => True)) (by (with_reducible repeat (first | apply Kd.R_alloc | apply Kd.R_drewN | apply Kd.R_drew)); exact HO_10.out) hg hat)).2.2) KL94.out ((Kd.R_reads' (Kd.R_after (ok := (fun _ => True)) (by (with_reducible repeat (first | apply Kd.R_alloc | apply Kd.R_drewN | apply Kd.R_drew)); exact HO_10.out) hg hat)).2.1)))
                                      have n6_ := Aside0.mk ((show Kd.C (Kd.int .i64) w98 Ao34 y360.length y360 from by rw [Ny360.out]; exact Kd.C_take (m := ((ji58) : Int).toNat) ((Kd.R_reads' (Kd.R_after (ok := (fun _ => True)) (by (with_reducible repeat (first | apply Kd.R_alloc | apply Kd.R_drewN | apply Kd.R_drew)); exact HO_10.out) hg hat)).2.2) KL95.out))
                                      have n7_ := Aside0.mk (ho)
                                      clear HO_0
                                      clear HO_9
                                      clear HO_10
                                      clear HO_81
                                      clear HB
                                      clear HR356
                                      clear HR363
                                      clear HO352
                                      have HO_0 := n0_
                                      have HO_9 := n1_
                                      have HO_10 := n2_
                                      have HO_81 := n3_
                                      have HB := n4_
                                      have HR356 := n5_
                                      have HR363 := n6_
                                      have HO359 := n7_
                                      clear n0_ n1_ n2_ n3_ n4_ n5_ n6_ n7_
                                      clear ho hb hg hat
                                      refine hK.out _ _ trivial (fun hHeld => ?_)
                                      clear hK K
                                      refine norm_ (a' := ?_) ?_ ?_
                                      rotate_left
                                      · show Act.put _ (some 136) _ = _
                                        simp only [Act.put, List.setIfInBounds_toArray, List.set_cons_zero, List.set_cons_succ, i64_w, i32_w]
                                        rfl
                                      refine one_ (i := 8) (N := some 140) #[true, true, true, true, true, true, true, true, true, false] rfl rfl (one_of HT_.out (by kernel_rfl)) (by decide) (fun K hK => ?_)
                                      refine Kd.R_append_rows_step (Kd.int .i64) (w0 := w) w.heap.size (by rfl) (.tmp 136) (.tmp 139) 33 3 (.int .i64 0) 8 rfl Try.underlying33 info3 rfl (by decide) (by omega) v358 y357 y360 _ _ _ (fun k_ => some k_ ≠ (.slice Ao34 t336.length co34 : Value).ownBlock ∧ some k_ ≠ (.slice Ao34 t336.length co34 : Value).ownBlock) (fun _ => False) rfl rfl ?aO ?aR (fun _ _ h => h) (fun _ h => h.elim) ?aF ?aB ?aS ?aL ?_
                                      (case aR => repeat (first | exact (by repeat (first | (with_reducible exact HR363.out) | (with_reducible refine Kd.C_alloc ?_ _) | (with_reducible refine Kd.C_drewN ?_ _) | (with_reducible refine Kd.C_drew ?_) | exact HR363.out)) | (with_reducible refine Kd.C_alloc ?_ _) | (with_reducible refine Kd.C_drewN ?_ _) | (with_reducible refine Kd.C_drew ?_)))
                                      (case aB => exact (by repeat (first | (with_reducible first | exact HB.out | apply below_alloc | apply pw_below_drewN | apply below_drew1) | exact HB.out)))
                                      (case aF => exact (fun k_ hk => ⟨Kd.fresh' (Kd.R_lt (by (with_reducible repeat (first | apply Kd.R_alloc | apply Kd.R_drewN | apply Kd.R_drew)); exact HO_10.out)) k_ hk, Kd.fresh' (Kd.R_lt (by (with_reducible repeat (first | apply Kd.R_alloc | apply Kd.R_drewN | apply Kd.R_drew)); exact HO_81.out)) k_ hk⟩))
                                      (case aO => exact (by (with_reducible repeat (first | apply Kd.R_alloc | apply Kd.R_drewN | apply Kd.R_drew)); exact HO359.out))
                                      (case aS => exact (below_size (by repeat (first | (with_reducible first | exact HB.out | apply below_alloc | apply pw_below_drewN | apply below_drew1) | exact HB.out))))
                                      (case aL => have := LMc64.out; omega)
                                      intro v365 w99 ho hb hg hat
                                      rw [← Ny364.out] at ho
                                      have n0_ := Aside0.mk (Kd.V_afterv (ok := (fun k_ => some k_ ≠ (v338 : Value).ownBlock ∧ some k_ ≠ (.slice Ao34 t336.length co34 : Value).ownBlock ∧ some k_ ≠ (.slice Ao34 t336.length co34 : Value).ownBlock)) (by (with_reducible repeat (first | apply Kd.V_alloc | apply Kd.V_drewN | apply Kd.V_drew)); exact HO_0.out) hg hat)
                                      have n1_ := Aside0.mk (Kd.R_over' (by (with_reducible repeat (first | apply Kd.R_alloc | apply Kd.R_drewN | apply Kd.R_drew)); exact HO_9.out) (Kd.R_typed (by (with_reducible repeat (first | apply Kd.R_alloc | apply Kd.R_drewN | apply Kd.R_drew)); exact HO359.out)) (by decide) hg)
                                      have n2_ := Aside0.mk (Kd.R_after (ok := (fun _ => True)) (by (with_reducible repeat (first | apply Kd.R_alloc | apply Kd.R_drewN | apply Kd.R_drew)); exact HO_10.out) hg hat)
                                      have n3_ := Aside0.mk (Kd.R_after (ok := (fun _ => True)) (by (with_reducible repeat (first | apply Kd.R_alloc | apply Kd.R_drewN | apply Kd.R_drew)); exact HO_81.out) hg hat)
                                      have n4_ := Aside0.mk (hb)
                                      have n5_ := Aside0.mk ((show Kd.C (Kd.int .i64) w99 A94 y353.length y353 from by rw [Ny353.out, KA94.out]; exact Kd.C_drop (m := ((ji58) : Int).toNat) (c := co34) ((Kd.R_reads' (Kd.R_after (ok := (fun _ => True)) (by (with_reducible repeat (first | apply Kd.R_alloc | apply Kd.R_drewN | apply Kd.R_drew)); exact HO_10.out) hg hat)).2.2) KL94.out ((Kd.R_reads' (Kd.R_after (ok := (fun _ => True)) (by (with_reducible repeat (first | apply Kd.R_alloc | apply Kd.R_drewN | apply Kd.R_drew)); exact HO_10.out) hg hat)).2.1)))
                                      have n6_ := Aside0.mk ((show Kd.C (Kd.int .i64) w99 Ao34 y360.length y360 from by rw [Ny360.out]; exact Kd.C_take (m := ((ji58) : Int).toNat) ((Kd.R_reads' (Kd.R_after (ok := (fun _ => True)) (by (with_reducible repeat (first | apply Kd.R_alloc | apply Kd.R_drewN | apply Kd.R_drew)); exact HO_10.out) hg hat)).2.2) KL95.out))
                                      have n7_ := Aside0.mk (ho)
                                      clear HO_0
                                      clear HO_9
                                      clear HO_10
                                      clear HO_81
                                      clear HB
                                      clear HR356
                                      clear HR363
                                      clear HO359
                                      have HO_0 := n0_
                                      have HO_9 := n1_
                                      have HO_10 := n2_
                                      have HO_81 := n3_
                                      have HB := n4_
                                      have HR356 := n5_
                                      have HR363 := n6_
                                      have HO366 := n7_
                                      clear n0_ n1_ n2_ n3_ n4_ n5_ n6_ n7_
                                      clear ho hb hg hat
                                      refine hK.out _ _ trivial (fun hHeld => ?_)
                                      clear hK K
                                      refine norm_ (a' := ?_) ?_ ?_
                                      rotate_left
                                      · show Act.put _ (some 140) _ = _
                                        simp only [Act.put, List.setIfInBounds_toArray, List.set_cons_zero, List.set_cons_succ, i64_w, i32_w]
                                        rfl
                                      refine pure_ (i := 9) (N := some 10) (v := ?_) (a' := ?_) #[true, true, true, true, true, true, true, true, true, true] rfl rfl (any_of HT_.out (by kernel_rfl)) (fun _ _ _ h => h) (Or.inl ⟨by rfl, ?_⟩) ?_ ?_
                                      rotate_left
                                      · intro w'
                                        go_simp
                                        with_reducible rfl
                                      rotate_left
                                      · simp only [Act.put, List.setIfInBounds_toArray, List.set_cons_zero, List.set_cons_succ, i64_w, i32_w]
                                        rfl
                                      refine done_ (done_of HT_.out (by kernel_rfl)) ?_
                                      obtain ⟨Ao100, co100, eo100⟩ := Kd.R_slice HO_9.out
                                      subst eo100
                                      obtain ⟨Ao101, co101, eo101⟩ := Kd.R_slice HO366.out
                                      subst eo101
                                      try go_wp2_with (first | ((with_reducible refine gate_callee (f := 20) rfl ?_); refine goesL_ (some 144) rfl rfl Try.func20 (by kernel_rfl) rfl #[.slice Ao100 t335.length co100, .slice Ao101 y364.length co101] rfl (by (try simp only [List.map_toArray, List.map_cons, List.map_nil]); first | done | rfl | (simp only [List.length_drop, List.length_take]; rfl)) ?_; (with_reducible refine (room_Give.calls k3 _ _ t335 _ _ y364 t367 t368 _ ?side1 ?side2 ?side3 ?side4 A65.out).mono ?_); (case side1 => repeat (first | exact (Kd.R_reads' HO_9.out).2.2 | (with_reducible refine Kd.C_alloc ?_ _) | (with_reducible refine Kd.C_drewN ?_ _) | (with_reducible refine Kd.C_drew ?_))); (case side2 => exact (Kd.R_reads' HO_9.out).2.1); (case side3 => repeat (first | exact (Kd.R_reads' HO366.out).2.2 | (with_reducible refine Kd.C_alloc ?_ _) | (with_reducible refine Kd.C_drewN ?_ _) | (with_reducible refine Kd.C_drew ?_))); (case side4 => exact (Kd.R_reads' HO366.out).2.1); rintro e w102 ⟨v369, rfl, ho0, hb⟩; refine ⟨_, rfl, ?_⟩; have n0_ := Aside0.mk (Kd.V_elder' (by (with_reducible repeat (first | apply Kd.V_alloc | apply Kd.V_drewN | apply Kd.V_drew)); exact HO_0.out) (Kd.R_base ho0) hb); have n1_ := Aside0.mk (Kd.R_elder' (by (with_reducible repeat (first | apply Kd.R_alloc | apply Kd.R_drewN | apply Kd.R_drew)); exact HO_9.out) (Kd.R_base ho0) hb); have n2_ := Aside0.mk (Kd.R_below (by (with_reducible repeat (first | apply Kd.R_alloc | apply Kd.R_drewN | apply Kd.R_drew)); exact HO_10.out) hb); have n3_ := Aside0.mk (Kd.R_below (by (with_reducible repeat (first | apply Kd.R_alloc | apply Kd.R_drewN | apply Kd.R_drew)); exact HO_81.out) hb); have n4_ := Aside0.mk (Kd.R_below (by (with_reducible repeat (first | apply Kd.R_alloc | apply Kd.R_drewN | apply Kd.R_drew)); exact HO366.out) hb); have n5_ := Aside0.mk (Kd.R_lower (Kd.R_new' ho0 (Kd.R_lt (by (with_reducible repeat (first | apply Kd.R_alloc | apply Kd.R_drewN | apply Kd.R_drew)); exact HO_9.out))) (below_size (by repeat (first | (with_reducible first | exact HB.out | apply below_alloc | apply pw_below_drewN | apply below_drew1) | exact HB.out)))); have n6_ := Aside0.mk (Kd.C_below (by repeat (first | (with_reducible exact HR356.out) | (with_reducible refine Kd.C_alloc ?_ _) | (with_reducible refine Kd.C_drewN ?_ _) | (with_reducible refine Kd.C_drew ?_) | exact HR356.out)) hb); have n7_ := Aside0.mk (Kd.C_below (by repeat (first | (with_reducible exact HR363.out) | (with_reducible refine Kd.C_alloc ?_ _) | (with_reducible refine Kd.C_drewN ?_ _) | (with_reducible refine Kd.C_drew ?_) | exact HR363.out)) hb); have n8_ := Aside0.mk (below_step (by repeat (first | (with_reducible first | exact HB.out | apply below_alloc | apply pw_below_drewN | apply below_drew1) | exact HB.out)) hb); clear HO_0; clear HO_9; clear HO_10; clear HO_81; clear HO366; clear HR356; clear HR363; clear HB; have HO_0 := n0_; have HO_9 := n1_; have HO_10 := n2_; have HO_81 := n3_; have HO366 := n4_; have HO370 := n5_; have HR356 := n6_; have HR363 := n7_; have HB := n8_; clear n0_ n1_ n2_ n3_ n4_ n5_ n6_ n7_ n8_; (try clear hb); (try clear hb2); (try clear hk); (try clear hi); (try clear ho0)) | ((with_reducible refine gate_callee (f := 12) rfl ?_); refine goesL_ (some 147) rfl rfl Try.func12 (by kernel_rfl) rfl #[] rfl (by (try simp only [List.map_toArray, List.map_cons, List.map_nil]); first | done | rfl | (simp only [List.length_drop, List.length_take]; rfl)) ?_; (with_reducible refine (doorwardlaw06_alive.calls k3  false _ A66.out).mono ?_); rintro e w103 ⟨rfl, hb⟩; refine ⟨_, rfl, ?_⟩; have n0_ := Aside0.mk (Kd.V_below (by (with_reducible repeat (first | apply Kd.V_alloc | apply Kd.V_drewN | apply Kd.V_drew)); exact HO_0.out) hb); have n1_ := Aside0.mk (Kd.R_below (by (with_reducible repeat (first | apply Kd.R_alloc | apply Kd.R_drewN | apply Kd.R_drew)); exact HO_9.out) hb); have n2_ := Aside0.mk (Kd.R_below (by (with_reducible repeat (first | apply Kd.R_alloc | apply Kd.R_drewN | apply Kd.R_drew)); exact HO_10.out) hb); have n3_ := Aside0.mk (Kd.R_below (by (with_reducible repeat (first | apply Kd.R_alloc | apply Kd.R_drewN | apply Kd.R_drew)); exact HO_81.out) hb); have n4_ := Aside0.mk (Kd.R_below (by (with_reducible repeat (first | apply Kd.R_alloc | apply Kd.R_drewN | apply Kd.R_drew)); exact HO366.out) hb); have n5_ := Aside0.mk (Kd.R_below (by (with_reducible repeat (first | apply Kd.R_alloc | apply Kd.R_drewN | apply Kd.R_drew)); exact HO370.out) hb); have n6_ := Aside0.mk (Kd.C_below (by repeat (first | (with_reducible exact HR356.out) | (with_reducible refine Kd.C_alloc ?_ _) | (with_reducible refine Kd.C_drewN ?_ _) | (with_reducible refine Kd.C_drew ?_) | exact HR356.out)) hb); have n7_ := Aside0.mk (Kd.C_below (by repeat (first | (with_reducible exact HR363.out) | (with_reducible refine Kd.C_alloc ?_ _) | (with_reducible refine Kd.C_drewN ?_ _) | (with_reducible refine Kd.C_drew ?_) | exact HR363.out)) hb); have n8_ := Aside0.mk (below_step (by repeat (first | (with_reducible first | exact HB.out | apply below_alloc | apply pw_below_drewN | apply below_drew1) | exact HB.out)) hb); clear HO_0; clear HO_9; clear HO_10; clear HO_81; clear HO366; clear HO370; clear HR356; clear HR363; clear HB; have HO_0 := n0_; have HO_9 := n1_; have HO_10 := n2_; have HO_81 := n3_; have HO366 := n4_; have HO370 := n5_; have HR356 := n6_; have HR363 := n7_; have HB := n8_; clear n0_ n1_ n2_ n3_ n4_ n5_ n6_ n7_ n8_; (try clear hb); (try clear hb2); (try clear hk); (try clear hi)))
                                      go_ret
                                      exact ⟨by first | rfl | (simp [errW_none, errW_some] <;> rfl) | (simp only [← hji18, ← hji19, ← hji58]; first | rfl | (simp [errW_none, errW_some] <;> rfl)) | (simp [*, errW_none, errW_some] <;> rfl), by repeat (first | (with_reducible first | exact HB.out | apply below_alloc | apply pw_below_drewN | apply below_drew1) | exact HB.out)⟩
                                  · rw [if_neg c64] at H
                                    exact absurd H (by simp)
                                · rw [if_neg c61] at H
                                  exact absurd H (by simp)
                              · rw [if_neg c60] at H
                                exact absurd H (by simp)
                            · rw [if_neg c59] at H
                              exact absurd H (by simp)
                        · rw [if_neg c56] at H
                          have c56b0 : decide (0 < ji19) = false := decide_eq_false c56
                          clear c56
                          replace H := Option.bind_eq_some_iff.mp H
                          obtain ⟨⟨t373, t374⟩, A1040, H⟩ := H
                          replace H : ((doorwardlaw06_alive.f k3).bind fun t377 => (if t377 = true then (if t374 = 0 then ((doorwardref06_Same.f k3 t373 t324).bind fun t378 => (some t378)) else (some false)) else (some false))) = some r := H
                          have A104 := Aside0.mk A1040
                          clear A1040
                          replace H := Option.bind_eq_some_iff.mp H
                          obtain ⟨t377, A1050, H⟩ := H
                          replace H : (if t377 = true then (if t374 = 0 then ((doorwardref06_Same.f k3 t373 t324).bind fun t378 => (some t378)) else (some false)) else (some false)) = some r := H
                          have A105 := Aside0.mk A1050
                          clear A1050
                          by_cases c106 : t377 = true
                          · subst c106
                            have H1 : (if t374 = 0 then ((doorwardref06_Same.f k3 t373 t324).bind fun t378 => (some t378)) else (some false)) = some r := by rw [if_pos rfl] at H; exact H
                            clear H
                            have H := H1
                            clear H1
                            by_cases c107 : t374 = 0
                            · rw [if_pos c107] at H
                              have c107b0 : (t374 == 0) = true := beq_iff_eq.mpr c107
                              have c107b1 : (t374 != 0) = false := bne_eq_false_iff_eq.mpr c107
                              clear c107
                              replace H := Option.bind_eq_some_iff.mp H
                              obtain ⟨t378, A1080, H⟩ := H
                              replace H : (some t378) = some r := H
                              have A108 := Aside0.mk A1080
                              clear A1080
                              obtain rfl := Option.some.inj H
                              obtain ⟨Ao109, co109, eo109⟩ := Kd.R_slice HO_9.out
                              subst eo109
                              go_wp2_with (first | ((with_reducible refine gate_callee (f := 20) rfl ?_); refine goesL_ (some 144) rfl rfl Try.func20 (by kernel_rfl) rfl #[.slice Ao109 t335.length co109, .slice Ao34 t336.length co34] rfl (by (try simp only [List.map_toArray, List.map_cons, List.map_nil]); first | done | rfl | (simp only [List.length_drop, List.length_take]; rfl)) ?_; (with_reducible refine (room_Give.calls k3 _ _ t335 _ _ t336 t373 t374 _ ?side1 ?side2 ?side3 ?side4 A104.out).mono ?_); (case side1 => repeat (first | exact (Kd.R_reads' HO_9.out).2.2 | (with_reducible refine Kd.C_alloc ?_ _) | (with_reducible refine Kd.C_drewN ?_ _) | (with_reducible refine Kd.C_drew ?_))); (case side2 => exact (Kd.R_reads' HO_9.out).2.1); (case side3 => repeat (first | exact (Kd.R_reads' HO_10.out).2.2 | (with_reducible refine Kd.C_alloc ?_ _) | (with_reducible refine Kd.C_drewN ?_ _) | (with_reducible refine Kd.C_drew ?_))); (case side4 => exact (Kd.R_reads' HO_10.out).2.1); rintro e w110 ⟨v375, rfl, ho0, hb⟩; refine ⟨_, rfl, ?_⟩; have n0_ := Aside0.mk (Kd.V_elder' (by (with_reducible repeat (first | apply Kd.V_alloc | apply Kd.V_drewN | apply Kd.V_drew)); exact HO_0.out) (Kd.R_base ho0) hb); have n1_ := Aside0.mk (Kd.R_elder' (by (with_reducible repeat (first | apply Kd.R_alloc | apply Kd.R_drewN | apply Kd.R_drew)); exact HO_9.out) (Kd.R_base ho0) hb); have n2_ := Aside0.mk (Kd.R_below (by (with_reducible repeat (first | apply Kd.R_alloc | apply Kd.R_drewN | apply Kd.R_drew)); exact HO_10.out) hb); have n3_ := Aside0.mk (Kd.R_below (by (with_reducible repeat (first | apply Kd.R_alloc | apply Kd.R_drewN | apply Kd.R_drew)); exact HO_81.out) hb); have n4_ := Aside0.mk (Kd.R_lower (Kd.R_new' ho0 (Kd.R_lt (by (with_reducible repeat (first | apply Kd.R_alloc | apply Kd.R_drewN | apply Kd.R_drew)); exact HO_9.out))) (below_size (by repeat (first | (with_reducible first | exact HB.out | apply below_alloc | apply pw_below_drewN | apply below_drew1) | exact HB.out)))); have n5_ := Aside0.mk (below_step (by repeat (first | (with_reducible first | exact HB.out | apply below_alloc | apply pw_below_drewN | apply below_drew1) | exact HB.out)) hb); clear HO_0; clear HO_9; clear HO_10; clear HO_81; clear HB; have HO_0 := n0_; have HO_9 := n1_; have HO_10 := n2_; have HO_81 := n3_; have HO376 := n4_; have HB := n5_; clear n0_ n1_ n2_ n3_ n4_ n5_; (try clear hb); (try clear hb2); (try clear hk); (try clear hi); (try clear ho0)) | ((with_reducible refine gate_callee (f := 12) rfl ?_); refine goesL_ (some 147) rfl rfl Try.func12 (by kernel_rfl) rfl #[] rfl (by (try simp only [List.map_toArray, List.map_cons, List.map_nil]); first | done | rfl | (simp only [List.length_drop, List.length_take]; rfl)) ?_; (with_reducible refine (doorwardlaw06_alive.calls k3  true _ A105.out).mono ?_); rintro e w111 ⟨rfl, hb⟩; refine ⟨_, rfl, ?_⟩; have n0_ := Aside0.mk (Kd.V_below (by (with_reducible repeat (first | apply Kd.V_alloc | apply Kd.V_drewN | apply Kd.V_drew)); exact HO_0.out) hb); have n1_ := Aside0.mk (Kd.R_below (by (with_reducible repeat (first | apply Kd.R_alloc | apply Kd.R_drewN | apply Kd.R_drew)); exact HO_9.out) hb); have n2_ := Aside0.mk (Kd.R_below (by (with_reducible repeat (first | apply Kd.R_alloc | apply Kd.R_drewN | apply Kd.R_drew)); exact HO_10.out) hb); have n3_ := Aside0.mk (Kd.R_below (by (with_reducible repeat (first | apply Kd.R_alloc | apply Kd.R_drewN | apply Kd.R_drew)); exact HO_81.out) hb); have n4_ := Aside0.mk (Kd.R_below (by (with_reducible repeat (first | apply Kd.R_alloc | apply Kd.R_drewN | apply Kd.R_drew)); exact HO376.out) hb); have n5_ := Aside0.mk (below_step (by repeat (first | (with_reducible first | exact HB.out | apply below_alloc | apply pw_below_drewN | apply below_drew1) | exact HB.out)) hb); clear HO_0; clear HO_9; clear HO_10; clear HO_81; clear HO376; clear HB; have HO_0 := n0_; have HO_9 := n1_; have HO_10 := n2_; have HO_81 := n3_; have HO376 := n4_; have HB := n5_; clear n0_ n1_ n2_ n3_ n4_ n5_; (try clear hb); (try clear hb2); (try clear hk); (try clear hi); obtain ⟨Ao112, co112, eo112⟩ := Kd.R_slice HO376.out; subst eo112) | (go_at_call 10; (with_reducible refine (doorwardref06_Same.calls k3 _ _ t373 _ _ t324 t378 _ ?side1 ?side2 ?side3 ?side4 A108.out).mono ?_); (case side1 => repeat (first | exact (Kd.R_reads' HO376.out).2.2 | (with_reducible refine Kd.C_alloc ?_ _) | (with_reducible refine Kd.C_drewN ?_ _) | (with_reducible refine Kd.C_drew ?_))); (case side2 => exact (Kd.R_reads' HO376.out).2.1); (case side3 => repeat (first | exact (Kd.V_reads' HO_0.out).2.2 | (with_reducible refine Kd.C_alloc ?_ _) | (with_reducible refine Kd.C_drewN ?_ _) | (with_reducible refine Kd.C_drew ?_))); (case side4 => exact (Kd.V_reads' HO_0.out).2.1); rintro e w' ⟨rfl, ⟨nd, rfl⟩⟩))
                              go_ret
                              exact ⟨by first | rfl | (simp [errW_none, errW_some] <;> rfl) | (simp only [← hji18, ← hji19]; first | rfl | (simp [errW_none, errW_some] <;> rfl)) | (simp [*, errW_none, errW_some] <;> rfl), by repeat (first | (with_reducible first | exact HB.out | apply below_alloc | apply pw_below_drewN | apply below_drew1) | exact HB.out)⟩
                            · rw [if_neg c107] at H
                              have c107b0 : (t374 == 0) = false := beq_eq_false_iff_ne.mpr c107
                              have c107b1 : (t374 != 0) = true := bne_iff_ne.mpr c107
                              obtain rfl := Option.some.inj H
                              obtain ⟨Ao113, co113, eo113⟩ := Kd.R_slice HO_9.out
                              subst eo113
                              go_wp2_with (first | ((with_reducible refine gate_callee (f := 20) rfl ?_); refine goesL_ (some 144) rfl rfl Try.func20 (by kernel_rfl) rfl #[.slice Ao113 t335.length co113, .slice Ao34 t336.length co34] rfl (by (try simp only [List.map_toArray, List.map_cons, List.map_nil]); first | done | rfl | (simp only [List.length_drop, List.length_take]; rfl)) ?_; (with_reducible refine (room_Give.calls k3 _ _ t335 _ _ t336 t373 t374 _ ?side1 ?side2 ?side3 ?side4 A104.out).mono ?_); (case side1 => repeat (first | exact (Kd.R_reads' HO_9.out).2.2 | (with_reducible refine Kd.C_alloc ?_ _) | (with_reducible refine Kd.C_drewN ?_ _) | (with_reducible refine Kd.C_drew ?_))); (case side2 => exact (Kd.R_reads' HO_9.out).2.1); (case side3 => repeat (first | exact (Kd.R_reads' HO_10.out).2.2 | (with_reducible refine Kd.C_alloc ?_ _) | (with_reducible refine Kd.C_drewN ?_ _) | (with_reducible refine Kd.C_drew ?_))); (case side4 => exact (Kd.R_reads' HO_10.out).2.1); rintro e w114 ⟨v375, rfl, ho0, hb⟩; refine ⟨_, rfl, ?_⟩; have n0_ := Aside0.mk (Kd.V_elder' (by (with_reducible repeat (first | apply Kd.V_alloc | apply Kd.V_drewN | apply Kd.V_drew)); exact HO_0.out) (Kd.R_base ho0) hb); have n1_ := Aside0.mk (Kd.R_elder' (by (with_reducible repeat (first | apply Kd.R_alloc | apply Kd.R_drewN | apply Kd.R_drew)); exact HO_9.out) (Kd.R_base ho0) hb); have n2_ := Aside0.mk (Kd.R_below (by (with_reducible repeat (first | apply Kd.R_alloc | apply Kd.R_drewN | apply Kd.R_drew)); exact HO_10.out) hb); have n3_ := Aside0.mk (Kd.R_below (by (with_reducible repeat (first | apply Kd.R_alloc | apply Kd.R_drewN | apply Kd.R_drew)); exact HO_81.out) hb); have n4_ := Aside0.mk (Kd.R_lower (Kd.R_new' ho0 (Kd.R_lt (by (with_reducible repeat (first | apply Kd.R_alloc | apply Kd.R_drewN | apply Kd.R_drew)); exact HO_9.out))) (below_size (by repeat (first | (with_reducible first | exact HB.out | apply below_alloc | apply pw_below_drewN | apply below_drew1) | exact HB.out)))); have n5_ := Aside0.mk (below_step (by repeat (first | (with_reducible first | exact HB.out | apply below_alloc | apply pw_below_drewN | apply below_drew1) | exact HB.out)) hb); clear HO_0; clear HO_9; clear HO_10; clear HO_81; clear HB; have HO_0 := n0_; have HO_9 := n1_; have HO_10 := n2_; have HO_81 := n3_; have HO376 := n4_; have HB := n5_; clear n0_ n1_ n2_ n3_ n4_ n5_; (try clear hb); (try clear hb2); (try clear hk); (try clear hi); (try clear ho0)) | ((with_reducible refine gate_callee (f := 12) rfl ?_); refine goesL_ (some 147) rfl rfl Try.func12 (by kernel_rfl) rfl #[] rfl (by (try simp only [List.map_toArray, List.map_cons, List.map_nil]); first | done | rfl | (simp only [List.length_drop, List.length_take]; rfl)) ?_; (with_reducible refine (doorwardlaw06_alive.calls k3  true _ A105.out).mono ?_); rintro e w115 ⟨rfl, hb⟩; refine ⟨_, rfl, ?_⟩; have n0_ := Aside0.mk (Kd.V_below (by (with_reducible repeat (first | apply Kd.V_alloc | apply Kd.V_drewN | apply Kd.V_drew)); exact HO_0.out) hb); have n1_ := Aside0.mk (Kd.R_below (by (with_reducible repeat (first | apply Kd.R_alloc | apply Kd.R_drewN | apply Kd.R_drew)); exact HO_9.out) hb); have n2_ := Aside0.mk (Kd.R_below (by (with_reducible repeat (first | apply Kd.R_alloc | apply Kd.R_drewN | apply Kd.R_drew)); exact HO_10.out) hb); have n3_ := Aside0.mk (Kd.R_below (by (with_reducible repeat (first | apply Kd.R_alloc | apply Kd.R_drewN | apply Kd.R_drew)); exact HO_81.out) hb); have n4_ := Aside0.mk (Kd.R_below (by (with_reducible repeat (first | apply Kd.R_alloc | apply Kd.R_drewN | apply Kd.R_drew)); exact HO376.out) hb); have n5_ := Aside0.mk (below_step (by repeat (first | (with_reducible first | exact HB.out | apply below_alloc | apply pw_below_drewN | apply below_drew1) | exact HB.out)) hb); clear HO_0; clear HO_9; clear HO_10; clear HO_81; clear HO376; clear HB; have HO_0 := n0_; have HO_9 := n1_; have HO_10 := n2_; have HO_81 := n3_; have HO376 := n4_; have HB := n5_; clear n0_ n1_ n2_ n3_ n4_ n5_; (try clear hb); (try clear hb2); (try clear hk); (try clear hi)))
                              go_ret
                              exact ⟨by first | rfl | (simp [errW_none, errW_some] <;> rfl) | (simp only [← hji18, ← hji19]; first | rfl | (simp [errW_none, errW_some] <;> rfl)) | (simp [*, errW_none, errW_some] <;> rfl), by repeat (first | (with_reducible first | exact HB.out | apply below_alloc | apply pw_below_drewN | apply below_drew1) | exact HB.out)⟩
                          · replace c106 := Bool.eq_false_iff.mpr c106
                            subst c106
                            have H1 : (some false) = some r := by rw [if_neg (show ¬ (false = true) by decide)] at H; exact H
                            clear H
                            have H := H1
                            clear H1
                            obtain rfl := Option.some.inj H
                            obtain ⟨Ao116, co116, eo116⟩ := Kd.R_slice HO_9.out
                            subst eo116
                            go_wp2_with (first | ((with_reducible refine gate_callee (f := 20) rfl ?_); refine goesL_ (some 144) rfl rfl Try.func20 (by kernel_rfl) rfl #[.slice Ao116 t335.length co116, .slice Ao34 t336.length co34] rfl (by (try simp only [List.map_toArray, List.map_cons, List.map_nil]); first | done | rfl | (simp only [List.length_drop, List.length_take]; rfl)) ?_; (with_reducible refine (room_Give.calls k3 _ _ t335 _ _ t336 t373 t374 _ ?side1 ?side2 ?side3 ?side4 A104.out).mono ?_); (case side1 => repeat (first | exact (Kd.R_reads' HO_9.out).2.2 | (with_reducible refine Kd.C_alloc ?_ _) | (with_reducible refine Kd.C_drewN ?_ _) | (with_reducible refine Kd.C_drew ?_))); (case side2 => exact (Kd.R_reads' HO_9.out).2.1); (case side3 => repeat (first | exact (Kd.R_reads' HO_10.out).2.2 | (with_reducible refine Kd.C_alloc ?_ _) | (with_reducible refine Kd.C_drewN ?_ _) | (with_reducible refine Kd.C_drew ?_))); (case side4 => exact (Kd.R_reads' HO_10.out).2.1); rintro e w117 ⟨v375, rfl, ho0, hb⟩; refine ⟨_, rfl, ?_⟩; have n0_ := Aside0.mk (Kd.V_elder' (by (with_reducible repeat (first | apply Kd.V_alloc | apply Kd.V_drewN | apply Kd.V_drew)); exact HO_0.out) (Kd.R_base ho0) hb); have n1_ := Aside0.mk (Kd.R_elder' (by (with_reducible repeat (first | apply Kd.R_alloc | apply Kd.R_drewN | apply Kd.R_drew)); exact HO_9.out) (Kd.R_base ho0) hb); have n2_ := Aside0.mk (Kd.R_below (by (with_reducible repeat (first | apply Kd.R_alloc | apply Kd.R_drewN | apply Kd.R_drew)); exact HO_10.out) hb); have n3_ := Aside0.mk (Kd.R_below (by (with_reducible repeat (first | apply Kd.R_alloc | apply Kd.R_drewN | apply Kd.R_drew)); exact HO_81.out) hb); have n4_ := Aside0.mk (Kd.R_lower (Kd.R_new' ho0 (Kd.R_lt (by (with_reducible repeat (first | apply Kd.R_alloc | apply Kd.R_drewN | apply Kd.R_drew)); exact HO_9.out))) (below_size (by repeat (first | (with_reducible first | exact HB.out | apply below_alloc | apply pw_below_drewN | apply below_drew1) | exact HB.out)))); have n5_ := Aside0.mk (below_step (by repeat (first | (with_reducible first | exact HB.out | apply below_alloc | apply pw_below_drewN | apply below_drew1) | exact HB.out)) hb); clear HO_0; clear HO_9; clear HO_10; clear HO_81; clear HB; have HO_0 := n0_; have HO_9 := n1_; have HO_10 := n2_; have HO_81 := n3_; have HO376 := n4_; have HB := n5_; clear n0_ n1_ n2_ n3_ n4_ n5_; (try clear hb); (try clear hb2); (try clear hk); (try clear hi); (try clear ho0)) | ((with_reducible refine gate_callee (f := 12) rfl ?_); refine goesL_ (some 147) rfl rfl Try.func12 (by kernel_rfl) rfl #[] rfl (by (try simp only [List.map_toArray, List.map_cons, List.map_nil]); first | done | rfl | (simp only [List.length_drop, List.length_take]; rfl)) ?_; (with_reducible refine (doorwardlaw06_alive.calls k3  false _ A105.out).mono ?_); rintro e w118 ⟨rfl, hb⟩; refine ⟨_, rfl, ?_⟩; have n0_ := Aside0.mk (Kd.V_below (by (with_reducible repeat (first | apply Kd.V_alloc | apply Kd.V_drewN | apply Kd.V_drew)); exact HO_0.out) hb); have n1_ := Aside0.mk (Kd.R_below (by (with_reducible repeat (first | apply Kd.R_alloc | apply Kd.R_drewN | apply Kd.R_drew)); exact HO_9.out) hb); have n2_ := Aside0.mk (Kd.R_below (by (with_reducible repeat (first | apply Kd.R_alloc | apply Kd.R_drewN | apply Kd.R_drew)); exact HO_10.out) hb); have n3_ := Aside0.mk (Kd.R_below (by (with_reducible repeat (first | apply Kd.R_alloc | apply Kd.R_drewN | apply Kd.R_drew)); exact HO_81.out) hb); have n4_ := Aside0.mk (Kd.R_below (by (with_reducible repeat (first | apply Kd.R_alloc | apply Kd.R_drewN | apply Kd.R_drew)); exact HO376.out) hb); have n5_ := Aside0.mk (below_step (by repeat (first | (with_reducible first | exact HB.out | apply below_alloc | apply pw_below_drewN | apply below_drew1) | exact HB.out)) hb); clear HO_0; clear HO_9; clear HO_10; clear HO_81; clear HO376; clear HB; have HO_0 := n0_; have HO_9 := n1_; have HO_10 := n2_; have HO_81 := n3_; have HO376 := n4_; have HB := n5_; clear n0_ n1_ n2_ n3_ n4_ n5_; (try clear hb); (try clear hb2); (try clear hk); (try clear hi)))
                            go_ret
                            exact ⟨by first | rfl | (simp [errW_none, errW_some] <;> rfl) | (simp only [← hji18, ← hji19]; first | rfl | (simp [errW_none, errW_some] <;> rfl)) | (simp [*, errW_none, errW_some] <;> rfl), by repeat (first | (with_reducible first | exact HB.out | apply below_alloc | apply pw_below_drewN | apply below_drew1) | exact HB.out)⟩
          · rw [if_neg c21] at H
            have c21b0 : (t337 == 0) = false := beq_eq_false_iff_ne.mpr c21
            have c21b1 : (t337 != 0) = true := bne_iff_ne.mpr c21
            replace H := Option.bind_eq_some_iff.mp H
            obtain ⟨t342, A1190, H⟩ := H
            replace H : (if t342 = true then (if t337 = 31 then ((room_Free.f kj6 t324).bind fun t343 => (some (decide (t343 < (ji19))))) else (some false)) else (some false)) = some r := H
            have A119 := Aside0.mk A1190
            clear A1190
            by_cases c120 : t342 = true
            · subst c120
              have H1 : (if t337 = 31 then ((room_Free.f kj6 t324).bind fun t343 => (some (decide (t343 < (ji19))))) else (some false)) = some r := by rw [if_pos rfl] at H; exact H
              clear H
              have H := H1
              clear H1
              by_cases c121 : t337 = 31
              · rw [if_pos c121] at H
                have c121b0 : (t337 == 31) = true := beq_iff_eq.mpr c121
                have c121b1 : (t337 != 31) = false := bne_eq_false_iff_eq.mpr c121
                clear c121
                replace H := Option.bind_eq_some_iff.mp H
                obtain ⟨t343, A1220, H⟩ := H
                replace H : (some (decide (t343 < (ji19)))) = some r := H
                have A122 := Aside0.mk A1220
                clear A1220
                obtain rfl := Option.some.inj H
                go_wp2_with (first | ((with_reducible refine gate_callee (f := 14) rfl ?_); refine goesL_ (some 35) rfl rfl Try.func14 (by kernel_rfl) rfl #[.slice Ao9 t324.length co9] rfl (by (try simp only [List.map_toArray, List.map_cons, List.map_nil]); first | done | rfl | (simp only [List.length_drop, List.length_take]; rfl)) ?_; (with_reducible refine (doorwardref06_Right.calls kj6 _ _ t324 true _ ?side1 ?side2 A16.out).mono ?_); (case side1 => repeat (first | exact (Kd.V_reads' HO_0.out).2.2 | (with_reducible refine Kd.C_alloc ?_ _) | (with_reducible refine Kd.C_drewN ?_ _) | (with_reducible refine Kd.C_drew ?_))); (case side2 => exact (Kd.V_reads' HO_0.out).2.1); rintro e w' ⟨rfl, ⟨nd, rfl⟩⟩; refine ⟨_, rfl, ?_⟩) | ((with_reducible refine gate_callee (f := 17) rfl ?_); refine goesL_ (some 44) rfl rfl Try.func17 (by kernel_rfl) rfl #[.slice Ao9 t324.length co9, .int .i64 ji19] rfl (by (try simp only [List.map_toArray, List.map_cons, List.map_nil]); first | done | (simp only [hji19]; rfl) | rfl | (simp only [List.length_drop, List.length_take]; rfl)) ?_; (with_reducible refine (room_Take.calls kj6 _ _ t324 ji19 t335 t336 t337 _ ?side1 ?side2 A20.out).mono ?_); (case side1 => repeat (first | exact (Kd.V_reads' HO_0.out).2.2 | (with_reducible refine Kd.C_alloc ?_ _) | (with_reducible refine Kd.C_drewN ?_ _) | (with_reducible refine Kd.C_drew ?_))); (case side2 => exact (Kd.V_reads' HO_0.out).2.1); rintro e w123 ⟨v338, v340, rfl, ho0, ho1, hb⟩; refine ⟨_, rfl, ?_⟩; have n0_ := Aside0.mk (Kd.V_mono (Kd.V_told (Kd.V_told (Kd.V_old (by (with_reducible repeat (first | apply Kd.V_alloc | apply Kd.V_drewN | apply Kd.V_drew)); exact HO_0.out) hb) (Kd.R_base ho0)) (Kd.R_base ho1)) (fun _ h_ => h_.1)); have n1_ := Aside0.mk (Kd.R_lower ho0 (below_size (by repeat (first | (with_reducible first | exact HB.out | apply below_alloc | apply pw_below_drewN | apply below_drew1) | exact HB.out)))); have n2_ := Aside0.mk (Kd.R_lower ho1 (below_size (by repeat (first | (with_reducible first | exact HB.out | apply below_alloc | apply pw_below_drewN | apply below_drew1) | exact HB.out)))); have n3_ := Aside0.mk (below_step (by repeat (first | (with_reducible first | exact HB.out | apply below_alloc | apply pw_below_drewN | apply below_drew1) | exact HB.out)) hb); clear HO_0; clear HB; have HO_0 := n0_; have HO339 := n1_; have HO341 := n2_; have HB := n3_; clear n0_ n1_ n2_ n3_; (try clear hb); (try clear hb2); (try clear hk); (try clear hi); (try clear ho0); (try clear ho1)) | ((with_reducible refine gate_callee (f := 12) rfl ?_); refine goesL_ (some 50) rfl rfl Try.func12 (by kernel_rfl) rfl #[] rfl (by (try simp only [List.map_toArray, List.map_cons, List.map_nil]); first | done | rfl | (simp only [List.length_drop, List.length_take]; rfl)) ?_; (with_reducible refine (doorwardlaw06_alive.calls kj6  true _ A119.out).mono ?_); rintro e w124 ⟨rfl, hb⟩; refine ⟨_, rfl, ?_⟩; have n0_ := Aside0.mk (Kd.V_below (by (with_reducible repeat (first | apply Kd.V_alloc | apply Kd.V_drewN | apply Kd.V_drew)); exact HO_0.out) hb); have n1_ := Aside0.mk (Kd.R_below (by (with_reducible repeat (first | apply Kd.R_alloc | apply Kd.R_drewN | apply Kd.R_drew)); exact HO339.out) hb); have n2_ := Aside0.mk (Kd.R_below (by (with_reducible repeat (first | apply Kd.R_alloc | apply Kd.R_drewN | apply Kd.R_drew)); exact HO341.out) hb); have n3_ := Aside0.mk (below_step (by repeat (first | (with_reducible first | exact HB.out | apply below_alloc | apply pw_below_drewN | apply below_drew1) | exact HB.out)) hb); clear HO_0; clear HO339; clear HO341; clear HB; have HO_0 := n0_; have HO339 := n1_; have HO341 := n2_; have HB := n3_; clear n0_ n1_ n2_ n3_; (try clear hb); (try clear hb2); (try clear hk); (try clear hi)) | (go_at_call 15; (with_reducible refine (room_Free.calls kj6 _ _ t324 t343 _ ?side1 ?side2 A122.out).mono ?_); (case side1 => repeat (first | exact (Kd.V_reads' HO_0.out).2.2 | (with_reducible refine Kd.C_alloc ?_ _) | (with_reducible refine Kd.C_drewN ?_ _) | (with_reducible refine Kd.C_drew ?_))); (case side2 => exact (Kd.V_reads' HO_0.out).2.1); rintro e w' ⟨rfl, ⟨nd, rfl⟩⟩))
                go_ret
                exact ⟨by first | rfl | (simp [errW_none, errW_some] <;> rfl) | (simp only [← hji18, ← hji19]; first | rfl | (simp [errW_none, errW_some] <;> rfl)) | (simp [*, errW_none, errW_some] <;> rfl), by repeat (first | (with_reducible first | exact HB.out | apply below_alloc | apply pw_below_drewN | apply below_drew1) | exact HB.out)⟩
              · rw [if_neg c121] at H
                have c121b0 : (t337 == 31) = false := beq_eq_false_iff_ne.mpr c121
                have c121b1 : (t337 != 31) = true := bne_iff_ne.mpr c121
                obtain rfl := Option.some.inj H
                go_wp2_with (first | ((with_reducible refine gate_callee (f := 14) rfl ?_); refine goesL_ (some 35) rfl rfl Try.func14 (by kernel_rfl) rfl #[.slice Ao9 t324.length co9] rfl (by (try simp only [List.map_toArray, List.map_cons, List.map_nil]); first | done | rfl | (simp only [List.length_drop, List.length_take]; rfl)) ?_; (with_reducible refine (doorwardref06_Right.calls kj6 _ _ t324 true _ ?side1 ?side2 A16.out).mono ?_); (case side1 => repeat (first | exact (Kd.V_reads' HO_0.out).2.2 | (with_reducible refine Kd.C_alloc ?_ _) | (with_reducible refine Kd.C_drewN ?_ _) | (with_reducible refine Kd.C_drew ?_))); (case side2 => exact (Kd.V_reads' HO_0.out).2.1); rintro e w' ⟨rfl, ⟨nd, rfl⟩⟩; refine ⟨_, rfl, ?_⟩) | ((with_reducible refine gate_callee (f := 17) rfl ?_); refine goesL_ (some 44) rfl rfl Try.func17 (by kernel_rfl) rfl #[.slice Ao9 t324.length co9, .int .i64 ji19] rfl (by (try simp only [List.map_toArray, List.map_cons, List.map_nil]); first | done | (simp only [hji19]; rfl) | rfl | (simp only [List.length_drop, List.length_take]; rfl)) ?_; (with_reducible refine (room_Take.calls kj6 _ _ t324 ji19 t335 t336 t337 _ ?side1 ?side2 A20.out).mono ?_); (case side1 => repeat (first | exact (Kd.V_reads' HO_0.out).2.2 | (with_reducible refine Kd.C_alloc ?_ _) | (with_reducible refine Kd.C_drewN ?_ _) | (with_reducible refine Kd.C_drew ?_))); (case side2 => exact (Kd.V_reads' HO_0.out).2.1); rintro e w125 ⟨v338, v340, rfl, ho0, ho1, hb⟩; refine ⟨_, rfl, ?_⟩; have n0_ := Aside0.mk (Kd.V_mono (Kd.V_told (Kd.V_told (Kd.V_old (by (with_reducible repeat (first | apply Kd.V_alloc | apply Kd.V_drewN | apply Kd.V_drew)); exact HO_0.out) hb) (Kd.R_base ho0)) (Kd.R_base ho1)) (fun _ h_ => h_.1)); have n1_ := Aside0.mk (Kd.R_lower ho0 (below_size (by repeat (first | (with_reducible first | exact HB.out | apply below_alloc | apply pw_below_drewN | apply below_drew1) | exact HB.out)))); have n2_ := Aside0.mk (Kd.R_lower ho1 (below_size (by repeat (first | (with_reducible first | exact HB.out | apply below_alloc | apply pw_below_drewN | apply below_drew1) | exact HB.out)))); have n3_ := Aside0.mk (below_step (by repeat (first | (with_reducible first | exact HB.out | apply below_alloc | apply pw_below_drewN | apply below_drew1) | exact HB.out)) hb); clear HO_0; clear HB; have HO_0 := n0_; have HO339 := n1_; have HO341 := n2_; have HB := n3_; clear n0_ n1_ n2_ n3_; (try clear hb); (try clear hb2); (try clear hk); (try clear hi); (try clear ho0); (try clear ho1)) | ((with_reducible refine gate_callee (f := 12) rfl ?_); refine goesL_ (some 50) rfl rfl Try.func12 (by kernel_rfl) rfl #[] rfl (by (try simp only [List.map_toArray, List.map_cons, List.map_nil]); first | done | rfl | (simp only [List.length_drop, List.length_take]; rfl)) ?_; (with_reducible refine (doorwardlaw06_alive.calls kj6  true _ A119.out).mono ?_); rintro e w126 ⟨rfl, hb⟩; refine ⟨_, rfl, ?_⟩; have n0_ := Aside0.mk (Kd.V_below (by (with_reducible repeat (first | apply Kd.V_alloc | apply Kd.V_drewN | apply Kd.V_drew)); exact HO_0.out) hb); have n1_ := Aside0.mk (Kd.R_below (by (with_reducible repeat (first | apply Kd.R_alloc | apply Kd.R_drewN | apply Kd.R_drew)); exact HO339.out) hb); have n2_ := Aside0.mk (Kd.R_below (by (with_reducible repeat (first | apply Kd.R_alloc | apply Kd.R_drewN | apply Kd.R_drew)); exact HO341.out) hb); have n3_ := Aside0.mk (below_step (by repeat (first | (with_reducible first | exact HB.out | apply below_alloc | apply pw_below_drewN | apply below_drew1) | exact HB.out)) hb); clear HO_0; clear HO339; clear HO341; clear HB; have HO_0 := n0_; have HO339 := n1_; have HO341 := n2_; have HB := n3_; clear n0_ n1_ n2_ n3_; (try clear hb); (try clear hb2); (try clear hk); (try clear hi)))
                go_ret
                exact ⟨by first | rfl | (simp [errW_none, errW_some] <;> rfl) | (simp only [← hji18, ← hji19]; first | rfl | (simp [errW_none, errW_some] <;> rfl)) | (simp [*, errW_none, errW_some] <;> rfl), by repeat (first | (with_reducible first | exact HB.out | apply below_alloc | apply pw_below_drewN | apply below_drew1) | exact HB.out)⟩
            · replace c120 := Bool.eq_false_iff.mpr c120
              subst c120
              have H1 : (some false) = some r := by rw [if_neg (show ¬ (false = true) by decide)] at H; exact H
              clear H
              have H := H1
              clear H1
              obtain rfl := Option.some.inj H
              go_wp2_with (first | ((with_reducible refine gate_callee (f := 14) rfl ?_); refine goesL_ (some 35) rfl rfl Try.func14 (by kernel_rfl) rfl #[.slice Ao9 t324.length co9] rfl (by (try simp only [List.map_toArray, List.map_cons, List.map_nil]); first | done | rfl | (simp only [List.length_drop, List.length_take]; rfl)) ?_; (with_reducible refine (doorwardref06_Right.calls kj6 _ _ t324 true _ ?side1 ?side2 A16.out).mono ?_); (case side1 => repeat (first | exact (Kd.V_reads' HO_0.out).2.2 | (with_reducible refine Kd.C_alloc ?_ _) | (with_reducible refine Kd.C_drewN ?_ _) | (with_reducible refine Kd.C_drew ?_))); (case side2 => exact (Kd.V_reads' HO_0.out).2.1); rintro e w' ⟨rfl, ⟨nd, rfl⟩⟩; refine ⟨_, rfl, ?_⟩) | ((with_reducible refine gate_callee (f := 17) rfl ?_); refine goesL_ (some 44) rfl rfl Try.func17 (by kernel_rfl) rfl #[.slice Ao9 t324.length co9, .int .i64 ji19] rfl (by (try simp only [List.map_toArray, List.map_cons, List.map_nil]); first | done | (simp only [hji19]; rfl) | rfl | (simp only [List.length_drop, List.length_take]; rfl)) ?_; (with_reducible refine (room_Take.calls kj6 _ _ t324 ji19 t335 t336 t337 _ ?side1 ?side2 A20.out).mono ?_); (case side1 => repeat (first | exact (Kd.V_reads' HO_0.out).2.2 | (with_reducible refine Kd.C_alloc ?_ _) | (with_reducible refine Kd.C_drewN ?_ _) | (with_reducible refine Kd.C_drew ?_))); (case side2 => exact (Kd.V_reads' HO_0.out).2.1); rintro e w127 ⟨v338, v340, rfl, ho0, ho1, hb⟩; refine ⟨_, rfl, ?_⟩; have n0_ := Aside0.mk (Kd.V_mono (Kd.V_told (Kd.V_told (Kd.V_old (by (with_reducible repeat (first | apply Kd.V_alloc | apply Kd.V_drewN | apply Kd.V_drew)); exact HO_0.out) hb) (Kd.R_base ho0)) (Kd.R_base ho1)) (fun _ h_ => h_.1)); have n1_ := Aside0.mk (Kd.R_lower ho0 (below_size (by repeat (first | (with_reducible first | exact HB.out | apply below_alloc | apply pw_below_drewN | apply below_drew1) | exact HB.out)))); have n2_ := Aside0.mk (Kd.R_lower ho1 (below_size (by repeat (first | (with_reducible first | exact HB.out | apply below_alloc | apply pw_below_drewN | apply below_drew1) | exact HB.out)))); have n3_ := Aside0.mk (below_step (by repeat (first | (with_reducible first | exact HB.out | apply below_alloc | apply pw_below_drewN | apply below_drew1) | exact HB.out)) hb); clear HO_0; clear HB; have HO_0 := n0_; have HO339 := n1_; have HO341 := n2_; have HB := n3_; clear n0_ n1_ n2_ n3_; (try clear hb); (try clear hb2); (try clear hk); (try clear hi); (try clear ho0); (try clear ho1)) | ((with_reducible refine gate_callee (f := 12) rfl ?_); refine goesL_ (some 50) rfl rfl Try.func12 (by kernel_rfl) rfl #[] rfl (by (try simp only [List.map_toArray, List.map_cons, List.map_nil]); first | done | rfl | (simp only [List.length_drop, List.length_take]; rfl)) ?_; (with_reducible refine (doorwardlaw06_alive.calls kj6  false _ A119.out).mono ?_); rintro e w128 ⟨rfl, hb⟩; refine ⟨_, rfl, ?_⟩; have n0_ := Aside0.mk (Kd.V_below (by (with_reducible repeat (first | apply Kd.V_alloc | apply Kd.V_drewN | apply Kd.V_drew)); exact HO_0.out) hb); have n1_ := Aside0.mk (Kd.R_below (by (with_reducible repeat (first | apply Kd.R_alloc | apply Kd.R_drewN | apply Kd.R_drew)); exact HO339.out) hb); have n2_ := Aside0.mk (Kd.R_below (by (with_reducible repeat (first | apply Kd.R_alloc | apply Kd.R_drewN | apply Kd.R_drew)); exact HO341.out) hb); have n3_ := Aside0.mk (below_step (by repeat (first | (with_reducible first | exact HB.out | apply below_alloc | apply pw_below_drewN | apply below_drew1) | exact HB.out)) hb); clear HO_0; clear HO339; clear HO341; clear HB; have HO_0 := n0_; have HO339 := n1_; have HO341 := n2_; have HB := n3_; clear n0_ n1_ n2_ n3_; (try clear hb); (try clear hb2); (try clear hk); (try clear hi)))
              go_ret
              exact ⟨by first | rfl | (simp [errW_none, errW_some] <;> rfl) | (simp only [← hji18, ← hji19]; first | rfl | (simp [errW_none, errW_some] <;> rfl)) | (simp [*, errW_none, errW_some] <;> rfl), by repeat (first | (with_reducible first | exact HB.out | apply below_alloc | apply pw_below_drewN | apply below_drew1) | exact HB.out)⟩
        · replace c17 := Bool.eq_false_iff.mpr c17
          subst c17
          have H1 : ((doorwardlaw06_alive.f kj6).bind fun t334 => (some t334)) = some r := by rw [if_neg (show ¬ (false = true) by decide)] at H; exact H
          clear H
          have H := H1
          clear H1
          replace H := Option.bind_eq_some_iff.mp H
          obtain ⟨t334, A1290, H⟩ := H
          replace H : (some t334) = some r := H
          have A129 := Aside0.mk A1290
          clear A1290
          obtain rfl := Option.some.inj H
          go_wp2_with (first | ((with_reducible refine gate_callee (f := 14) rfl ?_); refine goesL_ (some 35) rfl rfl Try.func14 (by kernel_rfl) rfl #[.slice Ao9 t324.length co9] rfl (by (try simp only [List.map_toArray, List.map_cons, List.map_nil]); first | done | rfl | (simp only [List.length_drop, List.length_take]; rfl)) ?_; (with_reducible refine (doorwardref06_Right.calls kj6 _ _ t324 false _ ?side1 ?side2 A16.out).mono ?_); (case side1 => repeat (first | exact (Kd.V_reads' HO_0.out).2.2 | (with_reducible refine Kd.C_alloc ?_ _) | (with_reducible refine Kd.C_drewN ?_ _) | (with_reducible refine Kd.C_drew ?_))); (case side2 => exact (Kd.V_reads' HO_0.out).2.1); rintro e w' ⟨rfl, ⟨nd, rfl⟩⟩; refine ⟨_, rfl, ?_⟩) | ((with_reducible refine gate_callee (f := 12) rfl ?_); refine goesL_ (some 37) rfl rfl Try.func12 (by kernel_rfl) rfl #[] rfl (by (try simp only [List.map_toArray, List.map_cons, List.map_nil]); first | done | rfl | (simp only [List.length_drop, List.length_take]; rfl)) ?_; (with_reducible refine (doorwardlaw06_alive.calls kj6  t334 _ A129.out).mono ?_); rintro e w130 ⟨rfl, hb⟩; refine ⟨_, rfl, ?_⟩; have n0_ := Aside0.mk (Kd.V_below (by (with_reducible repeat (first | apply Kd.V_alloc | apply Kd.V_drewN | apply Kd.V_drew)); exact HO_0.out) hb); have n1_ := Aside0.mk (below_step (by repeat (first | (with_reducible first | exact HB.out | apply below_alloc | apply pw_below_drewN | apply below_drew1) | exact HB.out)) hb); clear HO_0; clear HB; have HO_0 := n0_; have HB := n1_; clear n0_ n1_; (try clear hb); (try clear hb2); (try clear hk); (try clear hi)))
          go_ret
          exact ⟨by first | rfl | (simp [errW_none, errW_some] <;> rfl) | (simp [*, errW_none, errW_some] <;> rfl), by repeat (first | (with_reducible first | exact HB.out | apply below_alloc | apply pw_below_drewN | apply below_drew1) | exact HB.out)⟩

end Go.Proofs.Ythhkinkcelcgaaa.R

-- Written for this claim by myprint.py over the kit's print (functions of this session supplied)
import Derived.Test.YtdfjjimmnbijmaaDoorPPu
namespace Go.Proofs.YtdfjjimmnbijmaaDoor.PP
open Go.RowKit Go.Proofs.YtdfjjimmnbijmaaDoorW.PrintWords Go.Proofs.YtdfjjimmnbijmaaDoorW.PrintLast Go.Proofs.YtdfjjimmnbijmaaDoorW.PrintMore Go.Proofs.YtdfjjimmnbijmaaDoor.Base
attribute [local go_sem] max2_int min2_int max_two min_two max_three min_three max_four min_four   -- for this text's walks alone
set_option linter.unusedVariables false
set_option linter.unusedSimpArgs false

/-! ### doorwardlaw15_ParseLines: function 8 -/
mutual
def doorwardlaw15_ParseLines.l0 : Nat → ByteArray → Int → ByteArray → Int → Int → ByteArray → ByteArray → Int → List (S81) → Option (Bool)
  | 0, _, _, _, _, _, _, _, _, _ => none
  | k + 1, x0, x4, x6, x23, x24, x148000, x148001, x148002, x148003 => if x24 < x23 then (if 0 ≤ x24 then (if x24 < (x0.size : Int) then (if (bt x0 x24) = 10 then (if (x6.size : Int) < 1800 then (if x6.size + 9 ≤ 9223372036854775807 then (doorwardlaw15_ParseLines.l0 k x0 x4 (x6 ++ (⟨#[32, 35, 32, 104, 101, 114, 101, 10, 10]⟩ : ByteArray)) x23 (wrap64 (x24 + 1)) x148000 x148001 x148002 x148003) else (none)) else (if x24 ≤ (wrap64 (x24 + 1)) then (if (wrap64 (x24 + 1)) ≤ (x0.size : Int) then (if x6.size + (x0.extract (x24 : Int).toNat ((wrap64 (x24 + 1)) : Int).toNat).size ≤ 9223372036854775807 then (doorwardlaw15_ParseLines.l0 k x0 x4 (x6 ++ (x0.extract (x24 : Int).toNat ((wrap64 (x24 + 1)) : Int).toNat)) x23 (wrap64 (x24 + 1)) x148000 x148001 x148002 x148003) else (none)) else (none)) else (none))) else (if x24 ≤ (wrap64 (x24 + 1)) then (if (wrap64 (x24 + 1)) ≤ (x0.size : Int) then (if x6.size + (x0.extract (x24 : Int).toNat ((wrap64 (x24 + 1)) : Int).toNat).size ≤ 9223372036854775807 then (doorwardlaw15_ParseLines.l0 k x0 x4 (x6 ++ (x0.extract (x24 : Int).toNat ((wrap64 (x24 + 1)) : Int).toNat)) x23 (wrap64 (x24 + 1)) x148000 x148001 x148002 x148003) else (none)) else (none)) else (none))) else (none)) else (none)) else (if x4 = 0 then (doorwardlaw15_ParseLines.j1 k x4 x6 (decide ((x6.size : Int) > 2000)) x148000 x148001 x148002 x148003) else (doorwardlaw15_ParseLines.j1 k x4 x6 true x148000 x148001 x148002 x148003))
def doorwardlaw15_ParseLines.j1 : Nat → Int → ByteArray → Bool → ByteArray → ByteArray → Int → List (S81) → Option (Bool)
  | 0, _, _, _, _, _, _, _ => none
  | k + 1, x4, x6, x52, x148000, x148001, x148002, x148003 => if x52 = true then ((doorwardlaw15_alive.f).bind fun t148 => (if t148 = true then (if x4 = 0 then (some true) else ((doorwardref15_Like.f k x148000 x148001 x148002 x148003 (⟨#[]⟩ : ByteArray) (⟨#[]⟩ : ByteArray) 0 ([] : List (S81))).bind fun t149 => (some t149))) else (some false))) else ((parse_Parse.f x6).bind fun bt150 => ((doorwardlaw15_alive.f).bind fun t159 => (if t159 = true then (if bt150.2.2.2.2.1 = 0 then ((doorwardref15_Like.f k x148000 x148001 x148002 x148003 bt150.1 bt150.2.1 bt150.2.2.1 bt150.2.2.2.1).bind fun t160 => (some t160)) else (some false)) else (some false))))
end
def doorwardlaw15_ParseLines.f (k : Nat) (a0 : ByteArray) : Option (Bool) := if 0 ≤ (mn (a0.size : Int) 900) then (if (mn (a0.size : Int) 900) ≤ (a0.size : Int) then ((parse_Parse.f (a0.extract 0 ((mn (a0.size : Int) 900) : Int).toNat)).bind fun bt139 => (doorwardlaw15_ParseLines.l0 k (a0.extract 0 ((mn (a0.size : Int) 900) : Int).toNat) bt139.2.2.2.2.1 (⟨#[35, 32, 97, 104, 101, 97, 100, 10, 10]⟩ : ByteArray) ((a0.extract 0 ((mn (a0.size : Int) 900) : Int).toNat).size : Int) 0 bt139.1 bt139.2.1 bt139.2.2.1 bt139.2.2.2.1)) else (none)) else (none)
theorem doorwardlaw15_ParseLines.mono_l : ∀ k, (∀ y0 y1 y2 y3 y4 y5 y6 y7 y8, LeO (doorwardlaw15_ParseLines.l0 k y0 y1 y2 y3 y4 y5 y6 y7 y8) (doorwardlaw15_ParseLines.l0 (k + 1) y0 y1 y2 y3 y4 y5 y6 y7 y8)) ∧ (∀ y0 y1 y2 y3 y4 y5 y6, LeO (doorwardlaw15_ParseLines.j1 k y0 y1 y2 y3 y4 y5 y6) (doorwardlaw15_ParseLines.j1 (k + 1) y0 y1 y2 y3 y4 y5 y6))
  | 0 => ⟨fun _ _ _ _ _ _ _ _ _ r h => by simp [doorwardlaw15_ParseLines.l0] at h, fun _ _ _ _ _ _ _ r h => by simp [doorwardlaw15_ParseLines.j1] at h⟩
  | k + 1 => by
    obtain ⟨ih0, ih1⟩ := doorwardlaw15_ParseLines.mono_l k
    refine ⟨?_, ?_⟩
    · intro y0 y1 y2 y3 y4 y5 y6 y7 y8
      unfold doorwardlaw15_ParseLines.l0
      repeat' first
      | (with_reducible exact ih0 _ _ _ _ _ _ _ _ _)
      | (with_reducible exact ih1 _ _ _ _ _ _ _)
      | (with_reducible exact doorwardref15_Like.mono _ _ _ _ _ _ _ _ _)
      | (with_reducible exact LeO.refl _)
      | (with_reducible exact LeO.none _)
      | (with_reducible refine LeO.ite ?_ ?_)
      | (with_reducible refine LeO.bind ?_ (fun _ => ?_))
      | exact ih0 _ _ _ _ _ _ _ _ _
      | exact ih1 _ _ _ _ _ _ _
      | exact doorwardref15_Like.mono _ _ _ _ _ _ _ _ _
      | exact LeO.none _
      | refine LeO.ite ?_ ?_
      | refine LeO.bind ?_ (fun _ => ?_)
    · intro y0 y1 y2 y3 y4 y5 y6
      unfold doorwardlaw15_ParseLines.j1
      repeat' first
      | (with_reducible exact ih0 _ _ _ _ _ _ _ _ _)
      | (with_reducible exact ih1 _ _ _ _ _ _ _)
      | (with_reducible exact doorwardref15_Like.mono _ _ _ _ _ _ _ _ _)
      | (with_reducible exact LeO.refl _)
      | (with_reducible exact LeO.none _)
      | (with_reducible refine LeO.ite ?_ ?_)
      | (with_reducible refine LeO.bind ?_ (fun _ => ?_))
      | exact ih0 _ _ _ _ _ _ _ _ _
      | exact ih1 _ _ _ _ _ _ _
      | exact doorwardref15_Like.mono _ _ _ _ _ _ _ _ _
      | exact LeO.none _
      | refine LeO.ite ?_ ?_
      | refine LeO.bind ?_ (fun _ => ?_)
theorem doorwardlaw15_ParseLines.mono : ∀ a0 k, LeO (doorwardlaw15_ParseLines.f k a0) (doorwardlaw15_ParseLines.f (k + 1) a0) := by
  intro a0 k
  obtain ⟨ih0, ih1⟩ := doorwardlaw15_ParseLines.mono_l k
  unfold doorwardlaw15_ParseLines.f
  repeat' first
      | (with_reducible exact ih0 _ _ _ _ _ _ _ _ _)
      | (with_reducible exact ih1 _ _ _ _ _ _ _)
      | (with_reducible exact doorwardref15_Like.mono _ _ _ _ _ _ _ _ _)
      | (with_reducible exact LeO.refl _)
      | (with_reducible exact LeO.none _)
      | (with_reducible refine LeO.ite ?_ ?_)
      | (with_reducible refine LeO.bind ?_ (fun _ => ?_))
      | exact ih0 _ _ _ _ _ _ _ _ _
      | exact ih1 _ _ _ _ _ _ _
      | exact doorwardref15_Like.mono _ _ _ _ _ _ _ _ _
      | exact LeO.none _
      | refine LeO.ite ?_ ?_
      | refine LeO.bind ?_ (fun _ => ?_)
set_option maxHeartbeats 8000000 in
set_option maxRecDepth 100000 in
theorem doorwardlaw15_ParseLines.calls (k : Nat) (a0 : ByteArray) (r : Bool) (w : World) (hLd : LaidAt w) (h : doorwardlaw15_ParseLines.f k a0 = some r) :
    Calls Tryd.prog 8 #[.string a0] w fun e w' => e = .returned (.bool r) ∧ Below w.heap.size w w' := by
  have hu41 := Tryd.underlying41
  have HLD := Aside0.mk hLd
  clear hLd
  have HB := Aside0.mk (Below.refl w.heap.size w)
  have H : (if 0 ≤ (mn (a0.size : Int) 900) then (if (mn (a0.size : Int) 900) ≤ (a0.size : Int) then ((parse_Parse.f (a0.extract 0 ((mn (a0.size : Int) 900) : Int).toNat)).bind fun bt139 => (doorwardlaw15_ParseLines.l0 k (a0.extract 0 ((mn (a0.size : Int) 900) : Int).toNat) bt139.2.2.2.2.1 (⟨#[35, 32, 97, 104, 101, 97, 100, 10, 10]⟩ : ByteArray) ((a0.extract 0 ((mn (a0.size : Int) 900) : Int).toNat).size : Int) 0 bt139.1 bt139.2.1 bt139.2.2.1 bt139.2.2.2.1)) else (none)) else (none)) = some r := h
  clear h
  obtain ⟨ji2, hji2⟩ : ∃ j_ : Int, (mn (a0.size : Int) 900) = j_ := ⟨_, rfl⟩
  replace H : (if 0 ≤ (ji2) then (if (ji2) ≤ (a0.size : Int) then ((parse_Parse.f (a0.extract 0 ((ji2) : Int).toNat)).bind fun bt139 => (doorwardlaw15_ParseLines.l0 k (a0.extract 0 ((ji2) : Int).toNat) bt139.2.2.2.2.1 (⟨#[35, 32, 97, 104, 101, 97, 100, 10, 10]⟩ : ByteArray) ((a0.extract 0 ((ji2) : Int).toNat).size : Int) 0 bt139.1 bt139.2.1 bt139.2.2.1 bt139.2.2.2.1)) else (none)) else (none)) = some r := by first | (rw [hji2] at H; exact H) | (simp only [hji2] at H ⊢; exact H)
  (try (have hji2h : ji2 ≤ 900 := by (rw [← hji2]; unfold mn; (repeat' split) <;> omega)))
  (try (have hji2g : ji2 ≤ 64 := by omega))
  (try (have hji2l : 0 ≤ ji2 := by (rw [← hji2]; unfold mn; (repeat' split) <;> omega)))
  (try (have hji2m : 0 ≤ ji2 := by omega))
  have hji2_ : (if 900 < (a0.size : Int) then 900 else (a0.size : Int)) = ji2 := hji2
  by_cases c3 : 0 ≤ (ji2)
  · rw [if_pos c3] at H
    have c3b0 := eq_true c3
    have c3b1 : decide (0 ≤ (ji2)) = true := decide_eq_true c3
    clear c3
    by_cases c4 : (ji2) ≤ (a0.size : Int)
    · rw [if_pos c4] at H
      have c4b0 := eq_true c4
      have c4b1 : decide ((ji2) ≤ (a0.size : Int)) = true := decide_eq_true c4
      clear c4
      replace H := Option.bind_eq_some_iff.mp H
      obtain ⟨⟨t139, t140, t141, t142, t145, t146⟩, A50, H⟩ := H
      replace H : (doorwardlaw15_ParseLines.l0 k (a0.extract 0 ((ji2) : Int).toNat) t145 (⟨#[35, 32, 97, 104, 101, 97, 100, 10, 10]⟩ : ByteArray) ((a0.extract 0 ((ji2) : Int).toNat).size : Int) 0 t139 t140 t141 t142) = some r := H
      have A5 := Aside0.mk A50
      clear A50
      have H' := Aside0.mk H
      clear H
      go_enter Tryd.func8, Tryd.ntmps8
      go_wp2_with (first | ((with_reducible refine gate_callee (f := 22) rfl ?_); refine goesL_ (some 18) rfl rfl Tryd.func22 (by kernel_rfl) rfl #[.string (a0.extract 0 ((ji2) : Int).toNat)] rfl (by (try simp only [List.map_toArray, List.map_cons, List.map_nil]); first | done | (simp only [hji2]; rfl) | rfl | (simp only [List.length_drop, List.length_take]; rfl)) ?_; (with_reducible refine (parse_Parse.calls (a0.extract 0 ((ji2) : Int).toNat) t139 t140 t141 t142 t145 t146 _ ?side1 A5.out).mono ?_); (case side1 => exact LaidAt.of HLD.out (by repeat (first | (with_reducible first | exact HB.out | apply below_alloc | apply pw_below_drewN | apply below_drew1) | exact HB.out))); rintro e w6 ⟨v143, rfl, ho0, hb⟩; refine ⟨_, rfl, ?_⟩; have n0_ := Aside0.mk (Kd.R_lower ho0 (below_size (by repeat (first | (with_reducible first | exact HB.out | apply below_alloc | apply pw_below_drewN | apply below_drew1) | exact HB.out)))); have n1_ := Aside0.mk (below_step (by repeat (first | (with_reducible first | exact HB.out | apply below_alloc | apply pw_below_drewN | apply below_drew1) | exact HB.out)) hb); clear HB; have HO144 := n0_; have HB := n1_; clear n0_ n1_; (try clear hb); (try clear hb2); (try clear hk); (try clear hi); (try clear ho0)) | ((with_reducible refine gate_dst (N := 3) rfl ?_); (try (refine gate_guard (by rfl) ?_; dsimp only)); refine box_event ?hg (N := 3) ?hd (cs := #[.string (⟨#[]⟩ : ByteArray), .string (⟨#[]⟩ : ByteArray), .int .u64 0, .slice none 0 0]) (t := 41) ?hr ?_; (case hd => rfl); (case hg => rfl); (case hr => first | (go_simp; done) | (go_simp; rfl)); intro gb147 hg w7 hbox hb; have n0_ := Aside0.mk (Kd.R_below (by (with_reducible repeat (first | apply Kd.R_alloc | apply Kd.R_drewN | apply Kd.R_drew)); exact HO144.out) hb); have n1_ := Aside0.mk (below_step (by repeat (first | (with_reducible first | exact HB.out | apply below_alloc | apply pw_below_drewN | apply below_drew1) | exact HB.out)) hb); have n2_ := Aside0.mk (hbox); have n3_ := Aside0.mk ((by rw [hg]; exact (below_size (by repeat (first | (with_reducible first | exact HB.out | apply below_alloc | apply pw_below_drewN | apply below_drew1) | exact HB.out))) : w.heap.size ≤ gb147)); have n4_ := Aside0.mk ((by rw [hg]; exact (below_size (by repeat (first | (with_reducible first | exact HB.out | apply below_alloc | apply pw_below_drewN | apply below_drew1) | exact HB.out))) : w.heap.size ≤ gb147)); clear HO144; clear HB; have HO144 := n0_; have HB := n1_; have BK147 := n2_; have GW147 := n3_; have GE147 := n4_; clear n0_ n1_ n2_ n3_ n4_; clear hb hbox hg; have hcz8_0 : w7.cell? ⟨gb147, 0, none⟩ = some (.string (⟨#[]⟩ : ByteArray)) := (blk_cell BK147.out 0).trans rfl; have hcz8_1 : w7.cell? ⟨gb147, 1, none⟩ = some (.string (⟨#[]⟩ : ByteArray)) := (blk_cell BK147.out 1).trans rfl; have hcz8_2 : w7.cell? ⟨gb147, 2, none⟩ = some (.int .u64 0) := (blk_cell BK147.out 2).trans rfl; have hcz8_3 : w7.cell? ⟨gb147, 3, none⟩ = some (.slice none 0 0) := (blk_cell BK147.out 3).trans rfl; have hfz8_0 := blk_frozen BK147.out 0; have hfz8_1 := blk_frozen BK147.out 1; have hfz8_2 := blk_frozen BK147.out 2; have hfz8_3 := blk_frozen BK147.out 3; obtain ⟨Ao9, co9, eo9⟩ := Kd.R_slice HO144.out; subst eo9))
      go_loopg [6, 24] k (fun kq v6 v24 w' => ∃ (x6_1 : ByteArray) (x24_1 : Int), v6 = .string x6_1 ∧ v24 = .int .i64 x24_1 ∧ Aside0 (doorwardlaw15_ParseLines.l0 kq (a0.extract 0 ((ji2) : Int).toNat) t145 x6_1 ((a0.extract 0 ((ji2) : Int).toNat).size : Int) x24_1 t139 t140 t141 t142 = some r) ∧ Aside0 (kq ≤ k) ∧ Aside0 (Kd.R k81 81 w' w.heap.size (fun _ => True) (.slice Ao9 t142.length co9) t142) ∧ Aside0 (w'.heap[gb147]? = some (.cells #[.string t139, .string t140, .int .u64 t141, (.slice Ao9 t142.length co9)] 41 (0, 0))) ∧ Aside0 (Below w.heap.size w w'))
      case atStart => exact ⟨((⟨#[35, 32, 97, 104, 101, 97, 100, 10, 10]⟩ : ByteArray)), (0), (by first | rfl | (simp; done) | (simp [*]; done)), (by first | rfl | (simp; done) | (simp [*]; done)), H', ⟨Nat.le_refl _⟩, ⟨by (with_reducible repeat (first | apply Kd.R_alloc | apply Kd.R_drewN | apply Kd.R_drew)); exact Kd.R_mono (Kd.R_far (p := ⟨gb147, 3, none⟩) (Kd.R_far (p := ⟨gb147, 2, none⟩) (Kd.R_far (p := ⟨gb147, 1, none⟩) (Kd.R_far (p := ⟨gb147, 0, none⟩) (Kd.R_types HO144.out BK147.out (by decide)) (fun _ hk => hk.2) (.string t139)) (fun _ hk => hk.2) (.string t140)) (fun _ hk => hk.2) (.int .u64 t141)) (fun _ hk => hk.2) (.slice Ao9 t142.length co9)) (fun _ hk => trivial)⟩, ⟨by (with_reducible repeat (first | refine blk_drewN ?_ _ | refine blk_drew ?_ | refine blk_alloc ?_ _)); refine blk_put (cs := #[.string t139, .string t140, .int .u64 t141, .slice none 0 0]) ?_ 3 _ rfl; (with_reducible repeat (first | refine blk_drewN ?_ _ | refine blk_drew ?_ | refine blk_alloc ?_ _)); refine blk_put (cs := #[.string t139, .string t140, .int .u64 0, .slice none 0 0]) ?_ 2 _ rfl; (with_reducible repeat (first | refine blk_drewN ?_ _ | refine blk_drew ?_ | refine blk_alloc ?_ _)); refine blk_put (cs := #[.string t139, .string (⟨#[]⟩ : ByteArray), .int .u64 0, .slice none 0 0]) ?_ 1 _ rfl; (with_reducible repeat (first | refine blk_drewN ?_ _ | refine blk_drew ?_ | refine blk_alloc ?_ _)); refine blk_put (cs := #[.string (⟨#[]⟩ : ByteArray), .string (⟨#[]⟩ : ByteArray), .int .u64 0, .slice none 0 0]) ?_ 0 _ rfl; (with_reducible repeat (first | refine blk_drewN ?_ _ | refine blk_drew ?_ | refine blk_alloc ?_ _)); exact BK147.out⟩, ⟨by repeat (first | (with_reducible first | exact HB.out | apply below_alloc | apply pw_below_drewN | apply below_drew1 | refine below_set ?_ GE147.out) | exact HB.out)⟩⟩
      case round =>
        clear H'
        try clear c2
        try clear p2
        try clear c3
        try clear c3b0
        try clear c3b1
        try clear c4
        try clear c4b0
        try clear c4b1
        try clear c8
        try clear hcz8_0
        try clear hcz8_1
        try clear hcz8_2
        try clear hcz8_3
        try clear hfz8_0
        try clear hfz8_1
        try clear hfz8_2
        try clear hfz8_3
        obtain ⟨x6_1, x24_1, rfl, rfl, HA, HK1, HO_148003, BK147, HB⟩ := hrel
        cases gk with
        | zero => exact absurd HA.out (by simp [doorwardlaw15_ParseLines.l0])
        | succ k1 =>
          have H := HA.out
          clear HA
          simp only [doorwardlaw15_ParseLines.l0] at H
          by_cases c10 : x24_1 < ((a0.extract 0 ((ji2) : Int).toNat).size : Int)
          · rw [if_pos c10] at H
            have c10b0 : decide (x24_1 < ((a0.extract 0 ((ji2) : Int).toNat).size : Int)) = true := decide_eq_true c10
            (try (have c10b0m : decide (x24_1 < (max ji2 0)) = true := by have hm_ : ((a0.extract 0 ((ji2) : Int).toNat).size : Int) = max ji2 0 := (by have h1_ : 0 ≤ ji2 ∧ ji2 ≤ (a0.size : Int) := (by first | (constructor <;> omega) | (rw [← hji2]; unfold mn; split <;> omega)); simp; omega); rw [← hm_]; exact c10b0))
            (try (have c10b0n : decide (x24_1 < ((min (ji2 : Int).toNat a0.size : Nat) : Int)) = true := by rw [← (show (a0.extract 0 ((ji2) : Int).toNat).size = min (ji2 : Int).toNat a0.size by simp)]; exact c10b0))
            (try have c10b0o := eq_true (of_decide_eq_true c10b0n))
            (try have c10b0p := eq_true (of_decide_eq_true c10b0m))
            clear c10
            by_cases c11 : 0 ≤ x24_1
            · rw [if_pos c11] at H
              have c11b0 : decide (0 ≤ x24_1) = true := decide_eq_true c11
              clear c11
              by_cases c12 : x24_1 < ((a0.extract 0 ((ji2) : Int).toNat).size : Int)
              · rw [if_pos c12] at H
                have c12b0 : decide (x24_1 < ((a0.extract 0 ((ji2) : Int).toNat).size : Int)) = true := decide_eq_true c12
                (try (have c12b0m : decide (x24_1 < (max ji2 0)) = true := by have hm_ : ((a0.extract 0 ((ji2) : Int).toNat).size : Int) = max ji2 0 := (by have h1_ : 0 ≤ ji2 ∧ ji2 ≤ (a0.size : Int) := (by first | (constructor <;> omega) | (rw [← hji2]; unfold mn; split <;> omega)); simp; omega); rw [← hm_]; exact c12b0))
                (try (have c12b0n : decide (x24_1 < ((min (ji2 : Int).toNat a0.size : Nat) : Int)) = true := by rw [← (show (a0.extract 0 ((ji2) : Int).toNat).size = min (ji2 : Int).toNat a0.size by simp)]; exact c12b0))
                (try have c12b0o := eq_true (of_decide_eq_true c12b0n))
                (try have c12b0p := eq_true (of_decide_eq_true c12b0m))
                clear c12
                by_cases c14 : (bt (a0.extract 0 ((ji2) : Int).toNat) x24_1) = 10
                · rw [if_pos c14] at H
                  have c14b0 : ((bt (a0.extract 0 ((ji2) : Int).toNat) x24_1) == 10) = true := beq_iff_eq.mpr c14
                  have c14b1 : ((bt (a0.extract 0 ((ji2) : Int).toNat) x24_1) != 10) = false := bne_eq_false_iff_eq.mpr c14
                  clear c14
                  by_cases c15 : (x6_1.size : Int) < 1800
                  · rw [if_pos c15] at H
                    have c15b0 : decide ((x6_1.size : Int) < 1800) = true := decide_eq_true c15
                    have c15b1 : decide (x6_1.size < 1800) = true := decide_eq_true (by omega)
                    clear c15
                    by_cases c16 : x6_1.size + 9 ≤ 9223372036854775807
                    · rw [if_pos c16] at H
                      have c16b0 := eq_true c16
                      have c16b1 : decide (x6_1.size + 9 ≤ 9223372036854775807) = true := decide_eq_true c16
                      try have c16b2 : (9223372036854775807 < x6_1.size + 9) = False := eq_false (Nat.not_lt.2 c16)
                      have H' := Aside0.mk H
                      clear H
                      have p13 : 0 ≤ (x24_1 : Int) := of_decide_eq_true (by first | (with_reducible assumption) | assumption)
                      have q13 : x24_1 < ((a0.extract 0 ((ji2) : Int).toNat).size : Int) := of_decide_eq_true (by first | (with_reducible assumption) | assumption)
                      have hx13 := bt_at (a0.extract 0 ((ji2) : Int).toNat) x24_1
                      replace p13 := eq_true p13
                      replace q13 := eq_true q13
                      go_wp2
                      go_roundg k1
                      case measure => have := HK1.out; omega
                      case rel => exact ⟨(x6_1 ++ (⟨#[32, 35, 32, 104, 101, 114, 101, 10, 10]⟩ : ByteArray)), (wrap64 (x24_1 + 1)), (by first | rfl | (simp; done) | (simp [*]; done)), (by first | rfl | (simp; done) | (simp [*]; done)), H', ⟨by have := HK1.out; omega⟩, ⟨by (with_reducible repeat (first | apply Kd.R_alloc | apply Kd.R_drewN | apply Kd.R_drew)); exact HO_148003.out⟩, ⟨by (with_reducible repeat (first | refine blk_drewN ?_ _ | refine blk_drew ?_ | refine blk_alloc ?_ _)); exact BK147.out⟩, ⟨by repeat (first | (with_reducible first | exact HB.out | apply below_alloc | apply pw_below_drewN | apply below_drew1 | refine below_set ?_ GE147.out) | exact HB.out)⟩⟩
                    · rw [if_neg c16] at H
                      exact absurd H (by simp)
                  · rw [if_neg c15] at H
                    have c15b0 : decide ((x6_1.size : Int) < 1800) = false := decide_eq_false c15
                    have c15b1 : decide (x6_1.size < 1800) = false := decide_eq_false (by omega)
                    clear c15
                    have c17b0 := eq_true (of_decide_eq_true (by first | (with_reducible assumption) | assumption) : 0 ≤ x24_1)
                    by_cases c18 : x24_1 ≤ (wrap64 (x24_1 + 1))
                    · rw [if_pos c18] at H
                      have c18b0 := eq_true c18
                      have c18b1 : decide (x24_1 ≤ (wrap64 (x24_1 + 1))) = true := decide_eq_true c18
                      by_cases c19 : (wrap64 (x24_1 + 1)) ≤ ((a0.extract 0 ((ji2) : Int).toNat).size : Int)
                      · rw [if_pos c19] at H
                        have c19b0 := eq_true c19
                        have c19b1 : decide ((wrap64 (x24_1 + 1)) ≤ ((a0.extract 0 ((ji2) : Int).toNat).size : Int)) = true := decide_eq_true c19
                        have c19n : (wrap64 (x24_1 + 1) ≤ ((min (ji2).toNat a0.size : Nat) : Int)) = True := eq_true (by have h_ := c19; have e_ : (a0.extract 0 ((ji2) : Int).toNat).size = min (ji2).toNat a0.size := (by simp); exact e_ ▸ h_)
                        by_cases c20 : x6_1.size + ((a0.extract 0 ((ji2) : Int).toNat).extract (x24_1 : Int).toNat ((wrap64 (x24_1 + 1)) : Int).toNat).size ≤ 9223372036854775807
                        · rw [if_pos c20] at H
                          have c20b0 := eq_true c20
                          have c20b1 : decide (x6_1.size + ((a0.extract 0 ((ji2) : Int).toNat).extract (x24_1 : Int).toNat ((wrap64 (x24_1 + 1)) : Int).toNat).size ≤ 9223372036854775807) = true := decide_eq_true c20
                          try have c20b2 : (9223372036854775807 < x6_1.size + ((a0.extract 0 ((ji2) : Int).toNat).extract (x24_1 : Int).toNat ((wrap64 (x24_1 + 1)) : Int).toNat).size) = False := eq_false (Nat.not_lt.2 c20)
                          have H' := Aside0.mk H
                          clear H
                          have p13 : 0 ≤ (x24_1 : Int) := of_decide_eq_true (by first | (with_reducible assumption) | assumption)
                          have q13 : x24_1 < ((a0.extract 0 ((ji2) : Int).toNat).size : Int) := of_decide_eq_true (by first | (with_reducible assumption) | assumption)
                          have hx13 := bt_at (a0.extract 0 ((ji2) : Int).toNat) x24_1
                          replace p13 := eq_true p13
                          replace q13 := eq_true q13
                          go_wp2
                          go_roundg k1
                          case measure => have := HK1.out; omega
                          case rel => exact ⟨(x6_1 ++ ((a0.extract 0 ((ji2) : Int).toNat).extract (x24_1 : Int).toNat ((wrap64 (x24_1 + 1)) : Int).toNat)), (wrap64 (x24_1 + 1)), (by first | rfl | (simp; done) | (simp only [← hji2] <;> (first | rfl | simp)) | (simp [*]; done)), (by first | rfl | (simp; done) | (simp [*]; done)), H', ⟨by have := HK1.out; omega⟩, ⟨by (with_reducible repeat (first | apply Kd.R_alloc | apply Kd.R_drewN | apply Kd.R_drew)); exact HO_148003.out⟩, ⟨by (with_reducible repeat (first | refine blk_drewN ?_ _ | refine blk_drew ?_ | refine blk_alloc ?_ _)); exact BK147.out⟩, ⟨by repeat (first | (with_reducible first | exact HB.out | apply below_alloc | apply pw_below_drewN | apply below_drew1 | refine below_set ?_ GE147.out) | exact HB.out)⟩⟩
                        · rw [if_neg c20] at H
                          exact absurd H (by simp)
                      · rw [if_neg c19] at H
                        exact absurd H (by simp)
                    · rw [if_neg c18] at H
                      exact absurd H (by simp)
                · rw [if_neg c14] at H
                  have c14b0 : ((bt (a0.extract 0 ((ji2) : Int).toNat) x24_1) == 10) = false := beq_eq_false_iff_ne.mpr c14
                  have c14b1 : ((bt (a0.extract 0 ((ji2) : Int).toNat) x24_1) != 10) = true := bne_iff_ne.mpr c14
                  have c21b0 := eq_true (of_decide_eq_true (by first | (with_reducible assumption) | assumption) : 0 ≤ x24_1)
                  by_cases c22 : x24_1 ≤ (wrap64 (x24_1 + 1))
                  · rw [if_pos c22] at H
                    have c22b0 := eq_true c22
                    have c22b1 : decide (x24_1 ≤ (wrap64 (x24_1 + 1))) = true := decide_eq_true c22
                    by_cases c23 : (wrap64 (x24_1 + 1)) ≤ ((a0.extract 0 ((ji2) : Int).toNat).size : Int)
                    · rw [if_pos c23] at H
                      have c23b0 := eq_true c23
                      have c23b1 : decide ((wrap64 (x24_1 + 1)) ≤ ((a0.extract 0 ((ji2) : Int).toNat).size : Int)) = true := decide_eq_true c23
                      have c23n : (wrap64 (x24_1 + 1) ≤ ((min (ji2).toNat a0.size : Nat) : Int)) = True := eq_true (by have h_ := c23; have e_ : (a0.extract 0 ((ji2) : Int).toNat).size = min (ji2).toNat a0.size := (by simp); exact e_ ▸ h_)
                      by_cases c24 : x6_1.size + ((a0.extract 0 ((ji2) : Int).toNat).extract (x24_1 : Int).toNat ((wrap64 (x24_1 + 1)) : Int).toNat).size ≤ 9223372036854775807
                      · rw [if_pos c24] at H
                        have c24b0 := eq_true c24
                        have c24b1 : decide (x6_1.size + ((a0.extract 0 ((ji2) : Int).toNat).extract (x24_1 : Int).toNat ((wrap64 (x24_1 + 1)) : Int).toNat).size ≤ 9223372036854775807) = true := decide_eq_true c24
                        try have c24b2 : (9223372036854775807 < x6_1.size + ((a0.extract 0 ((ji2) : Int).toNat).extract (x24_1 : Int).toNat ((wrap64 (x24_1 + 1)) : Int).toNat).size) = False := eq_false (Nat.not_lt.2 c24)
                        have H' := Aside0.mk H
                        clear H
                        have p13 : 0 ≤ (x24_1 : Int) := of_decide_eq_true (by first | (with_reducible assumption) | assumption)
                        have q13 : x24_1 < ((a0.extract 0 ((ji2) : Int).toNat).size : Int) := of_decide_eq_true (by first | (with_reducible assumption) | assumption)
                        have hx13 := bt_at (a0.extract 0 ((ji2) : Int).toNat) x24_1
                        replace p13 := eq_true p13
                        replace q13 := eq_true q13
                        go_wp2
                        go_roundg k1
                        case measure => have := HK1.out; omega
                        case rel => exact ⟨(x6_1 ++ ((a0.extract 0 ((ji2) : Int).toNat).extract (x24_1 : Int).toNat ((wrap64 (x24_1 + 1)) : Int).toNat)), (wrap64 (x24_1 + 1)), (by first | rfl | (simp; done) | (simp only [← hji2] <;> (first | rfl | simp)) | (simp [*]; done)), (by first | rfl | (simp; done) | (simp [*]; done)), H', ⟨by have := HK1.out; omega⟩, ⟨by (with_reducible repeat (first | apply Kd.R_alloc | apply Kd.R_drewN | apply Kd.R_drew)); exact HO_148003.out⟩, ⟨by (with_reducible repeat (first | refine blk_drewN ?_ _ | refine blk_drew ?_ | refine blk_alloc ?_ _)); exact BK147.out⟩, ⟨by repeat (first | (with_reducible first | exact HB.out | apply below_alloc | apply pw_below_drewN | apply below_drew1 | refine below_set ?_ GE147.out) | exact HB.out)⟩⟩
                      · rw [if_neg c24] at H
                        exact absurd H (by simp)
                    · rw [if_neg c23] at H
                      exact absurd H (by simp)
                  · rw [if_neg c22] at H
                    exact absurd H (by simp)
              · rw [if_neg c12] at H
                exact absurd H (by simp)
            · rw [if_neg c11] at H
              exact absurd H (by simp)
          · rw [if_neg c10] at H
            have c10b0 : decide (x24_1 < ((a0.extract 0 ((ji2) : Int).toNat).size : Int)) = false := decide_eq_false c10
            (try (have c10b0m : decide (x24_1 < (max ji2 0)) = false := by have hm_ : ((a0.extract 0 ((ji2) : Int).toNat).size : Int) = max ji2 0 := (by have h1_ : 0 ≤ ji2 ∧ ji2 ≤ (a0.size : Int) := (by first | (constructor <;> omega) | (rw [← hji2]; unfold mn; split <;> omega)); simp; omega); rw [← hm_]; exact c10b0))
            (try (have c10b0n : decide (x24_1 < ((min (ji2 : Int).toNat a0.size : Nat) : Int)) = false := by rw [← (show (a0.extract 0 ((ji2) : Int).toNat).size = min (ji2 : Int).toNat a0.size by simp)]; exact c10b0))
            clear c10
            have HC25 := Aside0.mk H
            clear H
            go_upto_region 11 with (fail)
            go_cut [52] (fun v52 wc => ∃ (kq : Nat) (x52_24 : Bool), v52 = .bool x52_24 ∧ Aside0 (doorwardlaw15_ParseLines.j1 kq t145 x6_1 x52_24 t139 t140 t141 t142 = some r) ∧ Aside0 (kq ≤ k1) ∧ Aside0 (Kd.R k81 81 wc w.heap.size (fun _ => True) (.slice Ao9 t142.length co9) t142) ∧ Aside0 (wc.heap[gb147]? = some (.cells #[.string t139, .string t140, .int .u64 t141, (.slice Ao9 t142.length co9)] 41 (0, 0))) ∧ Aside0 (Below w.heap.size w wc))
            case first =>
              have H := HC25.out
              clear HC25
              by_cases c26 : t145 = 0
              · rw [if_pos c26] at H
                have c26b0 : (t145 == 0) = true := beq_iff_eq.mpr c26
                have c26b1 : (t145 != 0) = false := bne_eq_false_iff_eq.mpr c26
                clear c26
                (first | rw [c26b0] | (simp only [i64_w, i32_w]; rw [c26b0]) | skip)
                have H' := Aside0.mk H
                clear H
                go_wp2
                go_meet
                case rel => exact ⟨_, (decide ((x6_1.size : Int) > 2000)), (by first | rfl | (simp; done) | (simp [*]; done)), H', ⟨by have := HK1.out; first | omega | exact Nat.le_refl _⟩, ⟨by (with_reducible repeat (first | apply Kd.R_alloc | apply Kd.R_drewN | apply Kd.R_drew)); exact HO_148003.out⟩, ⟨by (with_reducible repeat (first | refine blk_drewN ?_ _ | refine blk_drew ?_ | refine blk_alloc ?_ _)); exact BK147.out⟩, ⟨by repeat (first | (with_reducible first | exact HB.out | apply below_alloc | apply pw_below_drewN | apply below_drew1 | refine below_set ?_ GE147.out) | exact HB.out)⟩⟩
              · rw [if_neg c26] at H
                have c26b0 : (t145 == 0) = false := beq_eq_false_iff_ne.mpr c26
                have c26b1 : (t145 != 0) = true := bne_iff_ne.mpr c26
                (first | rw [c26b0] | (simp only [i64_w, i32_w]; rw [c26b0]) | skip)
                have H' := Aside0.mk H
                clear H
                go_wp2
                go_meet
                case rel => exact ⟨_, (true), (by first | rfl | (simp; done) | (simp [*]; done)), H', ⟨by have := HK1.out; first | omega | exact Nat.le_refl _⟩, ⟨by (with_reducible repeat (first | apply Kd.R_alloc | apply Kd.R_drewN | apply Kd.R_drew)); exact HO_148003.out⟩, ⟨by (with_reducible repeat (first | refine blk_drewN ?_ _ | refine blk_drew ?_ | refine blk_alloc ?_ _)); exact BK147.out⟩, ⟨by repeat (first | (with_reducible first | exact HB.out | apply below_alloc | apply pw_below_drewN | apply below_drew1 | refine below_set ?_ GE147.out) | exact HB.out)⟩⟩
            case rest =>
              clear HC25
              try clear c1
              try clear p1
              try clear q1
              try clear hx1
              try clear c2
              try clear p2
              try clear c3
              try clear c3b0
              try clear c3b1
              try clear c4
              try clear c4b0
              try clear c4b1
              try clear p6
              try clear c8
              try clear c10
              try clear c10b0
              try clear c11
              try clear c11b0
              try clear c12
              try clear c12b0
              try clear p13
              try clear q13
              try clear hx13
              try clear c14
              try clear c14b0
              try clear c14b1
              try clear c15
              try clear c15b0
              try clear c15b1
              try clear c16
              try clear c16b0
              try clear c16b1
              try clear c16b2
              try clear c17
              try clear c17b0
              try clear c18
              try clear c18b0
              try clear c18b1
              try clear c19
              try clear c19b0
              try clear c19b1
              try clear c20
              try clear c20b0
              try clear c20b1
              try clear c20b2
              try clear c21
              try clear c21b0
              try clear c22
              try clear c22b0
              try clear c22b1
              try clear c23
              try clear c23b0
              try clear c23b1
              try clear c24
              try clear c24b0
              try clear c24b1
              try clear c24b2
              try clear c26
              try clear c26b0
              try clear c26b1
              try clear hcz8_0
              try clear hcz8_1
              try clear hcz8_2
              try clear hcz8_3
              try clear hfz8_0
              try clear hfz8_1
              try clear hfz8_2
              try clear hfz8_3
              try clear p13
              try clear p2
              try clear q13
              obtain ⟨kq, x52_24, rfl, HA, HJ24, HO_148003, BK147, HB⟩ := hcut
              cases kq with
              | zero => exact absurd HA.out (by simp [doorwardlaw15_ParseLines.j1])
              | succ kj24 =>
                have H := HA.out
                clear HA
                simp only [doorwardlaw15_ParseLines.j1] at H
                by_cases c27 : x52_24 = true
                · subst c27
                  have H1 : ((doorwardlaw15_alive.f).bind fun t148 => (if t148 = true then (if t145 = 0 then (some true) else ((doorwardref15_Like.f kj24 t139 t140 t141 t142 (⟨#[]⟩ : ByteArray) (⟨#[]⟩ : ByteArray) 0 ([] : List (S81))).bind fun t149 => (some t149))) else (some false))) = some r := by rw [if_pos rfl] at H; exact H
                  clear H
                  have H := H1
                  clear H1
                  replace H := Option.bind_eq_some_iff.mp H
                  obtain ⟨t148, A280, H⟩ := H
                  replace H : (if t148 = true then (if t145 = 0 then (some true) else ((doorwardref15_Like.f kj24 t139 t140 t141 t142 (⟨#[]⟩ : ByteArray) (⟨#[]⟩ : ByteArray) 0 ([] : List (S81))).bind fun t149 => (some t149))) else (some false)) = some r := H
                  have A28 := Aside0.mk A280
                  clear A280
                  by_cases c29 : t148 = true
                  · subst c29
                    have H1 : (if t145 = 0 then (some true) else ((doorwardref15_Like.f kj24 t139 t140 t141 t142 (⟨#[]⟩ : ByteArray) (⟨#[]⟩ : ByteArray) 0 ([] : List (S81))).bind fun t149 => (some t149))) = some r := by rw [if_pos rfl] at H; exact H
                    clear H
                    have H := H1
                    clear H1
                    by_cases c30 : t145 = 0
                    · rw [if_pos c30] at H
                      have c30b0 : (t145 == 0) = true := beq_iff_eq.mpr c30
                      have c30b1 : (t145 != 0) = false := bne_eq_false_iff_eq.mpr c30
                      clear c30
                      obtain rfl := Option.some.inj H
                      go_wp2_with (first | ((with_reducible refine gate_callee (f := 23) rfl ?_); refine goesL_ (some 53) rfl rfl Tryd.func23 (by kernel_rfl) rfl #[] rfl (by (try simp only [List.map_toArray, List.map_cons, List.map_nil]); first | done | rfl | (simp only [List.length_drop, List.length_take]; rfl)) ?_; (with_reducible refine (doorwardlaw15_alive.calls  true _ ?side1 A28.out).mono ?_); (case side1 => exact LaidAt.of HLD.out (by repeat (first | (with_reducible first | exact HB.out | apply below_alloc | apply pw_below_drewN | apply below_drew1 | refine below_set ?_ GE147.out) | exact HB.out))); rintro e w31 ⟨rfl, hb⟩; refine ⟨_, rfl, ?_⟩; have n0_ := Aside0.mk (Kd.R_below (by (with_reducible repeat (first | apply Kd.R_alloc | apply Kd.R_drewN | apply Kd.R_drew)); exact HO_148003.out) hb); have n1_ := Aside0.mk (blk_below (g := gb147) (o := .cells #[.string t139, .string t140, .int .u64 t141, .slice Ao9 t142.length co9] 41 (0, 0)) (by (with_reducible repeat (first | refine blk_drewN ?_ _ | refine blk_drew ?_ | refine blk_alloc ?_ _)); exact BK147.out) hb); have n2_ := Aside0.mk (below_step (by repeat (first | (with_reducible first | exact HB.out | apply below_alloc | apply pw_below_drewN | apply below_drew1 | refine below_set ?_ GE147.out) | exact HB.out)) hb); clear HO_148003; clear BK147; clear HB; have HO_148003 := n0_; have BK147 := n1_; have HB := n2_; clear n0_ n1_ n2_; (try clear hb); (try clear hb2); (try clear hk); (try clear hi)))
                      go_ret
                      exact ⟨by first | rfl | (simp [errW_none, errW_some] <;> rfl) | (simp only [← hji2]; first | rfl | (simp [errW_none, errW_some] <;> rfl)) | (simp [*, errW_none, errW_some] <;> rfl), by repeat (first | (with_reducible first | exact HB.out | apply below_alloc | apply pw_below_drewN | apply below_drew1 | refine below_set ?_ GE147.out) | exact HB.out)⟩
                    · rw [if_neg c30] at H
                      have c30b0 : (t145 == 0) = false := beq_eq_false_iff_ne.mpr c30
                      have c30b1 : (t145 != 0) = true := bne_iff_ne.mpr c30
                      replace H := Option.bind_eq_some_iff.mp H
                      obtain ⟨t149, A320, H⟩ := H
                      replace H : (some t149) = some r := H
                      have A32 := Aside0.mk A320
                      clear A320
                      obtain rfl := Option.some.inj H
                      go_wp2_with (first | ((with_reducible refine gate_callee (f := 23) rfl ?_); refine goesL_ (some 53) rfl rfl Tryd.func23 (by kernel_rfl) rfl #[] rfl (by (try simp only [List.map_toArray, List.map_cons, List.map_nil]); first | done | rfl | (simp only [List.length_drop, List.length_take]; rfl)) ?_; (with_reducible refine (doorwardlaw15_alive.calls  true _ ?side1 A28.out).mono ?_); (case side1 => exact LaidAt.of HLD.out (by repeat (first | (with_reducible first | exact HB.out | apply below_alloc | apply pw_below_drewN | apply below_drew1 | refine below_set ?_ GE147.out) | exact HB.out))); rintro e w33 ⟨rfl, hb⟩; refine ⟨_, rfl, ?_⟩; have n0_ := Aside0.mk (Kd.R_below (by (with_reducible repeat (first | apply Kd.R_alloc | apply Kd.R_drewN | apply Kd.R_drew)); exact HO_148003.out) hb); have n1_ := Aside0.mk (blk_below (g := gb147) (o := .cells #[.string t139, .string t140, .int .u64 t141, .slice Ao9 t142.length co9] 41 (0, 0)) (by (with_reducible repeat (first | refine blk_drewN ?_ _ | refine blk_drew ?_ | refine blk_alloc ?_ _)); exact BK147.out) hb); have n2_ := Aside0.mk (below_step (by repeat (first | (with_reducible first | exact HB.out | apply below_alloc | apply pw_below_drewN | apply below_drew1 | refine below_set ?_ GE147.out) | exact HB.out)) hb); clear HO_148003; clear BK147; clear HB; have HO_148003 := n0_; have BK147 := n1_; have HB := n2_; clear n0_ n1_ n2_; (try clear hb); (try clear hb2); (try clear hk); (try clear hi); have hcz34_0 : w33.cell? ⟨gb147, 0, none⟩ = some (.string t139) := (blk_cell BK147.out 0).trans rfl; have hcz34_1 : w33.cell? ⟨gb147, 1, none⟩ = some (.string t140) := (blk_cell BK147.out 1).trans rfl; have hcz34_2 : w33.cell? ⟨gb147, 2, none⟩ = some (.int .u64 t141) := (blk_cell BK147.out 2).trans rfl; have hcz34_3 : w33.cell? ⟨gb147, 3, none⟩ = some (.slice Ao9 t142.length co9) := (blk_cell BK147.out 3).trans rfl; have hfz34_0 := blk_frozen BK147.out 0; have hfz34_1 := blk_frozen BK147.out 1; have hfz34_2 := blk_frozen BK147.out 2; have hfz34_3 := blk_frozen BK147.out 3) | (go_at_call 24; (refine (doorwardref15_Like.calls kj24 t139 t140 t141 _ _ t142 (⟨#[]⟩ : ByteArray) (⟨#[]⟩ : ByteArray) 0 _ _ ([] : List (S81)) t149 _ ?side1 ?side2 ?side3 ?side4 ?side5 A32.out).mono ?_); (case side1 => repeat (first | exact (Kd.R_reads' HO_148003.out).2.2 | (with_reducible refine Kd.C_alloc ?_ _) | (with_reducible refine Kd.C_drewN ?_ _) | (with_reducible refine Kd.C_drew ?_))); (case side2 => exact (Kd.R_reads' HO_148003.out).2.1); (case side3 => exact Kd.C_nil _ _); (case side4 => exact Nat.le_refl _); (case side5 => exact LaidAt.of HLD.out (by repeat (first | (with_reducible first | exact HB.out | apply below_alloc | apply pw_below_drewN | apply below_drew1 | refine below_set ?_ GE147.out) | exact HB.out))); rintro e w35 ⟨rfl, hb⟩; have n0_ := Aside0.mk (Kd.R_below (by (with_reducible repeat (first | apply Kd.R_alloc | apply Kd.R_drewN | apply Kd.R_drew)); exact HO_148003.out) hb); have n1_ := Aside0.mk (blk_below (g := gb147) (o := .cells #[.string t139, .string t140, .int .u64 t141, .slice Ao9 t142.length co9] 41 (0, 0)) (by (with_reducible repeat (first | refine blk_drewN ?_ _ | refine blk_drew ?_ | refine blk_alloc ?_ _)); exact BK147.out) hb); have n2_ := Aside0.mk (below_step (by repeat (first | (with_reducible first | exact HB.out | apply below_alloc | apply pw_below_drewN | apply below_drew1 | refine below_set ?_ GE147.out) | exact HB.out)) hb); clear HO_148003; clear BK147; clear HB; have HO_148003 := n0_; have BK147 := n1_; have HB := n2_; clear n0_ n1_ n2_; (try clear hb); (try clear hb2); (try clear hk); (try clear hi)))
                      go_ret
                      exact ⟨by first | rfl | (simp [errW_none, errW_some] <;> rfl) | (simp only [← hji2]; first | rfl | (simp [errW_none, errW_some] <;> rfl)) | (simp [*, errW_none, errW_some] <;> rfl), by repeat (first | (with_reducible first | exact HB.out | apply below_alloc | apply pw_below_drewN | apply below_drew1 | refine below_set ?_ GE147.out) | exact HB.out)⟩
                  · replace c29 := Bool.eq_false_iff.mpr c29
                    subst c29
                    have H1 : (some false) = some r := by rw [if_neg (show ¬ (false = true) by decide)] at H; exact H
                    clear H
                    have H := H1
                    clear H1
                    obtain rfl := Option.some.inj H
                    go_wp2_with (first | ((with_reducible refine gate_callee (f := 23) rfl ?_); refine goesL_ (some 53) rfl rfl Tryd.func23 (by kernel_rfl) rfl #[] rfl (by (try simp only [List.map_toArray, List.map_cons, List.map_nil]); first | done | rfl | (simp only [List.length_drop, List.length_take]; rfl)) ?_; (with_reducible refine (doorwardlaw15_alive.calls  false _ ?side1 A28.out).mono ?_); (case side1 => exact LaidAt.of HLD.out (by repeat (first | (with_reducible first | exact HB.out | apply below_alloc | apply pw_below_drewN | apply below_drew1 | refine below_set ?_ GE147.out) | exact HB.out))); rintro e w36 ⟨rfl, hb⟩; refine ⟨_, rfl, ?_⟩; have n0_ := Aside0.mk (Kd.R_below (by (with_reducible repeat (first | apply Kd.R_alloc | apply Kd.R_drewN | apply Kd.R_drew)); exact HO_148003.out) hb); have n1_ := Aside0.mk (blk_below (g := gb147) (o := .cells #[.string t139, .string t140, .int .u64 t141, .slice Ao9 t142.length co9] 41 (0, 0)) (by (with_reducible repeat (first | refine blk_drewN ?_ _ | refine blk_drew ?_ | refine blk_alloc ?_ _)); exact BK147.out) hb); have n2_ := Aside0.mk (below_step (by repeat (first | (with_reducible first | exact HB.out | apply below_alloc | apply pw_below_drewN | apply below_drew1 | refine below_set ?_ GE147.out) | exact HB.out)) hb); clear HO_148003; clear BK147; clear HB; have HO_148003 := n0_; have BK147 := n1_; have HB := n2_; clear n0_ n1_ n2_; (try clear hb); (try clear hb2); (try clear hk); (try clear hi)))
                    go_ret
                    exact ⟨by first | rfl | (simp [errW_none, errW_some] <;> rfl) | (simp only [← hji2]; first | rfl | (simp [errW_none, errW_some] <;> rfl)) | (simp [*, errW_none, errW_some] <;> rfl), by repeat (first | (with_reducible first | exact HB.out | apply below_alloc | apply pw_below_drewN | apply below_drew1 | refine below_set ?_ GE147.out) | exact HB.out)⟩
                · replace c27 := Bool.eq_false_iff.mpr c27
                  subst c27
                  have H1 : ((parse_Parse.f x6_1).bind fun bt150 => ((doorwardlaw15_alive.f).bind fun t159 => (if t159 = true then (if bt150.2.2.2.2.1 = 0 then ((doorwardref15_Like.f kj24 t139 t140 t141 t142 bt150.1 bt150.2.1 bt150.2.2.1 bt150.2.2.2.1).bind fun t160 => (some t160)) else (some false)) else (some false)))) = some r := by rw [if_neg (show ¬ (false = true) by decide)] at H; exact H
                  clear H
                  have H := H1
                  clear H1
                  replace H := Option.bind_eq_some_iff.mp H
                  obtain ⟨⟨t150, t151, t152, t153, t156, t157⟩, A370, H⟩ := H
                  replace H : ((doorwardlaw15_alive.f).bind fun t159 => (if t159 = true then (if t156 = 0 then ((doorwardref15_Like.f kj24 t139 t140 t141 t142 t150 t151 t152 t153).bind fun t160 => (some t160)) else (some false)) else (some false))) = some r := H
                  have A37 := Aside0.mk A370
                  clear A370
                  replace H := Option.bind_eq_some_iff.mp H
                  obtain ⟨t159, A380, H⟩ := H
                  replace H : (if t159 = true then (if t156 = 0 then ((doorwardref15_Like.f kj24 t139 t140 t141 t142 t150 t151 t152 t153).bind fun t160 => (some t160)) else (some false)) else (some false)) = some r := H
                  have A38 := Aside0.mk A380
                  clear A380
                  by_cases c39 : t159 = true
                  · subst c39
                    have H1 : (if t156 = 0 then ((doorwardref15_Like.f kj24 t139 t140 t141 t142 t150 t151 t152 t153).bind fun t160 => (some t160)) else (some false)) = some r := by rw [if_pos rfl] at H; exact H
                    clear H
                    have H := H1
                    clear H1
                    by_cases c40 : t156 = 0
                    · rw [if_pos c40] at H
                      have c40b0 : (t156 == 0) = true := beq_iff_eq.mpr c40
                      have c40b1 : (t156 != 0) = false := bne_eq_false_iff_eq.mpr c40
                      clear c40
                      replace H := Option.bind_eq_some_iff.mp H
                      obtain ⟨t160, A410, H⟩ := H
                      replace H : (some t160) = some r := H
                      have A41 := Aside0.mk A410
                      clear A410
                      obtain rfl := Option.some.inj H
                      go_wp2_with (first | ((with_reducible refine gate_callee (f := 22) rfl ?_); refine goesL_ (some 65) rfl rfl Tryd.func22 (by kernel_rfl) rfl #[.string x6_1] rfl (by (try simp only [List.map_toArray, List.map_cons, List.map_nil]); first | done | rfl | (simp only [List.length_drop, List.length_take]; rfl)) ?_; (with_reducible refine (parse_Parse.calls x6_1 t150 t151 t152 t153 t156 t157 _ ?side1 A37.out).mono ?_); (case side1 => exact LaidAt.of HLD.out (by repeat (first | (with_reducible first | exact HB.out | apply below_alloc | apply pw_below_drewN | apply below_drew1 | refine below_set ?_ GE147.out) | exact HB.out))); rintro e w42 ⟨v154, rfl, ho0, hb⟩; refine ⟨_, rfl, ?_⟩; have n0_ := Aside0.mk (Kd.R_elder' (by (with_reducible repeat (first | apply Kd.R_alloc | apply Kd.R_drewN | apply Kd.R_drew)); exact HO_148003.out) (Kd.R_base ho0) hb); have n1_ := Aside0.mk (Kd.R_lower (Kd.R_new' ho0 (Kd.R_lt (by (with_reducible repeat (first | apply Kd.R_alloc | apply Kd.R_drewN | apply Kd.R_drew)); exact HO_148003.out))) (below_size (by repeat (first | (with_reducible first | exact HB.out | apply below_alloc | apply pw_below_drewN | apply below_drew1 | refine below_set ?_ GE147.out) | exact HB.out)))); have n2_ := Aside0.mk (blk_below (g := gb147) (o := .cells #[.string t139, .string t140, .int .u64 t141, .slice Ao9 t142.length co9] 41 (0, 0)) (by (with_reducible repeat (first | refine blk_drewN ?_ _ | refine blk_drew ?_ | refine blk_alloc ?_ _)); exact BK147.out) hb); have n3_ := Aside0.mk (below_step (by repeat (first | (with_reducible first | exact HB.out | apply below_alloc | apply pw_below_drewN | apply below_drew1 | refine below_set ?_ GE147.out) | exact HB.out)) hb); clear HO_148003; clear BK147; clear HB; have HO_148003 := n0_; have HO155 := n1_; have BK147 := n2_; have HB := n3_; clear n0_ n1_ n2_ n3_; (try clear hb); (try clear hb2); (try clear hk); (try clear hi); (try clear ho0)) | ((with_reducible refine gate_dst (N := 8) rfl ?_); (try (refine gate_guard (by rfl) ?_; dsimp only)); refine box_event ?hg (N := 8) ?hd (cs := #[.string (⟨#[]⟩ : ByteArray), .string (⟨#[]⟩ : ByteArray), .int .u64 0, .slice none 0 0]) (t := 41) ?hr ?_; (case hd => rfl); (case hg => rfl); (case hr => first | (go_simp; done) | (go_simp; rfl)); intro gb158 hg w43 hbox hb; have n0_ := Aside0.mk (Kd.R_below (by (with_reducible repeat (first | apply Kd.R_alloc | apply Kd.R_drewN | apply Kd.R_drew)); exact HO_148003.out) hb); have n1_ := Aside0.mk (Kd.R_below (by (with_reducible repeat (first | apply Kd.R_alloc | apply Kd.R_drewN | apply Kd.R_drew)); exact HO155.out) hb); have n2_ := Aside0.mk (blk_below (g := gb147) (o := .cells #[.string t139, .string t140, .int .u64 t141, .slice Ao9 t142.length co9] 41 (0, 0)) (by (with_reducible repeat (first | refine blk_drewN ?_ _ | refine blk_drew ?_ | refine blk_alloc ?_ _)); exact BK147.out) hb); have n3_ := Aside0.mk (below_step (by repeat (first | (with_reducible first | exact HB.out | apply below_alloc | apply pw_below_drewN | apply below_drew1 | refine below_set ?_ GE147.out) | exact HB.out)) hb); have n4_ := Aside0.mk (hbox); have n5_ := Aside0.mk ((by rw [hg]; exact (below_size (by repeat (first | (with_reducible first | exact HB.out | apply below_alloc | apply pw_below_drewN | apply below_drew1 | refine below_set ?_ GE147.out) | exact HB.out))) : w.heap.size ≤ gb158)); have n6_ := Aside0.mk ((by rw [hg]; exact (below_size (by repeat (first | (with_reducible first | exact HB.out | apply below_alloc | apply pw_below_drewN | apply below_drew1 | refine below_set ?_ GE147.out) | exact HB.out))) : w.heap.size ≤ gb158)); have n7_ := Aside0.mk ((by rw [hg]; exact Nat.ne_of_lt (blk_lt (g := gb147) (o := .cells #[.string t139, .string t140, .int .u64 t141, .slice Ao9 t142.length co9] 41 (0, 0)) (by (with_reducible repeat (first | refine blk_drewN ?_ _ | refine blk_drew ?_ | refine blk_alloc ?_ _)); exact BK147.out)) : gb147 ≠ gb158)); have n8_ := Aside0.mk ((by rw [hg]; exact Nat.ne_of_gt (blk_lt (g := gb147) (o := .cells #[.string t139, .string t140, .int .u64 t141, .slice Ao9 t142.length co9] 41 (0, 0)) (by (with_reducible repeat (first | refine blk_drewN ?_ _ | refine blk_drew ?_ | refine blk_alloc ?_ _)); exact BK147.out)) : gb158 ≠ gb147)); clear HO_148003; clear HO155; clear BK147; clear HB; have HO_148003 := n0_; have HO155 := n1_; have BK147 := n2_; have HB := n3_; have BK158 := n4_; have GW158 := n5_; have GE158 := n6_; have NB147_158 := n7_; have NB158_147 := n8_; clear n0_ n1_ n2_ n3_ n4_ n5_ n6_ n7_ n8_; clear hb hbox hg; have hnb44 := NB158_147.out; have hnc44 := NB147_158.out; have hcz45_0 : w43.cell? ⟨gb158, 0, none⟩ = some (.string (⟨#[]⟩ : ByteArray)) := (blk_cell BK158.out 0).trans rfl; have hcz45_1 : w43.cell? ⟨gb158, 1, none⟩ = some (.string (⟨#[]⟩ : ByteArray)) := (blk_cell BK158.out 1).trans rfl; have hcz45_2 : w43.cell? ⟨gb158, 2, none⟩ = some (.int .u64 0) := (blk_cell BK158.out 2).trans rfl; have hcz45_3 : w43.cell? ⟨gb158, 3, none⟩ = some (.slice none 0 0) := (blk_cell BK158.out 3).trans rfl; have hfz45_0 := blk_frozen BK158.out 0; have hfz45_1 := blk_frozen BK158.out 1; have hfz45_2 := blk_frozen BK158.out 2; have hfz45_3 := blk_frozen BK158.out 3; obtain ⟨Ao46, co46, eo46⟩ := Kd.R_slice HO155.out; subst eo46) | ((with_reducible refine gate_callee (f := 23) rfl ?_); refine goesL_ (some 69) rfl rfl Tryd.func23 (by kernel_rfl) rfl #[] rfl (by (try simp only [List.map_toArray, List.map_cons, List.map_nil]); first | done | rfl | (simp only [List.length_drop, List.length_take]; rfl)) ?_; (with_reducible refine (doorwardlaw15_alive.calls  true _ ?side1 A38.out).mono ?_); (case side1 => exact LaidAt.of HLD.out (by repeat (first | (with_reducible first | exact HB.out | apply below_alloc | apply pw_below_drewN | apply below_drew1 | refine below_set ?_ GE147.out | refine below_set ?_ GE158.out) | exact HB.out))); rintro e w47 ⟨rfl, hb⟩; refine ⟨_, rfl, ?_⟩; have n0_ := Aside0.mk (Kd.R_below (by (with_reducible repeat (first | apply Kd.R_alloc | apply Kd.R_drewN | apply Kd.R_drew)); exact (Kd.R_mono (Kd.R_far (p := ⟨gb158, 3, none⟩) (Kd.R_far (p := ⟨gb158, 2, none⟩) (Kd.R_far (p := ⟨gb158, 1, none⟩) (Kd.R_far (p := ⟨gb158, 0, none⟩) (Kd.R_types HO_148003.out BK158.out (by decide)) (fun _ hk => hk.2) (.string t150)) (fun _ hk => hk.2) (.string t151)) (fun _ hk => hk.2) (.int .u64 t152)) (fun _ hk => hk.2) (.slice Ao46 t153.length co46)) (fun _ h_ => h_.1))) hb); have n1_ := Aside0.mk (Kd.R_below (by (with_reducible repeat (first | apply Kd.R_alloc | apply Kd.R_drewN | apply Kd.R_drew)); exact (Kd.R_mono (Kd.R_far (p := ⟨gb158, 3, none⟩) (Kd.R_far (p := ⟨gb158, 2, none⟩) (Kd.R_far (p := ⟨gb158, 1, none⟩) (Kd.R_far (p := ⟨gb158, 0, none⟩) (Kd.R_types HO155.out BK158.out (by decide)) (fun _ hk => hk.2) (.string t150)) (fun _ hk => hk.2) (.string t151)) (fun _ hk => hk.2) (.int .u64 t152)) (fun _ hk => hk.2) (.slice Ao46 t153.length co46)) (fun _ h_ => h_.1))) hb); have n2_ := Aside0.mk (blk_below (g := gb147) (o := .cells #[.string t139, .string t140, .int .u64 t141, .slice Ao9 t142.length co9] 41 (0, 0)) (by (with_reducible repeat (first | refine blk_drewN ?_ _ | refine blk_drew ?_ | refine blk_alloc ?_ _)); refine blk_far ?_ NB147_158.out _; (with_reducible repeat (first | refine blk_drewN ?_ _ | refine blk_drew ?_ | refine blk_alloc ?_ _)); refine blk_far ?_ NB147_158.out _; (with_reducible repeat (first | refine blk_drewN ?_ _ | refine blk_drew ?_ | refine blk_alloc ?_ _)); refine blk_far ?_ NB147_158.out _; (with_reducible repeat (first | refine blk_drewN ?_ _ | refine blk_drew ?_ | refine blk_alloc ?_ _)); refine blk_far ?_ NB147_158.out _; (with_reducible repeat (first | refine blk_drewN ?_ _ | refine blk_drew ?_ | refine blk_alloc ?_ _)); exact BK147.out) hb); have n3_ := Aside0.mk (blk_below (g := gb158) (o := .cells #[.string t150, .string t151, .int .u64 t152, .slice Ao46 t153.length co46] 41 (0, 0)) (by (with_reducible repeat (first | refine blk_drewN ?_ _ | refine blk_drew ?_ | refine blk_alloc ?_ _)); refine blk_put (cs := #[.string t150, .string t151, .int .u64 t152, .slice none 0 0]) ?_ 3 _ rfl; (with_reducible repeat (first | refine blk_drewN ?_ _ | refine blk_drew ?_ | refine blk_alloc ?_ _)); refine blk_put (cs := #[.string t150, .string t151, .int .u64 0, .slice none 0 0]) ?_ 2 _ rfl; (with_reducible repeat (first | refine blk_drewN ?_ _ | refine blk_drew ?_ | refine blk_alloc ?_ _)); refine blk_put (cs := #[.string t150, .string (⟨#[]⟩ : ByteArray), .int .u64 0, .slice none 0 0]) ?_ 1 _ rfl; (with_reducible repeat (first | refine blk_drewN ?_ _ | refine blk_drew ?_ | refine blk_alloc ?_ _)); refine blk_put (cs := #[.string (⟨#[]⟩ : ByteArray), .string (⟨#[]⟩ : ByteArray), .int .u64 0, .slice none 0 0]) ?_ 0 _ rfl; (with_reducible repeat (first | refine blk_drewN ?_ _ | refine blk_drew ?_ | refine blk_alloc ?_ _)); exact BK158.out) hb); have n4_ := Aside0.mk (below_step (by repeat (first | (with_reducible first | exact HB.out | apply below_alloc | apply pw_below_drewN | apply below_drew1 | refine below_set ?_ GE147.out | refine below_set ?_ GE158.out) | exact HB.out)) hb); clear HO_148003; clear HO155; clear BK147; clear BK158; clear HB; have HO_148003 := n0_; have HO155 := n1_; have BK147 := n2_; have BK158 := n3_; have HB := n4_; clear n0_ n1_ n2_ n3_ n4_; (try clear hb); (try clear hb2); (try clear hk); (try clear hi); have hcz48_0 : w47.cell? ⟨gb147, 0, none⟩ = some (.string t139) := (blk_cell BK147.out 0).trans rfl; have hcz48_1 : w47.cell? ⟨gb147, 1, none⟩ = some (.string t140) := (blk_cell BK147.out 1).trans rfl; have hcz48_2 : w47.cell? ⟨gb147, 2, none⟩ = some (.int .u64 t141) := (blk_cell BK147.out 2).trans rfl; have hcz48_3 : w47.cell? ⟨gb147, 3, none⟩ = some (.slice Ao9 t142.length co9) := (blk_cell BK147.out 3).trans rfl; have hfz48_0 := blk_frozen BK147.out 0; have hfz48_1 := blk_frozen BK147.out 1; have hfz48_2 := blk_frozen BK147.out 2; have hfz48_3 := blk_frozen BK147.out 3; have hcz49_0 : w47.cell? ⟨gb158, 0, none⟩ = some (.string t150) := (blk_cell BK158.out 0).trans rfl; have hcz49_1 : w47.cell? ⟨gb158, 1, none⟩ = some (.string t151) := (blk_cell BK158.out 1).trans rfl; have hcz49_2 : w47.cell? ⟨gb158, 2, none⟩ = some (.int .u64 t152) := (blk_cell BK158.out 2).trans rfl; have hcz49_3 : w47.cell? ⟨gb158, 3, none⟩ = some (.slice Ao46 t153.length co46) := (blk_cell BK158.out 3).trans rfl; have hfz49_0 := blk_frozen BK158.out 0; have hfz49_1 := blk_frozen BK158.out 1; have hfz49_2 := blk_frozen BK158.out 2; have hfz49_3 := blk_frozen BK158.out 3) | (go_at_call 24; (with_reducible refine (doorwardref15_Like.calls kj24 t139 t140 t141 _ _ t142 t150 t151 t152 _ _ t153 t160 _ ?side1 ?side2 ?side3 ?side4 ?side5 A41.out).mono ?_); (case side1 => repeat (first | exact (Kd.R_reads' HO_148003.out).2.2 | (with_reducible refine Kd.C_alloc ?_ _) | (with_reducible refine Kd.C_drewN ?_ _) | (with_reducible refine Kd.C_drew ?_))); (case side2 => exact (Kd.R_reads' HO_148003.out).2.1); (case side3 => repeat (first | exact (Kd.R_reads' HO155.out).2.2 | (with_reducible refine Kd.C_alloc ?_ _) | (with_reducible refine Kd.C_drewN ?_ _) | (with_reducible refine Kd.C_drew ?_))); (case side4 => exact (Kd.R_reads' HO155.out).2.1); (case side5 => exact LaidAt.of HLD.out (by repeat (first | (with_reducible first | exact HB.out | apply below_alloc | apply pw_below_drewN | apply below_drew1 | refine below_set ?_ GE147.out | refine below_set ?_ GE158.out) | exact HB.out))); rintro e w50 ⟨rfl, hb⟩; have n0_ := Aside0.mk (Kd.R_below (by (with_reducible repeat (first | apply Kd.R_alloc | apply Kd.R_drewN | apply Kd.R_drew)); exact HO_148003.out) hb); have n1_ := Aside0.mk (Kd.R_below (by (with_reducible repeat (first | apply Kd.R_alloc | apply Kd.R_drewN | apply Kd.R_drew)); exact HO155.out) hb); have n2_ := Aside0.mk (blk_below (g := gb147) (o := .cells #[.string t139, .string t140, .int .u64 t141, .slice Ao9 t142.length co9] 41 (0, 0)) (by (with_reducible repeat (first | refine blk_drewN ?_ _ | refine blk_drew ?_ | refine blk_alloc ?_ _)); exact BK147.out) hb); have n3_ := Aside0.mk (blk_below (g := gb158) (o := .cells #[.string t150, .string t151, .int .u64 t152, .slice Ao46 t153.length co46] 41 (0, 0)) (by (with_reducible repeat (first | refine blk_drewN ?_ _ | refine blk_drew ?_ | refine blk_alloc ?_ _)); exact BK158.out) hb); have n4_ := Aside0.mk (below_step (by repeat (first | (with_reducible first | exact HB.out | apply below_alloc | apply pw_below_drewN | apply below_drew1 | refine below_set ?_ GE147.out | refine below_set ?_ GE158.out) | exact HB.out)) hb); clear HO_148003; clear HO155; clear BK147; clear BK158; clear HB; have HO_148003 := n0_; have HO155 := n1_; have BK147 := n2_; have BK158 := n3_; have HB := n4_; clear n0_ n1_ n2_ n3_ n4_; (try clear hb); (try clear hb2); (try clear hk); (try clear hi)))
                      go_ret
                      exact ⟨by first | rfl | (simp [errW_none, errW_some] <;> rfl) | (simp only [← hji2]; first | rfl | (simp [errW_none, errW_some] <;> rfl)) | (simp [*, errW_none, errW_some] <;> rfl), by repeat (first | (with_reducible first | exact HB.out | apply below_alloc | apply pw_below_drewN | apply below_drew1 | refine below_set ?_ GE147.out | refine below_set ?_ GE158.out) | exact HB.out)⟩
                    · rw [if_neg c40] at H
                      have c40b0 : (t156 == 0) = false := beq_eq_false_iff_ne.mpr c40
                      have c40b1 : (t156 != 0) = true := bne_iff_ne.mpr c40
                      obtain rfl := Option.some.inj H
                      go_wp2_with (first | ((with_reducible refine gate_callee (f := 22) rfl ?_); refine goesL_ (some 65) rfl rfl Tryd.func22 (by kernel_rfl) rfl #[.string x6_1] rfl (by (try simp only [List.map_toArray, List.map_cons, List.map_nil]); first | done | rfl | (simp only [List.length_drop, List.length_take]; rfl)) ?_; (with_reducible refine (parse_Parse.calls x6_1 t150 t151 t152 t153 t156 t157 _ ?side1 A37.out).mono ?_); (case side1 => exact LaidAt.of HLD.out (by repeat (first | (with_reducible first | exact HB.out | apply below_alloc | apply pw_below_drewN | apply below_drew1 | refine below_set ?_ GE147.out) | exact HB.out))); rintro e w51 ⟨v154, rfl, ho0, hb⟩; refine ⟨_, rfl, ?_⟩; have n0_ := Aside0.mk (Kd.R_elder' (by (with_reducible repeat (first | apply Kd.R_alloc | apply Kd.R_drewN | apply Kd.R_drew)); exact HO_148003.out) (Kd.R_base ho0) hb); have n1_ := Aside0.mk (Kd.R_lower (Kd.R_new' ho0 (Kd.R_lt (by (with_reducible repeat (first | apply Kd.R_alloc | apply Kd.R_drewN | apply Kd.R_drew)); exact HO_148003.out))) (below_size (by repeat (first | (with_reducible first | exact HB.out | apply below_alloc | apply pw_below_drewN | apply below_drew1 | refine below_set ?_ GE147.out) | exact HB.out)))); have n2_ := Aside0.mk (blk_below (g := gb147) (o := .cells #[.string t139, .string t140, .int .u64 t141, .slice Ao9 t142.length co9] 41 (0, 0)) (by (with_reducible repeat (first | refine blk_drewN ?_ _ | refine blk_drew ?_ | refine blk_alloc ?_ _)); exact BK147.out) hb); have n3_ := Aside0.mk (below_step (by repeat (first | (with_reducible first | exact HB.out | apply below_alloc | apply pw_below_drewN | apply below_drew1 | refine below_set ?_ GE147.out) | exact HB.out)) hb); clear HO_148003; clear BK147; clear HB; have HO_148003 := n0_; have HO155 := n1_; have BK147 := n2_; have HB := n3_; clear n0_ n1_ n2_ n3_; (try clear hb); (try clear hb2); (try clear hk); (try clear hi); (try clear ho0)) | ((with_reducible refine gate_dst (N := 8) rfl ?_); (try (refine gate_guard (by rfl) ?_; dsimp only)); refine box_event ?hg (N := 8) ?hd (cs := #[.string (⟨#[]⟩ : ByteArray), .string (⟨#[]⟩ : ByteArray), .int .u64 0, .slice none 0 0]) (t := 41) ?hr ?_; (case hd => rfl); (case hg => rfl); (case hr => first | (go_simp; done) | (go_simp; rfl)); intro gb158 hg w52 hbox hb; have n0_ := Aside0.mk (Kd.R_below (by (with_reducible repeat (first | apply Kd.R_alloc | apply Kd.R_drewN | apply Kd.R_drew)); exact HO_148003.out) hb); have n1_ := Aside0.mk (Kd.R_below (by (with_reducible repeat (first | apply Kd.R_alloc | apply Kd.R_drewN | apply Kd.R_drew)); exact HO155.out) hb); have n2_ := Aside0.mk (blk_below (g := gb147) (o := .cells #[.string t139, .string t140, .int .u64 t141, .slice Ao9 t142.length co9] 41 (0, 0)) (by (with_reducible repeat (first | refine blk_drewN ?_ _ | refine blk_drew ?_ | refine blk_alloc ?_ _)); exact BK147.out) hb); have n3_ := Aside0.mk (below_step (by repeat (first | (with_reducible first | exact HB.out | apply below_alloc | apply pw_below_drewN | apply below_drew1 | refine below_set ?_ GE147.out) | exact HB.out)) hb); have n4_ := Aside0.mk (hbox); have n5_ := Aside0.mk ((by rw [hg]; exact (below_size (by repeat (first | (with_reducible first | exact HB.out | apply below_alloc | apply pw_below_drewN | apply below_drew1 | refine below_set ?_ GE147.out) | exact HB.out))) : w.heap.size ≤ gb158)); have n6_ := Aside0.mk ((by rw [hg]; exact (below_size (by repeat (first | (with_reducible first | exact HB.out | apply below_alloc | apply pw_below_drewN | apply below_drew1 | refine below_set ?_ GE147.out) | exact HB.out))) : w.heap.size ≤ gb158)); have n7_ := Aside0.mk ((by rw [hg]; exact Nat.ne_of_lt (blk_lt (g := gb147) (o := .cells #[.string t139, .string t140, .int .u64 t141, .slice Ao9 t142.length co9] 41 (0, 0)) (by (with_reducible repeat (first | refine blk_drewN ?_ _ | refine blk_drew ?_ | refine blk_alloc ?_ _)); exact BK147.out)) : gb147 ≠ gb158)); have n8_ := Aside0.mk ((by rw [hg]; exact Nat.ne_of_gt (blk_lt (g := gb147) (o := .cells #[.string t139, .string t140, .int .u64 t141, .slice Ao9 t142.length co9] 41 (0, 0)) (by (with_reducible repeat (first | refine blk_drewN ?_ _ | refine blk_drew ?_ | refine blk_alloc ?_ _)); exact BK147.out)) : gb158 ≠ gb147)); clear HO_148003; clear HO155; clear BK147; clear HB; have HO_148003 := n0_; have HO155 := n1_; have BK147 := n2_; have HB := n3_; have BK158 := n4_; have GW158 := n5_; have GE158 := n6_; have NB147_158 := n7_; have NB158_147 := n8_; clear n0_ n1_ n2_ n3_ n4_ n5_ n6_ n7_ n8_; clear hb hbox hg; have hnb53 := NB158_147.out; have hnc53 := NB147_158.out; have hcz54_0 : w52.cell? ⟨gb158, 0, none⟩ = some (.string (⟨#[]⟩ : ByteArray)) := (blk_cell BK158.out 0).trans rfl; have hcz54_1 : w52.cell? ⟨gb158, 1, none⟩ = some (.string (⟨#[]⟩ : ByteArray)) := (blk_cell BK158.out 1).trans rfl; have hcz54_2 : w52.cell? ⟨gb158, 2, none⟩ = some (.int .u64 0) := (blk_cell BK158.out 2).trans rfl; have hcz54_3 : w52.cell? ⟨gb158, 3, none⟩ = some (.slice none 0 0) := (blk_cell BK158.out 3).trans rfl; have hfz54_0 := blk_frozen BK158.out 0; have hfz54_1 := blk_frozen BK158.out 1; have hfz54_2 := blk_frozen BK158.out 2; have hfz54_3 := blk_frozen BK158.out 3; obtain ⟨Ao55, co55, eo55⟩ := Kd.R_slice HO155.out; subst eo55) | ((with_reducible refine gate_callee (f := 23) rfl ?_); refine goesL_ (some 69) rfl rfl Tryd.func23 (by kernel_rfl) rfl #[] rfl (by (try simp only [List.map_toArray, List.map_cons, List.map_nil]); first | done | rfl | (simp only [List.length_drop, List.length_take]; rfl)) ?_; (with_reducible refine (doorwardlaw15_alive.calls  true _ ?side1 A38.out).mono ?_); (case side1 => exact LaidAt.of HLD.out (by repeat (first | (with_reducible first | exact HB.out | apply below_alloc | apply pw_below_drewN | apply below_drew1 | refine below_set ?_ GE147.out | refine below_set ?_ GE158.out) | exact HB.out))); rintro e w56 ⟨rfl, hb⟩; refine ⟨_, rfl, ?_⟩; have n0_ := Aside0.mk (Kd.R_below (by (with_reducible repeat (first | apply Kd.R_alloc | apply Kd.R_drewN | apply Kd.R_drew)); exact (Kd.R_mono (Kd.R_far (p := ⟨gb158, 3, none⟩) (Kd.R_far (p := ⟨gb158, 2, none⟩) (Kd.R_far (p := ⟨gb158, 1, none⟩) (Kd.R_far (p := ⟨gb158, 0, none⟩) (Kd.R_types HO_148003.out BK158.out (by decide)) (fun _ hk => hk.2) (.string t150)) (fun _ hk => hk.2) (.string t151)) (fun _ hk => hk.2) (.int .u64 t152)) (fun _ hk => hk.2) (.slice Ao55 t153.length co55)) (fun _ h_ => h_.1))) hb); have n1_ := Aside0.mk (Kd.R_below (by (with_reducible repeat (first | apply Kd.R_alloc | apply Kd.R_drewN | apply Kd.R_drew)); exact (Kd.R_mono (Kd.R_far (p := ⟨gb158, 3, none⟩) (Kd.R_far (p := ⟨gb158, 2, none⟩) (Kd.R_far (p := ⟨gb158, 1, none⟩) (Kd.R_far (p := ⟨gb158, 0, none⟩) (Kd.R_types HO155.out BK158.out (by decide)) (fun _ hk => hk.2) (.string t150)) (fun _ hk => hk.2) (.string t151)) (fun _ hk => hk.2) (.int .u64 t152)) (fun _ hk => hk.2) (.slice Ao55 t153.length co55)) (fun _ h_ => h_.1))) hb); have n2_ := Aside0.mk (blk_below (g := gb147) (o := .cells #[.string t139, .string t140, .int .u64 t141, .slice Ao9 t142.length co9] 41 (0, 0)) (by (with_reducible repeat (first | refine blk_drewN ?_ _ | refine blk_drew ?_ | refine blk_alloc ?_ _)); refine blk_far ?_ NB147_158.out _; (with_reducible repeat (first | refine blk_drewN ?_ _ | refine blk_drew ?_ | refine blk_alloc ?_ _)); refine blk_far ?_ NB147_158.out _; (with_reducible repeat (first | refine blk_drewN ?_ _ | refine blk_drew ?_ | refine blk_alloc ?_ _)); refine blk_far ?_ NB147_158.out _; (with_reducible repeat (first | refine blk_drewN ?_ _ | refine blk_drew ?_ | refine blk_alloc ?_ _)); refine blk_far ?_ NB147_158.out _; (with_reducible repeat (first | refine blk_drewN ?_ _ | refine blk_drew ?_ | refine blk_alloc ?_ _)); exact BK147.out) hb); have n3_ := Aside0.mk (blk_below (g := gb158) (o := .cells #[.string t150, .string t151, .int .u64 t152, .slice Ao55 t153.length co55] 41 (0, 0)) (by (with_reducible repeat (first | refine blk_drewN ?_ _ | refine blk_drew ?_ | refine blk_alloc ?_ _)); refine blk_put (cs := #[.string t150, .string t151, .int .u64 t152, .slice none 0 0]) ?_ 3 _ rfl; (with_reducible repeat (first | refine blk_drewN ?_ _ | refine blk_drew ?_ | refine blk_alloc ?_ _)); refine blk_put (cs := #[.string t150, .string t151, .int .u64 0, .slice none 0 0]) ?_ 2 _ rfl; (with_reducible repeat (first | refine blk_drewN ?_ _ | refine blk_drew ?_ | refine blk_alloc ?_ _)); refine blk_put (cs := #[.string t150, .string (⟨#[]⟩ : ByteArray), .int .u64 0, .slice none 0 0]) ?_ 1 _ rfl; (with_reducible repeat (first | refine blk_drewN ?_ _ | refine blk_drew ?_ | refine blk_alloc ?_ _)); refine blk_put (cs := #[.string (⟨#[]⟩ : ByteArray), .string (⟨#[]⟩ : ByteArray), .int .u64 0, .slice none 0 0]) ?_ 0 _ rfl; (with_reducible repeat (first | refine blk_drewN ?_ _ | refine blk_drew ?_ | refine blk_alloc ?_ _)); exact BK158.out) hb); have n4_ := Aside0.mk (below_step (by repeat (first | (with_reducible first | exact HB.out | apply below_alloc | apply pw_below_drewN | apply below_drew1 | refine below_set ?_ GE147.out | refine below_set ?_ GE158.out) | exact HB.out)) hb); clear HO_148003; clear HO155; clear BK147; clear BK158; clear HB; have HO_148003 := n0_; have HO155 := n1_; have BK147 := n2_; have BK158 := n3_; have HB := n4_; clear n0_ n1_ n2_ n3_ n4_; (try clear hb); (try clear hb2); (try clear hk); (try clear hi)))
                      go_ret
                      exact ⟨by first | rfl | (simp [errW_none, errW_some] <;> rfl) | (simp only [← hji2]; first | rfl | (simp [errW_none, errW_some] <;> rfl)) | (simp [*, errW_none, errW_some] <;> rfl), by repeat (first | (with_reducible first | exact HB.out | apply below_alloc | apply pw_below_drewN | apply below_drew1 | refine below_set ?_ GE147.out | refine below_set ?_ GE158.out) | exact HB.out)⟩
                  · replace c39 := Bool.eq_false_iff.mpr c39
                    subst c39
                    have H1 : (some false) = some r := by rw [if_neg (show ¬ (false = true) by decide)] at H; exact H
                    clear H
                    have H := H1
                    clear H1
                    obtain rfl := Option.some.inj H
                    go_wp2_with (first | ((with_reducible refine gate_callee (f := 22) rfl ?_); refine goesL_ (some 65) rfl rfl Tryd.func22 (by kernel_rfl) rfl #[.string x6_1] rfl (by (try simp only [List.map_toArray, List.map_cons, List.map_nil]); first | done | rfl | (simp only [List.length_drop, List.length_take]; rfl)) ?_; (with_reducible refine (parse_Parse.calls x6_1 t150 t151 t152 t153 t156 t157 _ ?side1 A37.out).mono ?_); (case side1 => exact LaidAt.of HLD.out (by repeat (first | (with_reducible first | exact HB.out | apply below_alloc | apply pw_below_drewN | apply below_drew1 | refine below_set ?_ GE147.out) | exact HB.out))); rintro e w57 ⟨v154, rfl, ho0, hb⟩; refine ⟨_, rfl, ?_⟩; have n0_ := Aside0.mk (Kd.R_elder' (by (with_reducible repeat (first | apply Kd.R_alloc | apply Kd.R_drewN | apply Kd.R_drew)); exact HO_148003.out) (Kd.R_base ho0) hb); have n1_ := Aside0.mk (Kd.R_lower (Kd.R_new' ho0 (Kd.R_lt (by (with_reducible repeat (first | apply Kd.R_alloc | apply Kd.R_drewN | apply Kd.R_drew)); exact HO_148003.out))) (below_size (by repeat (first | (with_reducible first | exact HB.out | apply below_alloc | apply pw_below_drewN | apply below_drew1 | refine below_set ?_ GE147.out) | exact HB.out)))); have n2_ := Aside0.mk (blk_below (g := gb147) (o := .cells #[.string t139, .string t140, .int .u64 t141, .slice Ao9 t142.length co9] 41 (0, 0)) (by (with_reducible repeat (first | refine blk_drewN ?_ _ | refine blk_drew ?_ | refine blk_alloc ?_ _)); exact BK147.out) hb); have n3_ := Aside0.mk (below_step (by repeat (first | (with_reducible first | exact HB.out | apply below_alloc | apply pw_below_drewN | apply below_drew1 | refine below_set ?_ GE147.out) | exact HB.out)) hb); clear HO_148003; clear BK147; clear HB; have HO_148003 := n0_; have HO155 := n1_; have BK147 := n2_; have HB := n3_; clear n0_ n1_ n2_ n3_; (try clear hb); (try clear hb2); (try clear hk); (try clear hi); (try clear ho0)) | ((with_reducible refine gate_dst (N := 8) rfl ?_); (try (refine gate_guard (by rfl) ?_; dsimp only)); refine box_event ?hg (N := 8) ?hd (cs := #[.string (⟨#[]⟩ : ByteArray), .string (⟨#[]⟩ : ByteArray), .int .u64 0, .slice none 0 0]) (t := 41) ?hr ?_; (case hd => rfl); (case hg => rfl); (case hr => first | (go_simp; done) | (go_simp; rfl)); intro gb158 hg w58 hbox hb; have n0_ := Aside0.mk (Kd.R_below (by (with_reducible repeat (first | apply Kd.R_alloc | apply Kd.R_drewN | apply Kd.R_drew)); exact HO_148003.out) hb); have n1_ := Aside0.mk (Kd.R_below (by (with_reducible repeat (first | apply Kd.R_alloc | apply Kd.R_drewN | apply Kd.R_drew)); exact HO155.out) hb); have n2_ := Aside0.mk (blk_below (g := gb147) (o := .cells #[.string t139, .string t140, .int .u64 t141, .slice Ao9 t142.length co9] 41 (0, 0)) (by (with_reducible repeat (first | refine blk_drewN ?_ _ | refine blk_drew ?_ | refine blk_alloc ?_ _)); exact BK147.out) hb); have n3_ := Aside0.mk (below_step (by repeat (first | (with_reducible first | exact HB.out | apply below_alloc | apply pw_below_drewN | apply below_drew1 | refine below_set ?_ GE147.out) | exact HB.out)) hb); have n4_ := Aside0.mk (hbox); have n5_ := Aside0.mk ((by rw [hg]; exact (below_size (by repeat (first | (with_reducible first | exact HB.out | apply below_alloc | apply pw_below_drewN | apply below_drew1 | refine below_set ?_ GE147.out) | exact HB.out))) : w.heap.size ≤ gb158)); have n6_ := Aside0.mk ((by rw [hg]; exact (below_size (by repeat (first | (with_reducible first | exact HB.out | apply below_alloc | apply pw_below_drewN | apply below_drew1 | refine below_set ?_ GE147.out) | exact HB.out))) : w.heap.size ≤ gb158)); have n7_ := Aside0.mk ((by rw [hg]; exact Nat.ne_of_lt (blk_lt (g := gb147) (o := .cells #[.string t139, .string t140, .int .u64 t141, .slice Ao9 t142.length co9] 41 (0, 0)) (by (with_reducible repeat (first | refine blk_drewN ?_ _ | refine blk_drew ?_ | refine blk_alloc ?_ _)); exact BK147.out)) : gb147 ≠ gb158)); have n8_ := Aside0.mk ((by rw [hg]; exact Nat.ne_of_gt (blk_lt (g := gb147) (o := .cells #[.string t139, .string t140, .int .u64 t141, .slice Ao9 t142.length co9] 41 (0, 0)) (by (with_reducible repeat (first | refine blk_drewN ?_ _ | refine blk_drew ?_ | refine blk_alloc ?_ _)); exact BK147.out)) : gb158 ≠ gb147)); clear HO_148003; clear HO155; clear BK147; clear HB; have HO_148003 := n0_; have HO155 := n1_; have BK147 := n2_; have HB := n3_; have BK158 := n4_; have GW158 := n5_; have GE158 := n6_; have NB147_158 := n7_; have NB158_147 := n8_; clear n0_ n1_ n2_ n3_ n4_ n5_ n6_ n7_ n8_; clear hb hbox hg; have hnb59 := NB158_147.out; have hnc59 := NB147_158.out; have hcz60_0 : w58.cell? ⟨gb158, 0, none⟩ = some (.string (⟨#[]⟩ : ByteArray)) := (blk_cell BK158.out 0).trans rfl; have hcz60_1 : w58.cell? ⟨gb158, 1, none⟩ = some (.string (⟨#[]⟩ : ByteArray)) := (blk_cell BK158.out 1).trans rfl; have hcz60_2 : w58.cell? ⟨gb158, 2, none⟩ = some (.int .u64 0) := (blk_cell BK158.out 2).trans rfl; have hcz60_3 : w58.cell? ⟨gb158, 3, none⟩ = some (.slice none 0 0) := (blk_cell BK158.out 3).trans rfl; have hfz60_0 := blk_frozen BK158.out 0; have hfz60_1 := blk_frozen BK158.out 1; have hfz60_2 := blk_frozen BK158.out 2; have hfz60_3 := blk_frozen BK158.out 3; obtain ⟨Ao61, co61, eo61⟩ := Kd.R_slice HO155.out; subst eo61) | ((with_reducible refine gate_callee (f := 23) rfl ?_); refine goesL_ (some 69) rfl rfl Tryd.func23 (by kernel_rfl) rfl #[] rfl (by (try simp only [List.map_toArray, List.map_cons, List.map_nil]); first | done | rfl | (simp only [List.length_drop, List.length_take]; rfl)) ?_; (with_reducible refine (doorwardlaw15_alive.calls  false _ ?side1 A38.out).mono ?_); (case side1 => exact LaidAt.of HLD.out (by repeat (first | (with_reducible first | exact HB.out | apply below_alloc | apply pw_below_drewN | apply below_drew1 | refine below_set ?_ GE147.out | refine below_set ?_ GE158.out) | exact HB.out))); rintro e w62 ⟨rfl, hb⟩; refine ⟨_, rfl, ?_⟩; have n0_ := Aside0.mk (Kd.R_below (by (with_reducible repeat (first | apply Kd.R_alloc | apply Kd.R_drewN | apply Kd.R_drew)); exact (Kd.R_mono (Kd.R_far (p := ⟨gb158, 3, none⟩) (Kd.R_far (p := ⟨gb158, 2, none⟩) (Kd.R_far (p := ⟨gb158, 1, none⟩) (Kd.R_far (p := ⟨gb158, 0, none⟩) (Kd.R_types HO_148003.out BK158.out (by decide)) (fun _ hk => hk.2) (.string t150)) (fun _ hk => hk.2) (.string t151)) (fun _ hk => hk.2) (.int .u64 t152)) (fun _ hk => hk.2) (.slice Ao61 t153.length co61)) (fun _ h_ => h_.1))) hb); have n1_ := Aside0.mk (Kd.R_below (by (with_reducible repeat (first | apply Kd.R_alloc | apply Kd.R_drewN | apply Kd.R_drew)); exact (Kd.R_mono (Kd.R_far (p := ⟨gb158, 3, none⟩) (Kd.R_far (p := ⟨gb158, 2, none⟩) (Kd.R_far (p := ⟨gb158, 1, none⟩) (Kd.R_far (p := ⟨gb158, 0, none⟩) (Kd.R_types HO155.out BK158.out (by decide)) (fun _ hk => hk.2) (.string t150)) (fun _ hk => hk.2) (.string t151)) (fun _ hk => hk.2) (.int .u64 t152)) (fun _ hk => hk.2) (.slice Ao61 t153.length co61)) (fun _ h_ => h_.1))) hb); have n2_ := Aside0.mk (blk_below (g := gb147) (o := .cells #[.string t139, .string t140, .int .u64 t141, .slice Ao9 t142.length co9] 41 (0, 0)) (by (with_reducible repeat (first | refine blk_drewN ?_ _ | refine blk_drew ?_ | refine blk_alloc ?_ _)); refine blk_far ?_ NB147_158.out _; (with_reducible repeat (first | refine blk_drewN ?_ _ | refine blk_drew ?_ | refine blk_alloc ?_ _)); refine blk_far ?_ NB147_158.out _; (with_reducible repeat (first | refine blk_drewN ?_ _ | refine blk_drew ?_ | refine blk_alloc ?_ _)); refine blk_far ?_ NB147_158.out _; (with_reducible repeat (first | refine blk_drewN ?_ _ | refine blk_drew ?_ | refine blk_alloc ?_ _)); refine blk_far ?_ NB147_158.out _; (with_reducible repeat (first | refine blk_drewN ?_ _ | refine blk_drew ?_ | refine blk_alloc ?_ _)); exact BK147.out) hb); have n3_ := Aside0.mk (blk_below (g := gb158) (o := .cells #[.string t150, .string t151, .int .u64 t152, .slice Ao61 t153.length co61] 41 (0, 0)) (by (with_reducible repeat (first | refine blk_drewN ?_ _ | refine blk_drew ?_ | refine blk_alloc ?_ _)); refine blk_put (cs := #[.string t150, .string t151, .int .u64 t152, .slice none 0 0]) ?_ 3 _ rfl; (with_reducible repeat (first | refine blk_drewN ?_ _ | refine blk_drew ?_ | refine blk_alloc ?_ _)); refine blk_put (cs := #[.string t150, .string t151, .int .u64 0, .slice none 0 0]) ?_ 2 _ rfl; (with_reducible repeat (first | refine blk_drewN ?_ _ | refine blk_drew ?_ | refine blk_alloc ?_ _)); refine blk_put (cs := #[.string t150, .string (⟨#[]⟩ : ByteArray), .int .u64 0, .slice none 0 0]) ?_ 1 _ rfl; (with_reducible repeat (first | refine blk_drewN ?_ _ | refine blk_drew ?_ | refine blk_alloc ?_ _)); refine blk_put (cs := #[.string (⟨#[]⟩ : ByteArray), .string (⟨#[]⟩ : ByteArray), .int .u64 0, .slice none 0 0]) ?_ 0 _ rfl; (with_reducible repeat (first | refine blk_drewN ?_ _ | refine blk_drew ?_ | refine blk_alloc ?_ _)); exact BK158.out) hb); have n4_ := Aside0.mk (below_step (by repeat (first | (with_reducible first | exact HB.out | apply below_alloc | apply pw_below_drewN | apply below_drew1 | refine below_set ?_ GE147.out | refine below_set ?_ GE158.out) | exact HB.out)) hb); clear HO_148003; clear HO155; clear BK147; clear BK158; clear HB; have HO_148003 := n0_; have HO155 := n1_; have BK147 := n2_; have BK158 := n3_; have HB := n4_; clear n0_ n1_ n2_ n3_ n4_; (try clear hb); (try clear hb2); (try clear hk); (try clear hi)))
                    go_ret
                    exact ⟨by first | rfl | (simp [errW_none, errW_some] <;> rfl) | (simp only [← hji2]; first | rfl | (simp [errW_none, errW_some] <;> rfl)) | (simp [*, errW_none, errW_some] <;> rfl), by repeat (first | (with_reducible first | exact HB.out | apply below_alloc | apply pw_below_drewN | apply below_drew1 | refine below_set ?_ GE147.out | refine below_set ?_ GE158.out) | exact HB.out)⟩
    · rw [if_neg c4] at H
      exact absurd H (by simp)
  · rw [if_neg c3] at H
    exact absurd H (by simp)

end Go.Proofs.YtdfjjimmnbijmaaDoor.PP

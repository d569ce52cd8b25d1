-- Written for this claim by myprint.py over the kit's print (functions of this session supplied)
import Derived.Test.YtdfjjimmnbijmaaDoorPPn
namespace Go.Proofs.YtdfjjimmnbijmaaDoor.PP
open Go.RowKit Go.Proofs.YtdfjjimmnbijmaaDoorW.PrintWords Go.Proofs.YtdfjjimmnbijmaaDoorW.PrintLast Go.Proofs.YtdfjjimmnbijmaaDoorW.PrintMore Go.Proofs.YtdfjjimmnbijmaaDoor.Base
attribute [local go_sem] max2_int min2_int max_two min_two max_three min_three max_four min_four   -- for this text's walks alone
set_option linter.unusedVariables false
set_option linter.unusedSimpArgs false

/-! ### doorwardref15_LikeCond: function 50 -/
mutual
def doorwardref15_LikeCond.j0 : Nat → Bool → Int → List (S47) → Int → Int → ByteArray → Int → Int → List (S47) → Int → Int → ByteArray → Int → Option (Bool)
 | 0, _, _, _, _, _, _, _, _, _, _, _, _, _ => none
 | k + 1, x47, x126000, x126001, x126002, x126003, x126004, x126005, x127000, x127001, x127002, x127003, x127004, x127005 => if x47 = true then (some false) else (doorwardref15_LikeCond.l0 k (x126001.length : Int) 0 x126000 x126001 x126002 x126003 x126004 x126005 x127000 x127001 x127002 x127003 x127004 x127005)
def doorwardref15_LikeCond.l0 : Nat → Int → Int → Int → List (S47) → Int → Int → ByteArray → Int → Int → List (S47) → Int → Int → ByteArray → Int → Option (Bool)
 | 0, _, _, _, _, _, _, _, _, _, _, _, _, _, _ => none
 | k + 1, x50, x51, x126000, x126001, x126002, x126003, x126004, x126005, x127000, x127001, x127002, x127003, x127004, x127005 => if x51 < x50 then (if 0 ≤ x51 then (if x51 < (x126001.length : Int) then (if x51 < (x127001.length : Int) then ((doorwardref15_LikeCond.f k ((rd_T47 x126001 x51).f0) ((rd_T47 x126001 x51).f1) ((rd_T47 x126001 x51).f2) ((rd_T47 x126001 x51).f3) ((rd_T47 x126001 x51).f4) ((rd_T47 x126001 x51).f5) ((rd_T47 x127001 x51).f0) ((rd_T47 x127001 x51).f1) ((rd_T47 x127001 x51).f2) ((rd_T47 x127001 x51).f3) ((rd_T47 x127001 x51).f4) ((rd_T47 x127001 x51).f5)).bind fun t129 => (if t129 = true then (doorwardref15_LikeCond.l0 k x50 (wrap64 (x51 + 1)) x126000 x126001 x126002 x126003 x126004 x126005 x127000 x127001 x127002 x127003 x127004 x127005) else (some false))) else (none)) else (none)) else (none)) else (some true)
def doorwardref15_LikeCond.f : Nat → Int → List (S47) → Int → Int → ByteArray → Int → Int → List (S47) → Int → Int → ByteArray → Int → Option (Bool)
 | 0, _, _, _, _, _, _, _, _, _, _, _, _ => none
 | k + 1, a0_0, l0_1, a0_2, a0_3, a0_4, a0_5, a1_0, l1_1, a1_2, a1_3, a1_4, a1_5 => if a0_0 = a1_0 then (if a0_2 = a1_2 then (if a0_3 = a1_3 then (if a0_4.toList = a1_4.toList then (if a0_5 = a1_5 then (doorwardref15_LikeCond.j0 k ((l0_1.length : Int) != (l1_1.length : Int)) a0_0 l0_1 a0_2 a0_3 a0_4 a0_5 a1_0 l1_1 a1_2 a1_3 a1_4 a1_5) else (doorwardref15_LikeCond.j0 k true a0_0 l0_1 a0_2 a0_3 a0_4 a0_5 a1_0 l1_1 a1_2 a1_3 a1_4 a1_5)) else (doorwardref15_LikeCond.j0 k true a0_0 l0_1 a0_2 a0_3 a0_4 a0_5 a1_0 l1_1 a1_2 a1_3 a1_4 a1_5)) else (doorwardref15_LikeCond.j0 k true a0_0 l0_1 a0_2 a0_3 a0_4 a0_5 a1_0 l1_1 a1_2 a1_3 a1_4 a1_5)) else (doorwardref15_LikeCond.j0 k true a0_0 l0_1 a0_2 a0_3 a0_4 a0_5 a1_0 l1_1 a1_2 a1_3 a1_4 a1_5)) else (doorwardref15_LikeCond.j0 k true a0_0 l0_1 a0_2 a0_3 a0_4 a0_5 a1_0 l1_1 a1_2 a1_3 a1_4 a1_5)
end
theorem doorwardref15_LikeCond.mono_l : ∀ k, (∀ y0 y1 y2 y3 y4 y5 y6 y7 y8 y9 y10 y11, LeO (doorwardref15_LikeCond.f k y0 y1 y2 y3 y4 y5 y6 y7 y8 y9 y10 y11) (doorwardref15_LikeCond.f (k + 1) y0 y1 y2 y3 y4 y5 y6 y7 y8 y9 y10 y11)) ∧ (∀ y0 y1 y2 y3 y4 y5 y6 y7 y8 y9 y10 y11 y12, LeO (doorwardref15_LikeCond.j0 k y0 y1 y2 y3 y4 y5 y6 y7 y8 y9 y10 y11 y12) (doorwardref15_LikeCond.j0 (k + 1) y0 y1 y2 y3 y4 y5 y6 y7 y8 y9 y10 y11 y12)) ∧ (∀ y0 y1 y2 y3 y4 y5 y6 y7 y8 y9 y10 y11 y12 y13, LeO (doorwardref15_LikeCond.l0 k y0 y1 y2 y3 y4 y5 y6 y7 y8 y9 y10 y11 y12 y13) (doorwardref15_LikeCond.l0 (k + 1) y0 y1 y2 y3 y4 y5 y6 y7 y8 y9 y10 y11 y12 y13))
 | 0 => ⟨fun _ _ _ _ _ _ _ _ _ _ _ _ r h => by simp [doorwardref15_LikeCond.f] at h, fun _ _ _ _ _ _ _ _ _ _ _ _ _ r h => by simp [doorwardref15_LikeCond.j0] at h, fun _ _ _ _ _ _ _ _ _ _ _ _ _ _ r h => by simp [doorwardref15_LikeCond.l0] at h⟩
 | k + 1 => by
  obtain ⟨ih0, ih1, ih2⟩ := doorwardref15_LikeCond.mono_l k
  refine ⟨?_, ?_, ?_⟩
  ·intro y0 y1 y2 y3 y4 y5 y6 y7 y8 y9 y10 y11
   unfold doorwardref15_LikeCond.f
   repeat' first
   | (with_reducible exact ih0 _ _ _ _ _ _ _ _ _ _ _ _)
   | (with_reducible exact ih1 _ _ _ _ _ _ _ _ _ _ _ _ _)
   | (with_reducible exact ih2 _ _ _ _ _ _ _ _ _ _ _ _ _ _)
   | (with_reducible exact LeO.refl _)
   | (with_reducible exact LeO.none _)
   | (with_reducible refine LeO.ite ?_ ?_)
   | (with_reducible refine LeO.bind ?_ (fun _ => ?_))
   | exact ih0 _ _ _ _ _ _ _ _ _ _ _ _
   | exact ih1 _ _ _ _ _ _ _ _ _ _ _ _ _
   | exact ih2 _ _ _ _ _ _ _ _ _ _ _ _ _ _
   | exact LeO.none _
   | refine LeO.ite ?_ ?_
   | refine LeO.bind ?_ (fun _ => ?_)
  ·intro y0 y1 y2 y3 y4 y5 y6 y7 y8 y9 y10 y11 y12
   unfold doorwardref15_LikeCond.j0
   repeat' first
   | (with_reducible exact ih0 _ _ _ _ _ _ _ _ _ _ _ _)
   | (with_reducible exact ih1 _ _ _ _ _ _ _ _ _ _ _ _ _)
   | (with_reducible exact ih2 _ _ _ _ _ _ _ _ _ _ _ _ _ _)
   | (with_reducible exact LeO.refl _)
   | (with_reducible exact LeO.none _)
   | (with_reducible refine LeO.ite ?_ ?_)
   | (with_reducible refine LeO.bind ?_ (fun _ => ?_))
   | exact ih0 _ _ _ _ _ _ _ _ _ _ _ _
   | exact ih1 _ _ _ _ _ _ _ _ _ _ _ _ _
   | exact ih2 _ _ _ _ _ _ _ _ _ _ _ _ _ _
   | exact LeO.none _
   | refine LeO.ite ?_ ?_
   | refine LeO.bind ?_ (fun _ => ?_)
  ·intro y0 y1 y2 y3 y4 y5 y6 y7 y8 y9 y10 y11 y12 y13
   unfold doorwardref15_LikeCond.l0
   repeat' first
   | (with_reducible exact ih0 _ _ _ _ _ _ _ _ _ _ _ _)
   | (with_reducible exact ih1 _ _ _ _ _ _ _ _ _ _ _ _ _)
   | (with_reducible exact ih2 _ _ _ _ _ _ _ _ _ _ _ _ _ _)
   | (with_reducible exact LeO.refl _)
   | (with_reducible exact LeO.none _)
   | (with_reducible refine LeO.ite ?_ ?_)
   | (with_reducible refine LeO.bind ?_ (fun _ => ?_))
   | exact ih0 _ _ _ _ _ _ _ _ _ _ _ _
   | exact ih1 _ _ _ _ _ _ _ _ _ _ _ _ _
   | exact ih2 _ _ _ _ _ _ _ _ _ _ _ _ _ _
   | exact LeO.none _
   | refine LeO.ite ?_ ?_
   | refine LeO.bind ?_ (fun _ => ?_)
theorem doorwardref15_LikeCond.mono : ∀ a0 a1 a2 a3 a4 a5 a6 a7 a8 a9 a10 a11 k, LeO (doorwardref15_LikeCond.f k a0 a1 a2 a3 a4 a5 a6 a7 a8 a9 a10 a11) (doorwardref15_LikeCond.f (k + 1) a0 a1 a2 a3 a4 a5 a6 a7 a8 a9 a10 a11) := by
 intro a0 a1 a2 a3 a4 a5 a6 a7 a8 a9 a10 a11 k
 obtain ⟨ih0, ih1, ih2⟩ := doorwardref15_LikeCond.mono_l k
 exact ih0 a0 a1 a2 a3 a4 a5 a6 a7 a8 a9 a10 a11
def doorwardref15_LikeCond.T6 : Bool × List (List Nat × List Nat) := (true, [([], []), ([0], [0]), ([], []), ([1, 2], [1, 2]), ([3], [3]), ([], []), ([5], [5]), ([], []), ([6, 7], [6, 7]), ([8], [8]), ([4, 9], [4, 9]), ([10], [10])])
def doorwardref15_LikeCond.B6 : List Nat := [0, 1, 0, 7, 15, 0, 32, 0, 224, 480, 1023, 2047]
theorem doorwardref15_LikeCond.tab6 : rtab .any (opsOf Tryd.f50 6) = doorwardref15_LikeCond.T6 := by kernel_rfl
theorem doorwardref15_LikeCond.bits6 : waitsOk doorwardref15_LikeCond.T6.2 doorwardref15_LikeCond.B6 = true := by kernel_rfl
set_option maxHeartbeats 8000000 in
set_option maxRecDepth 100000 in
theorem doorwardref15_LikeCond.calls (k : Nat) : ∀ (a0_0 : Int) (A0_1 : Option Addr) (c0_1 : Nat) (l0_1 : List (S47)) (a0_2 : Int) (a0_3 : Int) (a0_4 : ByteArray) (a0_5 : Int) (a1_0 : Int) (A1_1 : Option Addr) (c1_1 : Nat) (l1_1 : List (S47)) (a1_2 : Int) (a1_3 : Int) (a1_4 : ByteArray) (a1_5 : Int) (r : Bool) (w : World) (hr0_1 : Kd.C k47 w A0_1 l0_1.length l0_1) (hc0_1 : l0_1.length ≤ c0_1) (hr1_1 : Kd.C k47 w A1_1 l1_1.length l1_1) (hc1_1 : l1_1.length ≤ c1_1) (hLd : LaidAt w) (h : doorwardref15_LikeCond.f k a0_0 l0_1 a0_2 a0_3 a0_4 a0_5 a1_0 l1_1 a1_2 a1_3 a1_4 a1_5 = some r),
  Calls Tryd.prog 50 #[.agg #[.int .i64 a0_0,.slice A0_1 l0_1.length c0_1,.int .i64 a0_2,.int .u64 a0_3,.string a0_4,.int .u64 a0_5],.agg #[.int .i64 a1_0,.slice A1_1 l1_1.length c1_1,.int .i64 a1_2,.int .u64 a1_3,.string a1_4,.int .u64 a1_5]] w fun e w' => e = .returned (.bool r) ∧ Below w.heap.size w w':=by
 induction k using Nat.strongRecOn with
 | _ k ih =>
 intro a0_0 A0_1 c0_1 l0_1 a0_2 a0_3 a0_4 a0_5 a1_0 A1_1 c1_1 l1_1 a1_2 a1_3 a1_4 a1_5 r w hr0_1 hc0_1 hr1_1 hc1_1 hLd h
 cases k with
 | zero => exact absurd h (by simp [doorwardref15_LikeCond.f])
 | succ k =>
 simp only [doorwardref15_LikeCond.f] at h
 have hu47 := Tryd.underlying47
 have HLD := Aside0.mk hLd
 clear hLd
 have HR0_1 := Aside0.mk hr0_1
 have HC0_1 := Aside0.mk hc0_1
 clear hr0_1 hc0_1
 have HR1_1 := Aside0.mk hr1_1
 have HC1_1 := Aside0.mk hc1_1
 clear hr1_1 hc1_1
 have HB := Aside0.mk (Below.refl w.heap.size w)
 have H:(if a0_0 = a1_0 then (if a0_2 = a1_2 then (if a0_3 = a1_3 then (if a0_4.toList = a1_4.toList then (if a0_5 = a1_5 then (doorwardref15_LikeCond.j0 k ((l0_1.length:Int) != (l1_1.length:Int)) a0_0 l0_1 a0_2 a0_3 a0_4 a0_5 a1_0 l1_1 a1_2 a1_3 a1_4 a1_5) else (doorwardref15_LikeCond.j0 k true a0_0 l0_1 a0_2 a0_3 a0_4 a0_5 a1_0 l1_1 a1_2 a1_3 a1_4 a1_5)) else (doorwardref15_LikeCond.j0 k true a0_0 l0_1 a0_2 a0_3 a0_4 a0_5 a1_0 l1_1 a1_2 a1_3 a1_4 a1_5)) else (doorwardref15_LikeCond.j0 k true a0_0 l0_1 a0_2 a0_3 a0_4 a0_5 a1_0 l1_1 a1_2 a1_3 a1_4 a1_5)) else (doorwardref15_LikeCond.j0 k true a0_0 l0_1 a0_2 a0_3 a0_4 a0_5 a1_0 l1_1 a1_2 a1_3 a1_4 a1_5)) else (doorwardref15_LikeCond.j0 k true a0_0 l0_1 a0_2 a0_3 a0_4 a0_5 a1_0 l1_1 a1_2 a1_3 a1_4 a1_5)) = some r:=h
 clear h
 have HC3 := Aside0.mk H
 clear H
 go_enter Tryd.func50, Tryd.ntmps50
 go_upto_region 1 with (first|((with_reducible refine gate_dst (N:=2) rfl ?_);(try (refine gate_guard (by rfl) ?_;dsimp only));refine box_event ?hg (N:=2) ?hd (cs:=#[.int .i64 a0_0,.slice A0_1 l0_1.length c0_1,.int .i64 a0_2,.int .u64 a0_3,.string a0_4,.int .u64 a0_5]) (t:=47) ?hr ?_;(case hd => rfl);(case hg => rfl);(case hr => first|(go_simp;done)|(go_simp;rfl));intro gb125 hg w4 hbox hb;have n0_:=Aside0.mk (below_step (by repeat (with_reducible first|exact HB.out|apply below_alloc|apply pw_below_drewN|apply below_drew1)) hb);have n1_:=Aside0.mk (hbox);have n2_:=Aside0.mk ((by rw [hg];exact (below_size (by repeat (with_reducible first|exact HB.out|apply below_alloc|apply pw_below_drewN|apply below_drew1))):w.heap.size ≤ gb125));have n3_:=Aside0.mk ((by rw [hg];exact (below_size (by repeat (with_reducible first|exact HB.out|apply below_alloc|apply pw_below_drewN|apply below_drew1))):w.heap.size ≤ gb125));clear HB;have HB:=n0_;have BK125:=n1_;have GW125:=n2_;have GE125:=n3_;clear n0_ n1_ n2_ n3_;clear hb hbox hg)|((with_reducible refine gate_dst (N:=3) rfl ?_);(try (refine gate_guard (by rfl) ?_;dsimp only));refine box_event ?hg (N:=3) ?hd (cs:=#[.int .i64 a1_0,.slice A1_1 l1_1.length c1_1,.int .i64 a1_2,.int .u64 a1_3,.string a1_4,.int .u64 a1_5]) (t:=47) ?hr ?_;(case hd => rfl);(case hg => rfl);(case hr => first|(go_simp;done)|(go_simp;rfl));intro gb126 hg w5 hbox hb;have n0_:=Aside0.mk (blk_below (g:=gb125) (o:=.cells #[.int .i64 a0_0,.slice A0_1 l0_1.length c0_1,.int .i64 a0_2,.int .u64 a0_3,.string a0_4,.int .u64 a0_5] 47 (0,0)) (by (with_reducible repeat first|apply blk_drewN|apply blk_drew|apply blk_alloc);exact BK125.out) hb);have n1_:=Aside0.mk (below_step (by repeat (first|(with_reducible first|exact HB.out|apply below_alloc|apply pw_below_drewN|apply below_drew1|refine below_set ?_ GE125.out)|exact HB.out)) hb);have n2_:=Aside0.mk (hbox);have n3_:=Aside0.mk ((by rw [hg];exact (below_size (by repeat (first|(with_reducible first|exact HB.out|apply below_alloc|apply pw_below_drewN|apply below_drew1|refine below_set ?_ GE125.out)|exact HB.out))):w.heap.size ≤ gb126));have n4_:=Aside0.mk ((by rw [hg];exact (below_size (by repeat (first|(with_reducible first|exact HB.out|apply below_alloc|apply pw_below_drewN|apply below_drew1|refine below_set ?_ GE125.out)|exact HB.out))):w.heap.size ≤ gb126));have n5_:=Aside0.mk ((by rw [hg];exact Nat.ne_of_lt (blk_lt (g:=gb125) (o:=.cells #[.int .i64 a0_0,.slice A0_1 l0_1.length c0_1,.int .i64 a0_2,.int .u64 a0_3,.string a0_4,.int .u64 a0_5] 47 (0,0)) (by (with_reducible repeat first|apply blk_drewN|apply blk_drew|apply blk_alloc);exact BK125.out)):gb125 ≠ gb126));have n6_:=Aside0.mk ((by rw [hg];exact Nat.ne_of_gt (blk_lt (g:=gb125) (o:=.cells #[.int .i64 a0_0,.slice A0_1 l0_1.length c0_1,.int .i64 a0_2,.int .u64 a0_3,.string a0_4,.int .u64 a0_5] 47 (0,0)) (by (with_reducible repeat first|apply blk_drewN|apply blk_drew|apply blk_alloc);exact BK125.out)):gb126 ≠ gb125));clear BK125;clear HB;have BK125:=n0_;have HB:=n1_;have BK126:=n2_;have GW126:=n3_;have GE126:=n4_;have NB125_126:=n5_;have NB126_125:=n6_;clear n0_ n1_ n2_ n3_ n4_ n5_ n6_;clear hb hbox hg))
 (try simp only [Act.put, List.setIfInBounds_toArray, List.set_cons_zero, List.set_cons_succ])
 go_cut [47] (fun v47 wc => ∃ (kq:Nat) (x47_2:Bool),v47 = .bool x47_2 ∧ Aside0 (doorwardref15_LikeCond.j0 kq x47_2 a0_0 l0_1 a0_2 a0_3 a0_4 a0_5 a1_0 l1_1 a1_2 a1_3 a1_4 a1_5 = some r) ∧ Aside0 (kq ≤ k) ∧ Aside0 (wc.heap[gb125]? = some (.cells #[.int .i64 a0_0,(.slice A0_1 l0_1.length c0_1),.int .i64 a0_2,.int .u64 a0_3,.string a0_4,.int .u64 a0_5] 47 (0,0))) ∧ Aside0 (wc.heap[gb126]? = some (.cells #[.int .i64 a1_0,(.slice A1_1 l1_1.length c1_1),.int .i64 a1_2,.int .u64 a1_3,.string a1_4,.int .u64 a1_5] 47 (0,0))) ∧ Aside0 (Below w.heap.size w wc))
 case first =>
  have H := HC3.out
  clear HC3
  by_cases c6 : a0_0 = a1_0
  ·rw [if_pos c6] at H
   have c6b0 : (a0_0 == a1_0) = true := beq_iff_eq.mpr c6
   have c6b1 : (a0_0 != a1_0) = false := bne_eq_false_iff_eq.mpr c6
   clear c6
   (first | rw [c6b0] | (simp only [i64_w, i32_w]; rw [c6b0]) | skip)
   by_cases c7 : a0_2 = a1_2
   ·rw [if_pos c7] at H
    have c7b0 : (a0_2 == a1_2) = true := beq_iff_eq.mpr c7
    have c7b1 : (a0_2 != a1_2) = false := bne_eq_false_iff_eq.mpr c7
    clear c7
    by_cases c8 : a0_3 = a1_3
    ·rw [if_pos c8] at H
     have c8b0 : (a0_3 == a1_3) = true := beq_iff_eq.mpr c8
     have c8b1 : (a0_3 != a1_3) = false := bne_eq_false_iff_eq.mpr c8
     clear c8
     by_cases c9 : a0_4.toList = a1_4.toList
     ·rw [if_pos c9] at H
      have c9b0 : (a0_4.toList == a1_4.toList) = true := beq_iff_eq.mpr c9
      have c9b1 : (a0_4.toList != a1_4.toList) = false := bne_eq_false_iff_eq.mpr c9
      clear c9
      by_cases c10 : a0_5 = a1_5
      ·rw [if_pos c10] at H
       have c10b0 : (a0_5 == a1_5) = true := beq_iff_eq.mpr c10
       have c10b1 : (a0_5 != a1_5) = false := bne_eq_false_iff_eq.mpr c10
       clear c10
       have H' := Aside0.mk H
       clear H
       have hnb11 := NB125_126.out
       have hnc11 := NB126_125.out
       have hcz12_0 : w5.cell? ⟨gb125, 0, none⟩ = some (.int .i64 a0_0) := (blk_cell BK125.out 0).trans rfl
       have hcz12_1 : w5.cell? ⟨gb125, 1, none⟩ = some (.slice A0_1 l0_1.length c0_1) := (blk_cell BK125.out 1).trans rfl
       have hcz12_2 : w5.cell? ⟨gb125, 2, none⟩ = some (.int .i64 a0_2) := (blk_cell BK125.out 2).trans rfl
       have hcz12_3 : w5.cell? ⟨gb125, 3, none⟩ = some (.int .u64 a0_3) := (blk_cell BK125.out 3).trans rfl
       have hcz12_4 : w5.cell? ⟨gb125, 4, none⟩ = some (.string a0_4) := (blk_cell BK125.out 4).trans rfl
       have hcz12_5 : w5.cell? ⟨gb125, 5, none⟩ = some (.int .u64 a0_5) := (blk_cell BK125.out 5).trans rfl
       have hfz12_0 := blk_frozen BK125.out 0
       have hfz12_1 := blk_frozen BK125.out 1
       have hfz12_2 := blk_frozen BK125.out 2
       have hfz12_3 := blk_frozen BK125.out 3
       have hfz12_4 := blk_frozen BK125.out 4
       have hfz12_5 := blk_frozen BK125.out 5
       have hcz13_0 : w5.cell? ⟨gb126, 0, none⟩ = some (.int .i64 a1_0) := (blk_cell BK126.out 0).trans rfl
       have hcz13_1 : w5.cell? ⟨gb126, 1, none⟩ = some (.slice A1_1 l1_1.length c1_1) := (blk_cell BK126.out 1).trans rfl
       have hcz13_2 : w5.cell? ⟨gb126, 2, none⟩ = some (.int .i64 a1_2) := (blk_cell BK126.out 2).trans rfl
       have hcz13_3 : w5.cell? ⟨gb126, 3, none⟩ = some (.int .u64 a1_3) := (blk_cell BK126.out 3).trans rfl
       have hcz13_4 : w5.cell? ⟨gb126, 4, none⟩ = some (.string a1_4) := (blk_cell BK126.out 4).trans rfl
       have hcz13_5 : w5.cell? ⟨gb126, 5, none⟩ = some (.int .u64 a1_5) := (blk_cell BK126.out 5).trans rfl
       have hfz13_0 := blk_frozen BK126.out 0
       have hfz13_1 := blk_frozen BK126.out 1
       have hfz13_2 := blk_frozen BK126.out 2
       have hfz13_3 := blk_frozen BK126.out 3
       have hfz13_4 := blk_frozen BK126.out 4
       have hfz13_5 := blk_frozen BK126.out 5
       go_wp2
       go_meet
       case rel => exact ⟨_,(((l0_1.length:Int) != (l1_1.length:Int))),(by first|rfl|(simp;done)|(simp [*];done)),H',⟨by first|omega|exact Nat.le_refl _⟩,⟨by (with_reducible repeat first|apply blk_drewN|apply blk_drew|apply blk_alloc);exact BK125.out⟩,⟨by (with_reducible repeat first|apply blk_drewN|apply blk_drew|apply blk_alloc);exact BK126.out⟩,⟨by repeat (first|(with_reducible first|exact HB.out|apply below_alloc|apply pw_below_drewN|apply below_drew1|refine below_set ?_ GE125.out|refine below_set ?_ GE126.out)|exact HB.out)⟩⟩
      ·rw [if_neg c10] at H
       have c10b0 : (a0_5 == a1_5) = false := beq_eq_false_iff_ne.mpr c10
       have c10b1 : (a0_5 != a1_5) = true := bne_iff_ne.mpr c10
       have H' := Aside0.mk H
       clear H
       have hnb14 := NB125_126.out
       have hnc14 := NB126_125.out
       have hcz15_0 : w5.cell? ⟨gb125, 0, none⟩ = some (.int .i64 a0_0) := (blk_cell BK125.out 0).trans rfl
       have hcz15_1 : w5.cell? ⟨gb125, 1, none⟩ = some (.slice A0_1 l0_1.length c0_1) := (blk_cell BK125.out 1).trans rfl
       have hcz15_2 : w5.cell? ⟨gb125, 2, none⟩ = some (.int .i64 a0_2) := (blk_cell BK125.out 2).trans rfl
       have hcz15_3 : w5.cell? ⟨gb125, 3, none⟩ = some (.int .u64 a0_3) := (blk_cell BK125.out 3).trans rfl
       have hcz15_4 : w5.cell? ⟨gb125, 4, none⟩ = some (.string a0_4) := (blk_cell BK125.out 4).trans rfl
       have hcz15_5 : w5.cell? ⟨gb125, 5, none⟩ = some (.int .u64 a0_5) := (blk_cell BK125.out 5).trans rfl
       have hfz15_0 := blk_frozen BK125.out 0
       have hfz15_1 := blk_frozen BK125.out 1
       have hfz15_2 := blk_frozen BK125.out 2
       have hfz15_3 := blk_frozen BK125.out 3
       have hfz15_4 := blk_frozen BK125.out 4
       have hfz15_5 := blk_frozen BK125.out 5
       have hcz16_0 : w5.cell? ⟨gb126, 0, none⟩ = some (.int .i64 a1_0) := (blk_cell BK126.out 0).trans rfl
       have hcz16_1 : w5.cell? ⟨gb126, 1, none⟩ = some (.slice A1_1 l1_1.length c1_1) := (blk_cell BK126.out 1).trans rfl
       have hcz16_2 : w5.cell? ⟨gb126, 2, none⟩ = some (.int .i64 a1_2) := (blk_cell BK126.out 2).trans rfl
       have hcz16_3 : w5.cell? ⟨gb126, 3, none⟩ = some (.int .u64 a1_3) := (blk_cell BK126.out 3).trans rfl
       have hcz16_4 : w5.cell? ⟨gb126, 4, none⟩ = some (.string a1_4) := (blk_cell BK126.out 4).trans rfl
       have hcz16_5 : w5.cell? ⟨gb126, 5, none⟩ = some (.int .u64 a1_5) := (blk_cell BK126.out 5).trans rfl
       have hfz16_0 := blk_frozen BK126.out 0
       have hfz16_1 := blk_frozen BK126.out 1
       have hfz16_2 := blk_frozen BK126.out 2
       have hfz16_3 := blk_frozen BK126.out 3
       have hfz16_4 := blk_frozen BK126.out 4
       have hfz16_5 := blk_frozen BK126.out 5
       go_wp2
       go_meet
       case rel => exact ⟨_,(true),(by first|rfl|(simp;done)|(simp [*];done)),H',⟨by first|omega|exact Nat.le_refl _⟩,⟨by (with_reducible repeat first|apply blk_drewN|apply blk_drew|apply blk_alloc);exact BK125.out⟩,⟨by (with_reducible repeat first|apply blk_drewN|apply blk_drew|apply blk_alloc);exact BK126.out⟩,⟨by repeat (first|(with_reducible first|exact HB.out|apply below_alloc|apply pw_below_drewN|apply below_drew1|refine below_set ?_ GE125.out|refine below_set ?_ GE126.out)|exact HB.out)⟩⟩
     ·rw [if_neg c9] at H
      have c9b0 : (a0_4.toList == a1_4.toList) = false := beq_eq_false_iff_ne.mpr c9
      have c9b1 : (a0_4.toList != a1_4.toList) = true := bne_iff_ne.mpr c9
      have H' := Aside0.mk H
      clear H
      have hnb17 := NB125_126.out
      have hnc17 := NB126_125.out
      have hcz18_0 : w5.cell? ⟨gb125, 0, none⟩ = some (.int .i64 a0_0) := (blk_cell BK125.out 0).trans rfl
      have hcz18_1 : w5.cell? ⟨gb125, 1, none⟩ = some (.slice A0_1 l0_1.length c0_1) := (blk_cell BK125.out 1).trans rfl
      have hcz18_2 : w5.cell? ⟨gb125, 2, none⟩ = some (.int .i64 a0_2) := (blk_cell BK125.out 2).trans rfl
      have hcz18_3 : w5.cell? ⟨gb125, 3, none⟩ = some (.int .u64 a0_3) := (blk_cell BK125.out 3).trans rfl
      have hcz18_4 : w5.cell? ⟨gb125, 4, none⟩ = some (.string a0_4) := (blk_cell BK125.out 4).trans rfl
      have hcz18_5 : w5.cell? ⟨gb125, 5, none⟩ = some (.int .u64 a0_5) := (blk_cell BK125.out 5).trans rfl
      have hfz18_0 := blk_frozen BK125.out 0
      have hfz18_1 := blk_frozen BK125.out 1
      have hfz18_2 := blk_frozen BK125.out 2
      have hfz18_3 := blk_frozen BK125.out 3
      have hfz18_4 := blk_frozen BK125.out 4
      have hfz18_5 := blk_frozen BK125.out 5
      have hcz19_0 : w5.cell? ⟨gb126, 0, none⟩ = some (.int .i64 a1_0) := (blk_cell BK126.out 0).trans rfl
      have hcz19_1 : w5.cell? ⟨gb126, 1, none⟩ = some (.slice A1_1 l1_1.length c1_1) := (blk_cell BK126.out 1).trans rfl
      have hcz19_2 : w5.cell? ⟨gb126, 2, none⟩ = some (.int .i64 a1_2) := (blk_cell BK126.out 2).trans rfl
      have hcz19_3 : w5.cell? ⟨gb126, 3, none⟩ = some (.int .u64 a1_3) := (blk_cell BK126.out 3).trans rfl
      have hcz19_4 : w5.cell? ⟨gb126, 4, none⟩ = some (.string a1_4) := (blk_cell BK126.out 4).trans rfl
      have hcz19_5 : w5.cell? ⟨gb126, 5, none⟩ = some (.int .u64 a1_5) := (blk_cell BK126.out 5).trans rfl
      have hfz19_0 := blk_frozen BK126.out 0
      have hfz19_1 := blk_frozen BK126.out 1
      have hfz19_2 := blk_frozen BK126.out 2
      have hfz19_3 := blk_frozen BK126.out 3
      have hfz19_4 := blk_frozen BK126.out 4
      have hfz19_5 := blk_frozen BK126.out 5
      go_wp2
      go_meet
      case rel => exact ⟨_,(true),(by first|rfl|(simp;done)|(simp [*];done)),H',⟨by first|omega|exact Nat.le_refl _⟩,⟨by (with_reducible repeat first|apply blk_drewN|apply blk_drew|apply blk_alloc);exact BK125.out⟩,⟨by (with_reducible repeat first|apply blk_drewN|apply blk_drew|apply blk_alloc);exact BK126.out⟩,⟨by repeat (first|(with_reducible first|exact HB.out|apply below_alloc|apply pw_below_drewN|apply below_drew1|refine below_set ?_ GE125.out|refine below_set ?_ GE126.out)|exact HB.out)⟩⟩
    ·rw [if_neg c8] at H
     have c8b0 : (a0_3 == a1_3) = false := beq_eq_false_iff_ne.mpr c8
     have c8b1 : (a0_3 != a1_3) = true := bne_iff_ne.mpr c8
     have H' := Aside0.mk H
     clear H
     have hnb20 := NB125_126.out
     have hnc20 := NB126_125.out
     have hcz21_0 : w5.cell? ⟨gb125, 0, none⟩ = some (.int .i64 a0_0) := (blk_cell BK125.out 0).trans rfl
     have hcz21_1 : w5.cell? ⟨gb125, 1, none⟩ = some (.slice A0_1 l0_1.length c0_1) := (blk_cell BK125.out 1).trans rfl
     have hcz21_2 : w5.cell? ⟨gb125, 2, none⟩ = some (.int .i64 a0_2) := (blk_cell BK125.out 2).trans rfl
     have hcz21_3 : w5.cell? ⟨gb125, 3, none⟩ = some (.int .u64 a0_3) := (blk_cell BK125.out 3).trans rfl
     have hcz21_4 : w5.cell? ⟨gb125, 4, none⟩ = some (.string a0_4) := (blk_cell BK125.out 4).trans rfl
     have hcz21_5 : w5.cell? ⟨gb125, 5, none⟩ = some (.int .u64 a0_5) := (blk_cell BK125.out 5).trans rfl
     have hfz21_0 := blk_frozen BK125.out 0
     have hfz21_1 := blk_frozen BK125.out 1
     have hfz21_2 := blk_frozen BK125.out 2
     have hfz21_3 := blk_frozen BK125.out 3
     have hfz21_4 := blk_frozen BK125.out 4
     have hfz21_5 := blk_frozen BK125.out 5
     have hcz22_0 : w5.cell? ⟨gb126, 0, none⟩ = some (.int .i64 a1_0) := (blk_cell BK126.out 0).trans rfl
     have hcz22_1 : w5.cell? ⟨gb126, 1, none⟩ = some (.slice A1_1 l1_1.length c1_1) := (blk_cell BK126.out 1).trans rfl
     have hcz22_2 : w5.cell? ⟨gb126, 2, none⟩ = some (.int .i64 a1_2) := (blk_cell BK126.out 2).trans rfl
     have hcz22_3 : w5.cell? ⟨gb126, 3, none⟩ = some (.int .u64 a1_3) := (blk_cell BK126.out 3).trans rfl
     have hcz22_4 : w5.cell? ⟨gb126, 4, none⟩ = some (.string a1_4) := (blk_cell BK126.out 4).trans rfl
     have hcz22_5 : w5.cell? ⟨gb126, 5, none⟩ = some (.int .u64 a1_5) := (blk_cell BK126.out 5).trans rfl
     have hfz22_0 := blk_frozen BK126.out 0
     have hfz22_1 := blk_frozen BK126.out 1
     have hfz22_2 := blk_frozen BK126.out 2
     have hfz22_3 := blk_frozen BK126.out 3
     have hfz22_4 := blk_frozen BK126.out 4
     have hfz22_5 := blk_frozen BK126.out 5
     go_wp2
     go_meet
     case rel => exact ⟨_,(true),(by first|rfl|(simp;done)|(simp [*];done)),H',⟨by first|omega|exact Nat.le_refl _⟩,⟨by (with_reducible repeat first|apply blk_drewN|apply blk_drew|apply blk_alloc);exact BK125.out⟩,⟨by (with_reducible repeat first|apply blk_drewN|apply blk_drew|apply blk_alloc);exact BK126.out⟩,⟨by repeat (first|(with_reducible first|exact HB.out|apply below_alloc|apply pw_below_drewN|apply below_drew1|refine below_set ?_ GE125.out|refine below_set ?_ GE126.out)|exact HB.out)⟩⟩
   ·rw [if_neg c7] at H
    have c7b0 : (a0_2 == a1_2) = false := beq_eq_false_iff_ne.mpr c7
    have c7b1 : (a0_2 != a1_2) = true := bne_iff_ne.mpr c7
    have H' := Aside0.mk H
    clear H
    have hnb23 := NB125_126.out
    have hnc23 := NB126_125.out
    have hcz24_0 : w5.cell? ⟨gb125, 0, none⟩ = some (.int .i64 a0_0) := (blk_cell BK125.out 0).trans rfl
    have hcz24_1 : w5.cell? ⟨gb125, 1, none⟩ = some (.slice A0_1 l0_1.length c0_1) := (blk_cell BK125.out 1).trans rfl
    have hcz24_2 : w5.cell? ⟨gb125, 2, none⟩ = some (.int .i64 a0_2) := (blk_cell BK125.out 2).trans rfl
    have hcz24_3 : w5.cell? ⟨gb125, 3, none⟩ = some (.int .u64 a0_3) := (blk_cell BK125.out 3).trans rfl
    have hcz24_4 : w5.cell? ⟨gb125, 4, none⟩ = some (.string a0_4) := (blk_cell BK125.out 4).trans rfl
    have hcz24_5 : w5.cell? ⟨gb125, 5, none⟩ = some (.int .u64 a0_5) := (blk_cell BK125.out 5).trans rfl
    have hfz24_0 := blk_frozen BK125.out 0
    have hfz24_1 := blk_frozen BK125.out 1
    have hfz24_2 := blk_frozen BK125.out 2
    have hfz24_3 := blk_frozen BK125.out 3
    have hfz24_4 := blk_frozen BK125.out 4
    have hfz24_5 := blk_frozen BK125.out 5
    have hcz25_0 : w5.cell? ⟨gb126, 0, none⟩ = some (.int .i64 a1_0) := (blk_cell BK126.out 0).trans rfl
    have hcz25_1 : w5.cell? ⟨gb126, 1, none⟩ = some (.slice A1_1 l1_1.length c1_1) := (blk_cell BK126.out 1).trans rfl
    have hcz25_2 : w5.cell? ⟨gb126, 2, none⟩ = some (.int .i64 a1_2) := (blk_cell BK126.out 2).trans rfl
    have hcz25_3 : w5.cell? ⟨gb126, 3, none⟩ = some (.int .u64 a1_3) := (blk_cell BK126.out 3).trans rfl
    have hcz25_4 : w5.cell? ⟨gb126, 4, none⟩ = some (.string a1_4) := (blk_cell BK126.out 4).trans rfl
    have hcz25_5 : w5.cell? ⟨gb126, 5, none⟩ = some (.int .u64 a1_5) := (blk_cell BK126.out 5).trans rfl
    have hfz25_0 := blk_frozen BK126.out 0
    have hfz25_1 := blk_frozen BK126.out 1
    have hfz25_2 := blk_frozen BK126.out 2
    have hfz25_3 := blk_frozen BK126.out 3
    have hfz25_4 := blk_frozen BK126.out 4
    have hfz25_5 := blk_frozen BK126.out 5
    go_wp2
    go_meet
    case rel => exact ⟨_,(true),(by first|rfl|(simp;done)|(simp [*];done)),H',⟨by first|omega|exact Nat.le_refl _⟩,⟨by (with_reducible repeat first|apply blk_drewN|apply blk_drew|apply blk_alloc);exact BK125.out⟩,⟨by (with_reducible repeat first|apply blk_drewN|apply blk_drew|apply blk_alloc);exact BK126.out⟩,⟨by repeat (first|(with_reducible first|exact HB.out|apply below_alloc|apply pw_below_drewN|apply below_drew1|refine below_set ?_ GE125.out|refine below_set ?_ GE126.out)|exact HB.out)⟩⟩
  ·rw [if_neg c6] at H
   have c6b0 : (a0_0 == a1_0) = false := beq_eq_false_iff_ne.mpr c6
   have c6b1 : (a0_0 != a1_0) = true := bne_iff_ne.mpr c6
   (first | rw [c6b0] | (simp only [i64_w, i32_w]; rw [c6b0]) | skip)
   have H' := Aside0.mk H
   clear H
   have hnb26 := NB125_126.out
   have hnc26 := NB126_125.out
   have hcz27_0 : w5.cell? ⟨gb125, 0, none⟩ = some (.int .i64 a0_0) := (blk_cell BK125.out 0).trans rfl
   have hcz27_1 : w5.cell? ⟨gb125, 1, none⟩ = some (.slice A0_1 l0_1.length c0_1) := (blk_cell BK125.out 1).trans rfl
   have hcz27_2 : w5.cell? ⟨gb125, 2, none⟩ = some (.int .i64 a0_2) := (blk_cell BK125.out 2).trans rfl
   have hcz27_3 : w5.cell? ⟨gb125, 3, none⟩ = some (.int .u64 a0_3) := (blk_cell BK125.out 3).trans rfl
   have hcz27_4 : w5.cell? ⟨gb125, 4, none⟩ = some (.string a0_4) := (blk_cell BK125.out 4).trans rfl
   have hcz27_5 : w5.cell? ⟨gb125, 5, none⟩ = some (.int .u64 a0_5) := (blk_cell BK125.out 5).trans rfl
   have hfz27_0 := blk_frozen BK125.out 0
   have hfz27_1 := blk_frozen BK125.out 1
   have hfz27_2 := blk_frozen BK125.out 2
   have hfz27_3 := blk_frozen BK125.out 3
   have hfz27_4 := blk_frozen BK125.out 4
   have hfz27_5 := blk_frozen BK125.out 5
   have hcz28_0 : w5.cell? ⟨gb126, 0, none⟩ = some (.int .i64 a1_0) := (blk_cell BK126.out 0).trans rfl
   have hcz28_1 : w5.cell? ⟨gb126, 1, none⟩ = some (.slice A1_1 l1_1.length c1_1) := (blk_cell BK126.out 1).trans rfl
   have hcz28_2 : w5.cell? ⟨gb126, 2, none⟩ = some (.int .i64 a1_2) := (blk_cell BK126.out 2).trans rfl
   have hcz28_3 : w5.cell? ⟨gb126, 3, none⟩ = some (.int .u64 a1_3) := (blk_cell BK126.out 3).trans rfl
   have hcz28_4 : w5.cell? ⟨gb126, 4, none⟩ = some (.string a1_4) := (blk_cell BK126.out 4).trans rfl
   have hcz28_5 : w5.cell? ⟨gb126, 5, none⟩ = some (.int .u64 a1_5) := (blk_cell BK126.out 5).trans rfl
   have hfz28_0 := blk_frozen BK126.out 0
   have hfz28_1 := blk_frozen BK126.out 1
   have hfz28_2 := blk_frozen BK126.out 2
   have hfz28_3 := blk_frozen BK126.out 3
   have hfz28_4 := blk_frozen BK126.out 4
   have hfz28_5 := blk_frozen BK126.out 5
   go_wp2
   go_meet
   case rel => exact ⟨_,(true),(by first|rfl|(simp;done)|(simp [*];done)),H',⟨by first|omega|exact Nat.le_refl _⟩,⟨by (with_reducible repeat first|apply blk_drewN|apply blk_drew|apply blk_alloc);exact BK125.out⟩,⟨by (with_reducible repeat first|apply blk_drewN|apply blk_drew|apply blk_alloc);exact BK126.out⟩,⟨by repeat (first|(with_reducible first|exact HB.out|apply below_alloc|apply pw_below_drewN|apply below_drew1|refine below_set ?_ GE125.out|refine below_set ?_ GE126.out)|exact HB.out)⟩⟩
 case rest =>
  clear HC3
  try clear c1
  try clear c2
  try clear p2
  try clear c5
  try clear c6
  try clear c6b0
  try clear c6b1
  try clear c7
  try clear c7b0
  try clear c7b1
  try clear c8
  try clear c8b0
  try clear c8b1
  try clear c9
  try clear c9b0
  try clear c9b1
  try clear c10
  try clear c10b0
  try clear c10b1
  try clear c11
  try clear c14
  try clear c17
  try clear c20
  try clear c23
  try clear c26
  try clear hcz12_0
  try clear hcz12_1
  try clear hcz12_2
  try clear hcz12_3
  try clear hcz12_4
  try clear hcz12_5
  try clear hcz13_0
  try clear hcz13_1
  try clear hcz13_2
  try clear hcz13_3
  try clear hcz13_4
  try clear hcz13_5
  try clear hcz15_0
  try clear hcz15_1
  try clear hcz15_2
  try clear hcz15_3
  try clear hcz15_4
  try clear hcz15_5
  try clear hcz16_0
  try clear hcz16_1
  try clear hcz16_2
  try clear hcz16_3
  try clear hcz16_4
  try clear hcz16_5
  try clear hcz18_0
  try clear hcz18_1
  try clear hcz18_2
  try clear hcz18_3
  try clear hcz18_4
  try clear hcz18_5
  try clear hcz19_0
  try clear hcz19_1
  try clear hcz19_2
  try clear hcz19_3
  try clear hcz19_4
  try clear hcz19_5
  try clear hcz21_0
  try clear hcz21_1
  try clear hcz21_2
  try clear hcz21_3
  try clear hcz21_4
  try clear hcz21_5
  try clear hcz22_0
  try clear hcz22_1
  try clear hcz22_2
  try clear hcz22_3
  try clear hcz22_4
  try clear hcz22_5
  try clear hcz24_0
  try clear hcz24_1
  try clear hcz24_2
  try clear hcz24_3
  try clear hcz24_4
  try clear hcz24_5
  try clear hcz25_0
  try clear hcz25_1
  try clear hcz25_2
  try clear hcz25_3
  try clear hcz25_4
  try clear hcz25_5
  try clear hcz27_0
  try clear hcz27_1
  try clear hcz27_2
  try clear hcz27_3
  try clear hcz27_4
  try clear hcz27_5
  try clear hcz28_0
  try clear hcz28_1
  try clear hcz28_2
  try clear hcz28_3
  try clear hcz28_4
  try clear hcz28_5
  try clear hfz12_0
  try clear hfz12_1
  try clear hfz12_2
  try clear hfz12_3
  try clear hfz12_4
  try clear hfz12_5
  try clear hfz13_0
  try clear hfz13_1
  try clear hfz13_2
  try clear hfz13_3
  try clear hfz13_4
  try clear hfz13_5
  try clear hfz15_0
  try clear hfz15_1
  try clear hfz15_2
  try clear hfz15_3
  try clear hfz15_4
  try clear hfz15_5
  try clear hfz16_0
  try clear hfz16_1
  try clear hfz16_2
  try clear hfz16_3
  try clear hfz16_4
  try clear hfz16_5
  try clear hfz18_0
  try clear hfz18_1
  try clear hfz18_2
  try clear hfz18_3
  try clear hfz18_4
  try clear hfz18_5
  try clear hfz19_0
  try clear hfz19_1
  try clear hfz19_2
  try clear hfz19_3
  try clear hfz19_4
  try clear hfz19_5
  try clear hfz21_0
  try clear hfz21_1
  try clear hfz21_2
  try clear hfz21_3
  try clear hfz21_4
  try clear hfz21_5
  try clear hfz22_0
  try clear hfz22_1
  try clear hfz22_2
  try clear hfz22_3
  try clear hfz22_4
  try clear hfz22_5
  try clear hfz24_0
  try clear hfz24_1
  try clear hfz24_2
  try clear hfz24_3
  try clear hfz24_4
  try clear hfz24_5
  try clear hfz25_0
  try clear hfz25_1
  try clear hfz25_2
  try clear hfz25_3
  try clear hfz25_4
  try clear hfz25_5
  try clear hfz27_0
  try clear hfz27_1
  try clear hfz27_2
  try clear hfz27_3
  try clear hfz27_4
  try clear hfz27_5
  try clear hfz28_0
  try clear hfz28_1
  try clear hfz28_2
  try clear hfz28_3
  try clear hfz28_4
  try clear hfz28_5
  obtain ⟨kq, x47_2, rfl, HA, HJ2, BK125, BK126, HB⟩ := hcut
  cases kq with
  | zero => exact absurd HA.out (by simp [doorwardref15_LikeCond.j0])
  | succ kj2 =>
   have H := HA.out
   clear HA
   simp only [doorwardref15_LikeCond.j0] at H
   by_cases c29 : x47_2 = true
   ·subst c29
    have H1 : (some false) = some r := by rw [if_pos rfl] at H; exact H
    clear H
    have H := H1
    clear H1
    obtain rfl := Option.some.inj H
    go_wp2
    go_ret
    exact ⟨by first|rfl|(simp [errW_none,errW_some] <;> rfl)|(simp [*,errW_none,errW_some] <;> rfl),by repeat (first|(with_reducible first|exact HB.out|apply below_alloc|apply pw_below_drewN|apply below_drew1|refine below_set ?_ GE125.out|refine below_set ?_ GE126.out)|exact HB.out)⟩
   ·replace c29 := Bool.eq_false_iff.mpr c29
    subst c29
    have H1 : (doorwardref15_LikeCond.l0 kj2 (l0_1.length : Int) 0 a0_0 l0_1 a0_2 a0_3 a0_4 a0_5 a1_0 l1_1 a1_2 a1_3 a1_4 a1_5) = some r := by rw [if_neg (show ¬ (false = true) by decide)] at H; exact H
    clear H
    have H := H1
    clear H1
    have H' := Aside0.mk H
    clear H
    have hnb30 := NB125_126.out
    have hnc30 := NB126_125.out
    have hcz31_0 : wc.cell? ⟨gb125, 0, none⟩ = some (.int .i64 a0_0) := (blk_cell BK125.out 0).trans rfl
    have hcz31_1 : wc.cell? ⟨gb125, 1, none⟩ = some (.slice A0_1 l0_1.length c0_1) := (blk_cell BK125.out 1).trans rfl
    have hcz31_2 : wc.cell? ⟨gb125, 2, none⟩ = some (.int .i64 a0_2) := (blk_cell BK125.out 2).trans rfl
    have hcz31_3 : wc.cell? ⟨gb125, 3, none⟩ = some (.int .u64 a0_3) := (blk_cell BK125.out 3).trans rfl
    have hcz31_4 : wc.cell? ⟨gb125, 4, none⟩ = some (.string a0_4) := (blk_cell BK125.out 4).trans rfl
    have hcz31_5 : wc.cell? ⟨gb125, 5, none⟩ = some (.int .u64 a0_5) := (blk_cell BK125.out 5).trans rfl
    have hfz31_0 := blk_frozen BK125.out 0
    have hfz31_1 := blk_frozen BK125.out 1
    have hfz31_2 := blk_frozen BK125.out 2
    have hfz31_3 := blk_frozen BK125.out 3
    have hfz31_4 := blk_frozen BK125.out 4
    have hfz31_5 := blk_frozen BK125.out 5
    go_wp2
    go_loopg [51] kj2 (fun kq v51 w' => ∃ (x51_2:Int),v51 = .int .i64 x51_2 ∧ Aside0 (doorwardref15_LikeCond.l0 kq (l0_1.length:Int) x51_2 a0_0 l0_1 a0_2 a0_3 a0_4 a0_5 a1_0 l1_1 a1_2 a1_3 a1_4 a1_5 = some r) ∧ Aside0 (kq ≤ kj2) ∧ Aside0 (w'.heap[gb125]? = some (.cells #[.int .i64 a0_0,(.slice A0_1 l0_1.length c0_1),.int .i64 a0_2,.int .u64 a0_3,.string a0_4,.int .u64 a0_5] 47 (0,0))) ∧ Aside0 (w'.heap[gb126]? = some (.cells #[.int .i64 a1_0,(.slice A1_1 l1_1.length c1_1),.int .i64 a1_2,.int .u64 a1_3,.string a1_4,.int .u64 a1_5] 47 (0,0))) ∧ Aside0 (Below w.heap.size w w'))
    case atStart => exact ⟨(0),(by first|rfl|(simp;done)|(simp [*];done)),H',⟨Nat.le_refl _⟩,⟨by (with_reducible repeat first|apply blk_drewN|apply blk_drew|apply blk_alloc);exact BK125.out⟩,⟨by (with_reducible repeat first|apply blk_drewN|apply blk_drew|apply blk_alloc);exact BK126.out⟩,⟨by repeat (first|(with_reducible first|exact HB.out|apply below_alloc|apply pw_below_drewN|apply below_drew1|refine below_set ?_ GE125.out|refine below_set ?_ GE126.out)|exact HB.out)⟩⟩
    case round =>
     clear H'
     try clear c1
     try clear c2
     try clear p2
     try clear c3
     try clear c5
     try clear c6
     try clear c6b0
     try clear c6b1
     try clear c7
     try clear c7b0
     try clear c7b1
     try clear c8
     try clear c8b0
     try clear c8b1
     try clear c9
     try clear c9b0
     try clear c9b1
     try clear c10
     try clear c10b0
     try clear c10b1
     try clear c11
     try clear c14
     try clear c17
     try clear c20
     try clear c23
     try clear c26
     try clear c29
     try clear c30
     try clear hcz12_0
     try clear hcz12_1
     try clear hcz12_2
     try clear hcz12_3
     try clear hcz12_4
     try clear hcz12_5
     try clear hcz13_0
     try clear hcz13_1
     try clear hcz13_2
     try clear hcz13_3
     try clear hcz13_4
     try clear hcz13_5
     try clear hcz15_0
     try clear hcz15_1
     try clear hcz15_2
     try clear hcz15_3
     try clear hcz15_4
     try clear hcz15_5
     try clear hcz16_0
     try clear hcz16_1
     try clear hcz16_2
     try clear hcz16_3
     try clear hcz16_4
     try clear hcz16_5
     try clear hcz18_0
     try clear hcz18_1
     try clear hcz18_2
     try clear hcz18_3
     try clear hcz18_4
     try clear hcz18_5
     try clear hcz19_0
     try clear hcz19_1
     try clear hcz19_2
     try clear hcz19_3
     try clear hcz19_4
     try clear hcz19_5
     try clear hcz21_0
     try clear hcz21_1
     try clear hcz21_2
     try clear hcz21_3
     try clear hcz21_4
     try clear hcz21_5
     try clear hcz22_0
     try clear hcz22_1
     try clear hcz22_2
     try clear hcz22_3
     try clear hcz22_4
     try clear hcz22_5
     try clear hcz24_0
     try clear hcz24_1
     try clear hcz24_2
     try clear hcz24_3
     try clear hcz24_4
     try clear hcz24_5
     try clear hcz25_0
     try clear hcz25_1
     try clear hcz25_2
     try clear hcz25_3
     try clear hcz25_4
     try clear hcz25_5
     try clear hcz27_0
     try clear hcz27_1
     try clear hcz27_2
     try clear hcz27_3
     try clear hcz27_4
     try clear hcz27_5
     try clear hcz28_0
     try clear hcz28_1
     try clear hcz28_2
     try clear hcz28_3
     try clear hcz28_4
     try clear hcz28_5
     try clear hcz31_0
     try clear hcz31_1
     try clear hcz31_2
     try clear hcz31_3
     try clear hcz31_4
     try clear hcz31_5
     try clear hfz12_0
     try clear hfz12_1
     try clear hfz12_2
     try clear hfz12_3
     try clear hfz12_4
     try clear hfz12_5
     try clear hfz13_0
     try clear hfz13_1
     try clear hfz13_2
     try clear hfz13_3
     try clear hfz13_4
     try clear hfz13_5
     try clear hfz15_0
     try clear hfz15_1
     try clear hfz15_2
     try clear hfz15_3
     try clear hfz15_4
     try clear hfz15_5
     try clear hfz16_0
     try clear hfz16_1
     try clear hfz16_2
     try clear hfz16_3
     try clear hfz16_4
     try clear hfz16_5
     try clear hfz18_0
     try clear hfz18_1
     try clear hfz18_2
     try clear hfz18_3
     try clear hfz18_4
     try clear hfz18_5
     try clear hfz19_0
     try clear hfz19_1
     try clear hfz19_2
     try clear hfz19_3
     try clear hfz19_4
     try clear hfz19_5
     try clear hfz21_0
     try clear hfz21_1
     try clear hfz21_2
     try clear hfz21_3
     try clear hfz21_4
     try clear hfz21_5
     try clear hfz22_0
     try clear hfz22_1
     try clear hfz22_2
     try clear hfz22_3
     try clear hfz22_4
     try clear hfz22_5
     try clear hfz24_0
     try clear hfz24_1
     try clear hfz24_2
     try clear hfz24_3
     try clear hfz24_4
     try clear hfz24_5
     try clear hfz25_0
     try clear hfz25_1
     try clear hfz25_2
     try clear hfz25_3
     try clear hfz25_4
     try clear hfz25_5
     try clear hfz27_0
     try clear hfz27_1
     try clear hfz27_2
     try clear hfz27_3
     try clear hfz27_4
     try clear hfz27_5
     try clear hfz28_0
     try clear hfz28_1
     try clear hfz28_2
     try clear hfz28_3
     try clear hfz28_4
     try clear hfz28_5
     try clear hfz31_0
     try clear hfz31_1
     try clear hfz31_2
     try clear hfz31_3
     try clear hfz31_4
     try clear hfz31_5
     try clear p2
     obtain ⟨x51_2, rfl, HA, HK2, BK125, BK126, HB⟩ := hrel
     cases gk with
     | zero => exact absurd HA.out (by simp [doorwardref15_LikeCond.l0])
     | succ k2 =>
      have H := HA.out
      clear HA
      simp only [doorwardref15_LikeCond.l0] at H
      by_cases c32 : x51_2 < (l0_1.length : Int)
      ·rw [if_pos c32] at H
       have c32b0 : decide (x51_2 < (l0_1.length : Int)) = true := decide_eq_true c32
       clear c32
       by_cases c33 : 0 ≤ x51_2
       ·rw [if_pos c33] at H
        have c33b0 : decide (0 ≤ x51_2) = true := decide_eq_true c33
        clear c33
        by_cases c34 : x51_2 < (l0_1.length : Int)
        ·rw [if_pos c34] at H
         have c34b0 : decide (x51_2 < (l0_1.length : Int)) = true := decide_eq_true c34
         clear c34
         by_cases c35 : x51_2 < (l1_1.length : Int)
         ·rw [if_pos c35] at H
          have c35b0 : decide (x51_2 < (l1_1.length : Int)) = true := decide_eq_true c35
          clear c35
          replace H := Option.bind_eq_some_iff.mp H
          obtain ⟨t129, A360, H⟩ := H
          replace H : (if t129 = true then (doorwardref15_LikeCond.l0 k2 (l0_1.length : Int) (wrap64 (x51_2 + 1)) a0_0 l0_1 a0_2 a0_3 a0_4 a0_5 a1_0 l1_1 a1_2 a1_3 a1_4 a1_5) else (some false)) = some r := H
          have A36 := Aside0.mk A360
          clear A360
          by_cases c37 : t129 = true
          ·subst c37
           have H1 : (doorwardref15_LikeCond.l0 k2 (l0_1.length : Int) (wrap64 (x51_2 + 1)) a0_0 l0_1 a0_2 a0_3 a0_4 a0_5 a1_0 l1_1 a1_2 a1_3 a1_4 a1_5) = some r := by rw [if_pos rfl] at H; exact H
           clear H
           have H := H1
           clear H1
           have H' := Aside0.mk H
           clear H
           try go_wp2
           have n0_ := Aside0.mk (blk_drew BK125.out)
           have n1_ := Aside0.mk (blk_drew BK126.out)
           have n2_ := Aside0.mk (below_drew1 HB.out)
           clear BK125
           clear BK126
           clear HB
           have BK125 := n0_
           have BK126 := n1_
           have HB := n2_
           clear n0_ n1_ n2_
           have p127 : 0 ≤ (x51_2 : Int) := of_decide_eq_true (by first | (with_reducible assumption) | assumption)
           have q127 : x51_2 < (l0_1.length : Int) := of_decide_eq_true (by first | (with_reducible assumption) | assumption)
           obtain ⟨ad127, A127_1, c127_1, e127, hx127_0, hx127_1, hx127_2, hx127_3, hx127_4, hx127_5, hl127_1, hi127_1⟩ := at_T47 HR0_1.out x51_2 p127 q127
           have hw127_5 := hx127_5
           have hw127_4 := hx127_4
           have hw127_3 := hx127_3
           have hw127_2 := hx127_2
           have hw127_1 := hx127_1
           have hw127_0 := hx127_0
           cases e127
           replace hx127_0 := (HB.out.cell (World.block_lt_of_cell? w _ hx127_0)).trans hx127_0
           replace hx127_1 := (HB.out.cell (World.block_lt_of_cell? w _ hx127_1)).trans hx127_1
           replace hx127_2 := (HB.out.cell (World.block_lt_of_cell? w _ hx127_2)).trans hx127_2
           replace hx127_3 := (HB.out.cell (World.block_lt_of_cell? w _ hx127_3)).trans hx127_3
           replace hx127_4 := (HB.out.cell (World.block_lt_of_cell? w _ hx127_4)).trans hx127_4
           replace hx127_5 := (HB.out.cell (World.block_lt_of_cell? w _ hx127_5)).trans hx127_5
           have HR127_1 := Aside0.mk hi127_1
           have HC127_1 := Aside0.mk hl127_1
           clear hi127_1 hl127_1
           replace p127 := eq_true p127
           replace q127 := eq_true q127
           have p128 : 0 ≤ (x51_2 : Int) := of_decide_eq_true (by first | (with_reducible assumption) | assumption)
           have q128 : x51_2 < (l1_1.length : Int) := of_decide_eq_true (by first | (with_reducible assumption) | assumption)
           obtain ⟨ad128, A128_1, c128_1, e128, hx128_0, hx128_1, hx128_2, hx128_3, hx128_4, hx128_5, hl128_1, hi128_1⟩ := at_T47 HR1_1.out x51_2 p128 q128
           have hw128_5 := hx128_5
           have hw128_4 := hx128_4
           have hw128_3 := hx128_3
           have hw128_2 := hx128_2
           have hw128_1 := hx128_1
           have hw128_0 := hx128_0
           cases e128
           replace hx128_0 := (HB.out.cell (World.block_lt_of_cell? w _ hx128_0)).trans hx128_0
           replace hx128_1 := (HB.out.cell (World.block_lt_of_cell? w _ hx128_1)).trans hx128_1
           replace hx128_2 := (HB.out.cell (World.block_lt_of_cell? w _ hx128_2)).trans hx128_2
           replace hx128_3 := (HB.out.cell (World.block_lt_of_cell? w _ hx128_3)).trans hx128_3
           replace hx128_4 := (HB.out.cell (World.block_lt_of_cell? w _ hx128_4)).trans hx128_4
           replace hx128_5 := (HB.out.cell (World.block_lt_of_cell? w _ hx128_5)).trans hx128_5
           have HR128_1 := Aside0.mk hi128_1
           have HC128_1 := Aside0.mk hl128_1
           clear hi128_1 hl128_1
           replace p128 := eq_true p128
           replace q128 := eq_true q128
           refine start_ (n:=12) (S:=fun w' => w'.cell? ⟨gb125,0,none⟩ = some (.int .i64 a0_0) ∧ w'.cell? ⟨gb125,1,none⟩ = some (.slice (some ad127) l0_1.length c0_1) ∧ w'.cell? ⟨gb125,2,none⟩ = some (.int .i64 a0_2) ∧ w'.cell? ⟨gb125,3,none⟩ = some (.int .u64 a0_3) ∧ w'.cell? ⟨gb125,4,none⟩ = some (.string a0_4) ∧ w'.cell? ⟨gb125,5,none⟩ = some (.int .u64 a0_5) ∧ w'.cell? ⟨gb126,0,none⟩ = some (.int .i64 a1_0) ∧ w'.cell? ⟨gb126,1,none⟩ = some (.slice (some ad128) l1_1.length c1_1) ∧ w'.cell? ⟨gb126,2,none⟩ = some (.int .i64 a1_2) ∧ w'.cell? ⟨gb126,3,none⟩ = some (.int .u64 a1_3) ∧ w'.cell? ⟨gb126,4,none⟩ = some (.string a1_4) ∧ w'.cell? ⟨gb126,5,none⟩ = some (.int .u64 a1_5) ∧ w'.cell? (ad127.add ((x51_2).toNat * 6)) = some (.int .i64 ((rd_T47 l0_1 x51_2).f0)) ∧ w'.cell? ⟨(ad127.add ((x51_2).toNat * 6)).block,(ad127.add ((x51_2).toNat * 6)).off+1,none⟩ = some (.slice A127_1 ((rd_T47 l0_1 x51_2).f1).length c127_1) ∧ w'.cell? ⟨(ad127.add ((x51_2).toNat * 6)).block,(ad127.add ((x51_2).toNat * 6)).off+2,none⟩ = some (.int .i64 ((rd_T47 l0_1 x51_2).f2)) ∧ w'.cell? ⟨(ad127.add ((x51_2).toNat * 6)).block,(ad127.add ((x51_2).toNat * 6)).off+3,none⟩ = some (.int .u64 ((rd_T47 l0_1 x51_2).f3)) ∧ w'.cell? ⟨(ad127.add ((x51_2).toNat * 6)).block,(ad127.add ((x51_2).toNat * 6)).off+4,none⟩ = some (.string ((rd_T47 l0_1 x51_2).f4)) ∧ w'.cell? ⟨(ad127.add ((x51_2).toNat * 6)).block,(ad127.add ((x51_2).toNat * 6)).off+5,none⟩ = some (.int .u64 ((rd_T47 l0_1 x51_2).f5)) ∧ w'.cell? (ad128.add ((x51_2).toNat * 6)) = some (.int .i64 ((rd_T47 l1_1 x51_2).f0)) ∧ w'.cell? ⟨(ad128.add ((x51_2).toNat * 6)).block,(ad128.add ((x51_2).toNat * 6)).off+1,none⟩ = some (.slice A128_1 ((rd_T47 l1_1 x51_2).f1).length c128_1) ∧ w'.cell? ⟨(ad128.add ((x51_2).toNat * 6)).block,(ad128.add ((x51_2).toNat * 6)).off+2,none⟩ = some (.int .i64 ((rd_T47 l1_1 x51_2).f2)) ∧ w'.cell? ⟨(ad128.add ((x51_2).toNat * 6)).block,(ad128.add ((x51_2).toNat * 6)).off+3,none⟩ = some (.int .u64 ((rd_T47 l1_1 x51_2).f3)) ∧ w'.cell? ⟨(ad128.add ((x51_2).toNat * 6)).block,(ad128.add ((x51_2).toNat * 6)).off+4,none⟩ = some (.string ((rd_T47 l1_1 x51_2).f4)) ∧ w'.cell? ⟨(ad128.add ((x51_2).toNat * 6)).block,(ad128.add ((x51_2).toNat * 6)).off+5,none⟩ = some (.int .u64 ((rd_T47 l1_1 x51_2).f5))) (ds:=[]) #[false,false,false,false,false,false,false,false,false,false,false,false] (by kernel_rfl) rfl rfl ⟨(blk_cell BK125.out 0).trans rfl,(blk_cell BK125.out 1).trans rfl,(blk_cell BK125.out 2).trans rfl,(blk_cell BK125.out 3).trans rfl,(blk_cell BK125.out 4).trans rfl,(blk_cell BK125.out 5).trans rfl,(blk_cell BK126.out 0).trans rfl,(blk_cell BK126.out 1).trans rfl,(blk_cell BK126.out 2).trans rfl,(blk_cell BK126.out 3).trans rfl,(blk_cell BK126.out 4).trans rfl,(blk_cell BK126.out 5).trans rfl,((HB.out.cell (World.block_lt_of_cell? w _ hw127_0)).trans hw127_0),((HB.out.cell (World.block_lt_of_cell? w _ hw127_1)).trans hw127_1),((HB.out.cell (World.block_lt_of_cell? w _ hw127_2)).trans hw127_2),((HB.out.cell (World.block_lt_of_cell? w _ hw127_3)).trans hw127_3),((HB.out.cell (World.block_lt_of_cell? w _ hw127_4)).trans hw127_4),((HB.out.cell (World.block_lt_of_cell? w _ hw127_5)).trans hw127_5),((HB.out.cell (World.block_lt_of_cell? w _ hw128_0)).trans hw128_0),((HB.out.cell (World.block_lt_of_cell? w _ hw128_1)).trans hw128_1),((HB.out.cell (World.block_lt_of_cell? w _ hw128_2)).trans hw128_2),((HB.out.cell (World.block_lt_of_cell? w _ hw128_3)).trans hw128_3),((HB.out.cell (World.block_lt_of_cell? w _ hw128_4)).trans hw128_4),((HB.out.cell (World.block_lt_of_cell? w _ hw128_5)).trans hw128_5)⟩ (fun hHeld => ?_);refine with_tabW doorwardref15_LikeCond.tab6 doorwardref15_LikeCond.bits6 (fun HT_ HW_ => ?_)
           generalize wr.drew = w38 at BK125 BK126 HB HR127_1 HR128_1 hx127_0 hx127_1 hx127_2 hx127_3 hx127_4 hx127_5 hx128_0 hx128_1 hx128_2 hx128_3 hx128_4 hx128_5 hHeld ⊢
           refine pure_ (i:=0) (N:=some 54) (v:=?_) (a':=?_) #[true,false,false,false,false,false,false,false,false,false,false,false] rfl rfl (any_of HT_.out (by kernel_rfl)) (fun _ _ _ h => h) (Or.inl ⟨by rfl,?_⟩) ?_ ?_
           rotate_left
           ·intro w'
            go_simp
            with_reducible rfl
           rotate_left
           ·simp only [Act.put, List.setIfInBounds_toArray, List.set_cons_zero, List.set_cons_succ, i64_w, i32_w]
            rfl
           refine pure_ (i:=2) (N:=some 56) (v:=?_) (a':=?_) #[true,false,true,false,false,false,false,false,false,false,false,false] rfl rfl (any_of HT_.out (by kernel_rfl)) (fun _ _ _ h => h) (Or.inl ⟨by rfl,?_⟩) ?_ ?_
           rotate_left
           ·intro w'
            go_simp
            with_reducible rfl
           rotate_left
           ·simp only [Act.put, List.setIfInBounds_toArray, List.set_cons_zero, List.set_cons_succ, i64_w, i32_w]
            rfl
           refine pure_ (i:=5) (N:=some 59) (v:=?_) (a':=?_) #[true,false,true,false,false,true,false,false,false,false,false,false] rfl rfl (any_of HT_.out (by kernel_rfl)) (fun _ _ _ h => h) (Or.inl ⟨by rfl,?_⟩) ?_ ?_
           rotate_left
           ·intro w'
            go_simp
            with_reducible rfl
           rotate_left
           ·simp only [Act.put, List.setIfInBounds_toArray, List.set_cons_zero, List.set_cons_succ, i64_w, i32_w]
            rfl
           refine pure_ (i:=7) (N:=some 61) (v:=?_) (a':=?_) #[true,false,true,false,false,true,false,true,false,false,false,false] rfl rfl (any_of HT_.out (by kernel_rfl)) (fun _ _ _ h => h) (Or.inl ⟨by rfl,?_⟩) ?_ ?_
           rotate_left
           ·intro w'
            go_simp
            with_reducible rfl
           rotate_left
           ·simp only [Act.put, List.setIfInBounds_toArray, List.set_cons_zero, List.set_cons_succ, i64_w, i32_w]
            rfl
           refine take_ (i:=1) (N:=some 55) (v:=?_) (a':=?_) #[true,true,true,false,false,true,false,true,false,false,false,false] rfl rfl (take_ofW HT_.out HW_.out (by kernel_rfl)) (fun _ _ _ h => h) (Or.inl ⟨by rfl,?_⟩) hHeld ?_ ?_
           rotate_left
           ·rintro w' ⟨s0, s1, s2, s3, s4, s5, s6, s7, s8, s9, s10, s11, s12, s13, s14, s15, s16, s17, s18, s19, s20, s21, s22, s23⟩
            go_simp
            with_reducible rfl
           rotate_left
           ·simp only [Act.put, List.setIfInBounds_toArray, List.set_cons_zero, List.set_cons_succ, i64_w, i32_w]
            rfl
           refine pure_ (i:=3) (N:=some 57) (v:=?_) (a':=?_) #[true,true,true,true,false,true,false,true,false,false,false,false] rfl rfl (any_of HT_.out (by kernel_rfl)) (fun _ _ _ h => h) (Or.inl ⟨by rfl,?_⟩) ?_ ?_
           rotate_left
           ·intro w'
            go_simp
            with_reducible rfl
           rotate_left
           ·simp only [Act.put, List.setIfInBounds_toArray, List.set_cons_zero, List.set_cons_succ, i64_w, i32_w]
            rfl
           refine take_ (i:=4) (N:=some 58) (v:=?_) (a':=?_) #[true,true,true,true,true,true,false,true,false,false,false,false] rfl rfl (take_ofW HT_.out HW_.out (by kernel_rfl)) (fun _ _ _ h => h) (Or.inl ⟨by rfl,?_⟩) hHeld ?_ ?_
           rotate_left
           ·rintro w' ⟨s0, s1, s2, s3, s4, s5, s6, s7, s8, s9, s10, s11, s12, s13, s14, s15, s16, s17, s18, s19, s20, s21, s22, s23⟩
            go_simp
            with_reducible rfl
           rotate_left
           ·simp only [Act.put, List.setIfInBounds_toArray, List.set_cons_zero, List.set_cons_succ, i64_w, i32_w]
            rfl
           refine take_ (i:=6) (N:=some 60) (v:=?_) (a':=?_) #[true,true,true,true,true,true,true,true,false,false,false,false] rfl rfl (take_ofW HT_.out HW_.out (by kernel_rfl)) (fun _ _ _ h => h) (Or.inl ⟨by rfl,?_⟩) hHeld ?_ ?_
           rotate_left
           ·rintro w' ⟨s0, s1, s2, s3, s4, s5, s6, s7, s8, s9, s10, s11, s12, s13, s14, s15, s16, s17, s18, s19, s20, s21, s22, s23⟩
            go_simp
            with_reducible rfl
           rotate_left
           ·simp only [Act.put, List.setIfInBounds_toArray, List.set_cons_zero, List.set_cons_succ, i64_w, i32_w]
            rfl
           refine pure_ (i:=8) (N:=some 62) (v:=?_) (a':=?_) #[true,true,true,true,true,true,true,true,true,false,false,false] rfl rfl (any_of HT_.out (by kernel_rfl)) (fun _ _ _ h => h) (Or.inl ⟨by rfl,?_⟩) ?_ ?_
           rotate_left
           ·intro w'
            go_simp
            with_reducible rfl
           rotate_left
           ·simp only [Act.put, List.setIfInBounds_toArray, List.set_cons_zero, List.set_cons_succ, i64_w, i32_w]
            rfl
           refine take_ (i:=9) (N:=some 63) (v:=?_) (a':=?_) #[true,true,true,true,true,true,true,true,true,true,false,false] rfl rfl (take_ofW HT_.out HW_.out (by kernel_rfl)) (fun _ _ _ h => h) (Or.inl ⟨by rfl,?_⟩) hHeld ?_ ?_
           rotate_left
           ·rintro w' ⟨s0, s1, s2, s3, s4, s5, s6, s7, s8, s9, s10, s11, s12, s13, s14, s15, s16, s17, s18, s19, s20, s21, s22, s23⟩
            go_simp
            with_reducible rfl
           rotate_left
           ·simp only [Act.put, List.setIfInBounds_toArray, List.set_cons_zero, List.set_cons_succ, i64_w, i32_w]
            rfl
           refine one_ (i := 10) (N := some 64) #[true, true, true, true, true, true, true, true, true, true, true, false] rfl rfl (one_of HT_.out (by kernel_rfl)) (by decide) (fun K hK => ?_)
           refine goes_ Tryd.func50 (by kernel_rfl) rfl #[.agg #[.int .i64 ((rd_T47 l0_1 x51_2).f0),.slice A127_1 ((rd_T47 l0_1 x51_2).f1).length c127_1,.int .i64 ((rd_T47 l0_1 x51_2).f2),.int .u64 ((rd_T47 l0_1 x51_2).f3),.string ((rd_T47 l0_1 x51_2).f4),.int .u64 ((rd_T47 l0_1 x51_2).f5)],.agg #[.int .i64 ((rd_T47 l1_1 x51_2).f0),.slice A128_1 ((rd_T47 l1_1 x51_2).f1).length c128_1,.int .i64 ((rd_T47 l1_1 x51_2).f2),.int .u64 ((rd_T47 l1_1 x51_2).f3),.string ((rd_T47 l1_1 x51_2).f4),.int .u64 ((rd_T47 l1_1 x51_2).f5)]] (by rfl) rfl rfl (by (try simp only [List.map_toArray,List.map_cons,List.map_nil]);first|done|rfl|(simp only [List.length_drop,List.length_take];rfl)) ?_
           with_reducible refine (ih k2 (by have:=HJ2.out;have:=HK2.out;omega) ((rd_T47 l0_1 x51_2).f0) _ _ ((rd_T47 l0_1 x51_2).f1) ((rd_T47 l0_1 x51_2).f2) ((rd_T47 l0_1 x51_2).f3) ((rd_T47 l0_1 x51_2).f4) ((rd_T47 l0_1 x51_2).f5) ((rd_T47 l1_1 x51_2).f0) _ _ ((rd_T47 l1_1 x51_2).f1) ((rd_T47 l1_1 x51_2).f2) ((rd_T47 l1_1 x51_2).f3) ((rd_T47 l1_1 x51_2).f4) ((rd_T47 l1_1 x51_2).f5) true _ ?side1 ?side2 ?side3 ?side4 ?side5 A36.out).mono ?_
           (case side1 => repeat (first | exact (Kd.C_below HR127_1.out HB.out) | (with_reducible refine Kd.C_alloc ?_ _) | (with_reducible refine Kd.C_drewN ?_ _) | (with_reducible refine Kd.C_drew ?_)))
           (case side2 => exact HC127_1.out)
           (case side3 => repeat (first | exact (Kd.C_below HR128_1.out HB.out) | (with_reducible refine Kd.C_alloc ?_ _) | (with_reducible refine Kd.C_drewN ?_ _) | (with_reducible refine Kd.C_drew ?_)))
           (case side4 => exact HC128_1.out)
           (case side5 => exact LaidAt.of HLD.out (by repeat (first|(with_reducible first|exact HB.out|apply below_alloc|apply pw_below_drewN|apply below_drew1|refine below_set ?_ GE125.out|refine below_set ?_ GE126.out)|exact HB.out)))
           rintro e w39 ⟨rfl, hb⟩
           refine ⟨_, rfl, ?_⟩
           have n0_:=Aside0.mk (blk_below (g:=gb125) (o:=.cells #[.int .i64 a0_0,.slice (some ad127) l0_1.length c0_1,.int .i64 a0_2,.int .u64 a0_3,.string a0_4,.int .u64 a0_5] 47 (0,0)) (by (with_reducible repeat first|apply blk_drewN|apply blk_drew|apply blk_alloc);exact BK125.out) hb)
           have n1_:=Aside0.mk (blk_below (g:=gb126) (o:=.cells #[.int .i64 a1_0,.slice (some ad128) l1_1.length c1_1,.int .i64 a1_2,.int .u64 a1_3,.string a1_4,.int .u64 a1_5] 47 (0,0)) (by (with_reducible repeat first|apply blk_drewN|apply blk_drew|apply blk_alloc);exact BK126.out) hb)
           have n2_:=Aside0.mk (below_step (by repeat (first|(with_reducible first|exact HB.out|apply below_alloc|apply pw_below_drewN|apply below_drew1|refine below_set ?_ GE125.out|refine below_set ?_ GE126.out)|exact HB.out)) hb)
           clear BK125
           clear BK126
           clear HB
           have BK125 := n0_
           have BK126 := n1_
           have HB := n2_
           clear n0_ n1_ n2_
           (try clear hb)
           (try clear hb2)
           (try clear hk)
           (try clear hi)
           refine hK.out _ _ ⟨(blk_cell BK125.out 0).trans rfl,(blk_cell BK125.out 1).trans rfl,(blk_cell BK125.out 2).trans rfl,(blk_cell BK125.out 3).trans rfl,(blk_cell BK125.out 4).trans rfl,(blk_cell BK125.out 5).trans rfl,(blk_cell BK126.out 0).trans rfl,(blk_cell BK126.out 1).trans rfl,(blk_cell BK126.out 2).trans rfl,(blk_cell BK126.out 3).trans rfl,(blk_cell BK126.out 4).trans rfl,(blk_cell BK126.out 5).trans rfl,((HB.out.cell (World.block_lt_of_cell? w _ hw127_0)).trans hw127_0),((HB.out.cell (World.block_lt_of_cell? w _ hw127_1)).trans hw127_1),((HB.out.cell (World.block_lt_of_cell? w _ hw127_2)).trans hw127_2),((HB.out.cell (World.block_lt_of_cell? w _ hw127_3)).trans hw127_3),((HB.out.cell (World.block_lt_of_cell? w _ hw127_4)).trans hw127_4),((HB.out.cell (World.block_lt_of_cell? w _ hw127_5)).trans hw127_5),((HB.out.cell (World.block_lt_of_cell? w _ hw128_0)).trans hw128_0),((HB.out.cell (World.block_lt_of_cell? w _ hw128_1)).trans hw128_1),((HB.out.cell (World.block_lt_of_cell? w _ hw128_2)).trans hw128_2),((HB.out.cell (World.block_lt_of_cell? w _ hw128_3)).trans hw128_3),((HB.out.cell (World.block_lt_of_cell? w _ hw128_4)).trans hw128_4),((HB.out.cell (World.block_lt_of_cell? w _ hw128_5)).trans hw128_5)⟩ (fun hHeld => ?_)
           clear hK K
           refine norm_ (a' := ?_) ?_ ?_
           rotate_left
           ·show Act.put _ (some 64) _ = _
            simp only [Act.put, List.setIfInBounds_toArray, List.set_cons_zero, List.set_cons_succ, i64_w, i32_w]
            rfl
           refine pure_ (i:=11) (N:=some 65) (v:=?_) (a':=?_) #[true,true,true,true,true,true,true,true,true,true,true,true] rfl rfl (any_of HT_.out (by kernel_rfl)) (fun _ _ _ h => h) (Or.inl ⟨by rfl,?_⟩) ?_ ?_
           rotate_left
           ·intro w'
            go_simp
            with_reducible rfl
           rotate_left
           ·simp only [Act.put, List.setIfInBounds_toArray, List.set_cons_zero, List.set_cons_succ, i64_w, i32_w]
            rfl
           refine done_ (done_of HT_.out (by kernel_rfl)) ?_
           try go_wp2
           go_roundg k2
           case measure => have := HJ2.out; have := HK2.out; omega
           case rel => exact ⟨(wrap64 (x51_2+1)),(by first|rfl|(simp;done)|(simp [*];done)),H',⟨by have:=HJ2.out;have:=HK2.out;omega⟩,⟨by (with_reducible repeat first|apply blk_drewN|apply blk_drew|apply blk_alloc);exact BK125.out⟩,⟨by (with_reducible repeat first|apply blk_drewN|apply blk_drew|apply blk_alloc);exact BK126.out⟩,⟨by repeat (first|(with_reducible first|exact HB.out|apply below_alloc|apply pw_below_drewN|apply below_drew1|refine below_set ?_ GE125.out|refine below_set ?_ GE126.out)|exact HB.out)⟩⟩
          ·replace c37 := Bool.eq_false_iff.mpr c37
           subst c37
           have H1 : (some false) = some r := by rw [if_neg (show ¬ (false = true) by decide)] at H; exact H
           clear H
           have H := H1
           clear H1
           obtain rfl := Option.some.inj H
           try go_wp2
           have n0_ := Aside0.mk (blk_drew BK125.out)
           have n1_ := Aside0.mk (blk_drew BK126.out)
           have n2_ := Aside0.mk (below_drew1 HB.out)
           clear BK125
           clear BK126
           clear HB
           have BK125 := n0_
           have BK126 := n1_
           have HB := n2_
           clear n0_ n1_ n2_
           have p127 : 0 ≤ (x51_2 : Int) := of_decide_eq_true (by first | (with_reducible assumption) | assumption)
           have q127 : x51_2 < (l0_1.length : Int) := of_decide_eq_true (by first | (with_reducible assumption) | assumption)
           obtain ⟨ad127, A127_1, c127_1, e127, hx127_0, hx127_1, hx127_2, hx127_3, hx127_4, hx127_5, hl127_1, hi127_1⟩ := at_T47 HR0_1.out x51_2 p127 q127
           have hw127_5 := hx127_5
           have hw127_4 := hx127_4
           have hw127_3 := hx127_3
           have hw127_2 := hx127_2
           have hw127_1 := hx127_1
           have hw127_0 := hx127_0
           cases e127
           replace hx127_0 := (HB.out.cell (World.block_lt_of_cell? w _ hx127_0)).trans hx127_0
           replace hx127_1 := (HB.out.cell (World.block_lt_of_cell? w _ hx127_1)).trans hx127_1
           replace hx127_2 := (HB.out.cell (World.block_lt_of_cell? w _ hx127_2)).trans hx127_2
           replace hx127_3 := (HB.out.cell (World.block_lt_of_cell? w _ hx127_3)).trans hx127_3
           replace hx127_4 := (HB.out.cell (World.block_lt_of_cell? w _ hx127_4)).trans hx127_4
           replace hx127_5 := (HB.out.cell (World.block_lt_of_cell? w _ hx127_5)).trans hx127_5
           have HR127_1 := Aside0.mk hi127_1
           have HC127_1 := Aside0.mk hl127_1
           clear hi127_1 hl127_1
           replace p127 := eq_true p127
           replace q127 := eq_true q127
           have p128 : 0 ≤ (x51_2 : Int) := of_decide_eq_true (by first | (with_reducible assumption) | assumption)
           have q128 : x51_2 < (l1_1.length : Int) := of_decide_eq_true (by first | (with_reducible assumption) | assumption)
           obtain ⟨ad128, A128_1, c128_1, e128, hx128_0, hx128_1, hx128_2, hx128_3, hx128_4, hx128_5, hl128_1, hi128_1⟩ := at_T47 HR1_1.out x51_2 p128 q128
           have hw128_5 := hx128_5
           have hw128_4 := hx128_4
           have hw128_3 := hx128_3
           have hw128_2 := hx128_2
           have hw128_1 := hx128_1
           have hw128_0 := hx128_0
           cases e128
           replace hx128_0 := (HB.out.cell (World.block_lt_of_cell? w _ hx128_0)).trans hx128_0
           replace hx128_1 := (HB.out.cell (World.block_lt_of_cell? w _ hx128_1)).trans hx128_1
           replace hx128_2 := (HB.out.cell (World.block_lt_of_cell? w _ hx128_2)).trans hx128_2
           replace hx128_3 := (HB.out.cell (World.block_lt_of_cell? w _ hx128_3)).trans hx128_3
           replace hx128_4 := (HB.out.cell (World.block_lt_of_cell? w _ hx128_4)).trans hx128_4
           replace hx128_5 := (HB.out.cell (World.block_lt_of_cell? w _ hx128_5)).trans hx128_5
           have HR128_1 := Aside0.mk hi128_1
           have HC128_1 := Aside0.mk hl128_1
           clear hi128_1 hl128_1
           replace p128 := eq_true p128
           replace q128 := eq_true q128
           refine start_ (n:=12) (S:=fun w' => w'.cell? ⟨gb125,0,none⟩ = some (.int .i64 a0_0) ∧ w'.cell? ⟨gb125,1,none⟩ = some (.slice (some ad127) l0_1.length c0_1) ∧ w'.cell? ⟨gb125,2,none⟩ = some (.int .i64 a0_2) ∧ w'.cell? ⟨gb125,3,none⟩ = some (.int .u64 a0_3) ∧ w'.cell? ⟨gb125,4,none⟩ = some (.string a0_4) ∧ w'.cell? ⟨gb125,5,none⟩ = some (.int .u64 a0_5) ∧ w'.cell? ⟨gb126,0,none⟩ = some (.int .i64 a1_0) ∧ w'.cell? ⟨gb126,1,none⟩ = some (.slice (some ad128) l1_1.length c1_1) ∧ w'.cell? ⟨gb126,2,none⟩ = some (.int .i64 a1_2) ∧ w'.cell? ⟨gb126,3,none⟩ = some (.int .u64 a1_3) ∧ w'.cell? ⟨gb126,4,none⟩ = some (.string a1_4) ∧ w'.cell? ⟨gb126,5,none⟩ = some (.int .u64 a1_5) ∧ w'.cell? (ad127.add ((x51_2).toNat * 6)) = some (.int .i64 ((rd_T47 l0_1 x51_2).f0)) ∧ w'.cell? ⟨(ad127.add ((x51_2).toNat * 6)).block,(ad127.add ((x51_2).toNat * 6)).off+1,none⟩ = some (.slice A127_1 ((rd_T47 l0_1 x51_2).f1).length c127_1) ∧ w'.cell? ⟨(ad127.add ((x51_2).toNat * 6)).block,(ad127.add ((x51_2).toNat * 6)).off+2,none⟩ = some (.int .i64 ((rd_T47 l0_1 x51_2).f2)) ∧ w'.cell? ⟨(ad127.add ((x51_2).toNat * 6)).block,(ad127.add ((x51_2).toNat * 6)).off+3,none⟩ = some (.int .u64 ((rd_T47 l0_1 x51_2).f3)) ∧ w'.cell? ⟨(ad127.add ((x51_2).toNat * 6)).block,(ad127.add ((x51_2).toNat * 6)).off+4,none⟩ = some (.string ((rd_T47 l0_1 x51_2).f4)) ∧ w'.cell? ⟨(ad127.add ((x51_2).toNat * 6)).block,(ad127.add ((x51_2).toNat * 6)).off+5,none⟩ = some (.int .u64 ((rd_T47 l0_1 x51_2).f5)) ∧ w'.cell? (ad128.add ((x51_2).toNat * 6)) = some (.int .i64 ((rd_T47 l1_1 x51_2).f0)) ∧ w'.cell? ⟨(ad128.add ((x51_2).toNat * 6)).block,(ad128.add ((x51_2).toNat * 6)).off+1,none⟩ = some (.slice A128_1 ((rd_T47 l1_1 x51_2).f1).length c128_1) ∧ w'.cell? ⟨(ad128.add ((x51_2).toNat * 6)).block,(ad128.add ((x51_2).toNat * 6)).off+2,none⟩ = some (.int .i64 ((rd_T47 l1_1 x51_2).f2)) ∧ w'.cell? ⟨(ad128.add ((x51_2).toNat * 6)).block,(ad128.add ((x51_2).toNat * 6)).off+3,none⟩ = some (.int .u64 ((rd_T47 l1_1 x51_2).f3)) ∧ w'.cell? ⟨(ad128.add ((x51_2).toNat * 6)).block,(ad128.add ((x51_2).toNat * 6)).off+4,none⟩ = some (.string ((rd_T47 l1_1 x51_2).f4)) ∧ w'.cell? ⟨(ad128.add ((x51_2).toNat * 6)).block,(ad128.add ((x51_2).toNat * 6)).off+5,none⟩ = some (.int .u64 ((rd_T47 l1_1 x51_2).f5))) (ds:=[]) #[false,false,false,false,false,false,false,false,false,false,false,false] (by kernel_rfl) rfl rfl ⟨(blk_cell BK125.out 0).trans rfl,(blk_cell BK125.out 1).trans rfl,(blk_cell BK125.out 2).trans rfl,(blk_cell BK125.out 3).trans rfl,(blk_cell BK125.out 4).trans rfl,(blk_cell BK125.out 5).trans rfl,(blk_cell BK126.out 0).trans rfl,(blk_cell BK126.out 1).trans rfl,(blk_cell BK126.out 2).trans rfl,(blk_cell BK126.out 3).trans rfl,(blk_cell BK126.out 4).trans rfl,(blk_cell BK126.out 5).trans rfl,((HB.out.cell (World.block_lt_of_cell? w _ hw127_0)).trans hw127_0),((HB.out.cell (World.block_lt_of_cell? w _ hw127_1)).trans hw127_1),((HB.out.cell (World.block_lt_of_cell? w _ hw127_2)).trans hw127_2),((HB.out.cell (World.block_lt_of_cell? w _ hw127_3)).trans hw127_3),((HB.out.cell (World.block_lt_of_cell? w _ hw127_4)).trans hw127_4),((HB.out.cell (World.block_lt_of_cell? w _ hw127_5)).trans hw127_5),((HB.out.cell (World.block_lt_of_cell? w _ hw128_0)).trans hw128_0),((HB.out.cell (World.block_lt_of_cell? w _ hw128_1)).trans hw128_1),((HB.out.cell (World.block_lt_of_cell? w _ hw128_2)).trans hw128_2),((HB.out.cell (World.block_lt_of_cell? w _ hw128_3)).trans hw128_3),((HB.out.cell (World.block_lt_of_cell? w _ hw128_4)).trans hw128_4),((HB.out.cell (World.block_lt_of_cell? w _ hw128_5)).trans hw128_5)⟩ (fun hHeld => ?_);refine with_tabW doorwardref15_LikeCond.tab6 doorwardref15_LikeCond.bits6 (fun HT_ HW_ => ?_)
           generalize wr.drew = w40 at BK125 BK126 HB HR127_1 HR128_1 hx127_0 hx127_1 hx127_2 hx127_3 hx127_4 hx127_5 hx128_0 hx128_1 hx128_2 hx128_3 hx128_4 hx128_5 hHeld ⊢
           refine pure_ (i:=0) (N:=some 54) (v:=?_) (a':=?_) #[true,false,false,false,false,false,false,false,false,false,false,false] rfl rfl (any_of HT_.out (by kernel_rfl)) (fun _ _ _ h => h) (Or.inl ⟨by rfl,?_⟩) ?_ ?_
           rotate_left
           ·intro w'
            go_simp
            with_reducible rfl
           rotate_left
           ·simp only [Act.put, List.setIfInBounds_toArray, List.set_cons_zero, List.set_cons_succ, i64_w, i32_w]
            rfl
           refine pure_ (i:=2) (N:=some 56) (v:=?_) (a':=?_) #[true,false,true,false,false,false,false,false,false,false,false,false] rfl rfl (any_of HT_.out (by kernel_rfl)) (fun _ _ _ h => h) (Or.inl ⟨by rfl,?_⟩) ?_ ?_
           rotate_left
           ·intro w'
            go_simp
            with_reducible rfl
           rotate_left
           ·simp only [Act.put, List.setIfInBounds_toArray, List.set_cons_zero, List.set_cons_succ, i64_w, i32_w]
            rfl
           refine pure_ (i:=5) (N:=some 59) (v:=?_) (a':=?_) #[true,false,true,false,false,true,false,false,false,false,false,false] rfl rfl (any_of HT_.out (by kernel_rfl)) (fun _ _ _ h => h) (Or.inl ⟨by rfl,?_⟩) ?_ ?_
           rotate_left
           ·intro w'
            go_simp
            with_reducible rfl
           rotate_left
           ·simp only [Act.put, List.setIfInBounds_toArray, List.set_cons_zero, List.set_cons_succ, i64_w, i32_w]
            rfl
           refine pure_ (i:=7) (N:=some 61) (v:=?_) (a':=?_) #[true,false,true,false,false,true,false,true,false,false,false,false] rfl rfl (any_of HT_.out (by kernel_rfl)) (fun _ _ _ h => h) (Or.inl ⟨by rfl,?_⟩) ?_ ?_
           rotate_left
           ·intro w'
            go_simp
            with_reducible rfl
           rotate_left
           ·simp only [Act.put, List.setIfInBounds_toArray, List.set_cons_zero, List.set_cons_succ, i64_w, i32_w]
            rfl
           refine take_ (i:=1) (N:=some 55) (v:=?_) (a':=?_) #[true,true,true,false,false,true,false,true,false,false,false,false] rfl rfl (take_ofW HT_.out HW_.out (by kernel_rfl)) (fun _ _ _ h => h) (Or.inl ⟨by rfl,?_⟩) hHeld ?_ ?_
           rotate_left
           ·rintro w' ⟨s0, s1, s2, s3, s4, s5, s6, s7, s8, s9, s10, s11, s12, s13, s14, s15, s16, s17, s18, s19, s20, s21, s22, s23⟩
            go_simp
            with_reducible rfl
           rotate_left
           ·simp only [Act.put, List.setIfInBounds_toArray, List.set_cons_zero, List.set_cons_succ, i64_w, i32_w]
            rfl
           refine pure_ (i:=3) (N:=some 57) (v:=?_) (a':=?_) #[true,true,true,true,false,true,false,true,false,false,false,false] rfl rfl (any_of HT_.out (by kernel_rfl)) (fun _ _ _ h => h) (Or.inl ⟨by rfl,?_⟩) ?_ ?_
           rotate_left
           ·intro w'
            go_simp
            with_reducible rfl
           rotate_left
           ·simp only [Act.put, List.setIfInBounds_toArray, List.set_cons_zero, List.set_cons_succ, i64_w, i32_w]
            rfl
           refine take_ (i:=4) (N:=some 58) (v:=?_) (a':=?_) #[true,true,true,true,true,true,false,true,false,false,false,false] rfl rfl (take_ofW HT_.out HW_.out (by kernel_rfl)) (fun _ _ _ h => h) (Or.inl ⟨by rfl,?_⟩) hHeld ?_ ?_
           rotate_left
           ·rintro w' ⟨s0, s1, s2, s3, s4, s5, s6, s7, s8, s9, s10, s11, s12, s13, s14, s15, s16, s17, s18, s19, s20, s21, s22, s23⟩
            go_simp
            with_reducible rfl
           rotate_left
           ·simp only [Act.put, List.setIfInBounds_toArray, List.set_cons_zero, List.set_cons_succ, i64_w, i32_w]
            rfl
           refine take_ (i:=6) (N:=some 60) (v:=?_) (a':=?_) #[true,true,true,true,true,true,true,true,false,false,false,false] rfl rfl (take_ofW HT_.out HW_.out (by kernel_rfl)) (fun _ _ _ h => h) (Or.inl ⟨by rfl,?_⟩) hHeld ?_ ?_
           rotate_left
           ·rintro w' ⟨s0, s1, s2, s3, s4, s5, s6, s7, s8, s9, s10, s11, s12, s13, s14, s15, s16, s17, s18, s19, s20, s21, s22, s23⟩
            go_simp
            with_reducible rfl
           rotate_left
           ·simp only [Act.put, List.setIfInBounds_toArray, List.set_cons_zero, List.set_cons_succ, i64_w, i32_w]
            rfl
           refine pure_ (i:=8) (N:=some 62) (v:=?_) (a':=?_) #[true,true,true,true,true,true,true,true,true,false,false,false] rfl rfl (any_of HT_.out (by kernel_rfl)) (fun _ _ _ h => h) (Or.inl ⟨by rfl,?_⟩) ?_ ?_
           rotate_left
           ·intro w'
            go_simp
            with_reducible rfl
           rotate_left
           ·simp only [Act.put, List.setIfInBounds_toArray, List.set_cons_zero, List.set_cons_succ, i64_w, i32_w]
            rfl
           refine take_ (i:=9) (N:=some 63) (v:=?_) (a':=?_) #[true,true,true,true,true,true,true,true,true,true,false,false] rfl rfl (take_ofW HT_.out HW_.out (by kernel_rfl)) (fun _ _ _ h => h) (Or.inl ⟨by rfl,?_⟩) hHeld ?_ ?_
           rotate_left
           ·rintro w' ⟨s0, s1, s2, s3, s4, s5, s6, s7, s8, s9, s10, s11, s12, s13, s14, s15, s16, s17, s18, s19, s20, s21, s22, s23⟩
            go_simp
            with_reducible rfl
           rotate_left
           ·simp only [Act.put, List.setIfInBounds_toArray, List.set_cons_zero, List.set_cons_succ, i64_w, i32_w]
            rfl
           refine one_ (i := 10) (N := some 64) #[true, true, true, true, true, true, true, true, true, true, true, false] rfl rfl (one_of HT_.out (by kernel_rfl)) (by decide) (fun K hK => ?_)
           refine goes_ Tryd.func50 (by kernel_rfl) rfl #[.agg #[.int .i64 ((rd_T47 l0_1 x51_2).f0),.slice A127_1 ((rd_T47 l0_1 x51_2).f1).length c127_1,.int .i64 ((rd_T47 l0_1 x51_2).f2),.int .u64 ((rd_T47 l0_1 x51_2).f3),.string ((rd_T47 l0_1 x51_2).f4),.int .u64 ((rd_T47 l0_1 x51_2).f5)],.agg #[.int .i64 ((rd_T47 l1_1 x51_2).f0),.slice A128_1 ((rd_T47 l1_1 x51_2).f1).length c128_1,.int .i64 ((rd_T47 l1_1 x51_2).f2),.int .u64 ((rd_T47 l1_1 x51_2).f3),.string ((rd_T47 l1_1 x51_2).f4),.int .u64 ((rd_T47 l1_1 x51_2).f5)]] (by rfl) rfl rfl (by (try simp only [List.map_toArray,List.map_cons,List.map_nil]);first|done|rfl|(simp only [List.length_drop,List.length_take];rfl)) ?_
           with_reducible refine (ih k2 (by have:=HJ2.out;have:=HK2.out;omega) ((rd_T47 l0_1 x51_2).f0) _ _ ((rd_T47 l0_1 x51_2).f1) ((rd_T47 l0_1 x51_2).f2) ((rd_T47 l0_1 x51_2).f3) ((rd_T47 l0_1 x51_2).f4) ((rd_T47 l0_1 x51_2).f5) ((rd_T47 l1_1 x51_2).f0) _ _ ((rd_T47 l1_1 x51_2).f1) ((rd_T47 l1_1 x51_2).f2) ((rd_T47 l1_1 x51_2).f3) ((rd_T47 l1_1 x51_2).f4) ((rd_T47 l1_1 x51_2).f5) false _ ?side1 ?side2 ?side3 ?side4 ?side5 A36.out).mono ?_
           (case side1 => repeat (first | exact (Kd.C_below HR127_1.out HB.out) | (with_reducible refine Kd.C_alloc ?_ _) | (with_reducible refine Kd.C_drewN ?_ _) | (with_reducible refine Kd.C_drew ?_)))
           (case side2 => exact HC127_1.out)
           (case side3 => repeat (first | exact (Kd.C_below HR128_1.out HB.out) | (with_reducible refine Kd.C_alloc ?_ _) | (with_reducible refine Kd.C_drewN ?_ _) | (with_reducible refine Kd.C_drew ?_)))
           (case side4 => exact HC128_1.out)
           (case side5 => exact LaidAt.of HLD.out (by repeat (first|(with_reducible first|exact HB.out|apply below_alloc|apply pw_below_drewN|apply below_drew1|refine below_set ?_ GE125.out|refine below_set ?_ GE126.out)|exact HB.out)))
           rintro e w41 ⟨rfl, hb⟩
           refine ⟨_, rfl, ?_⟩
           have n0_:=Aside0.mk (blk_below (g:=gb125) (o:=.cells #[.int .i64 a0_0,.slice (some ad127) l0_1.length c0_1,.int .i64 a0_2,.int .u64 a0_3,.string a0_4,.int .u64 a0_5] 47 (0,0)) (by (with_reducible repeat first|apply blk_drewN|apply blk_drew|apply blk_alloc);exact BK125.out) hb)
           have n1_:=Aside0.mk (blk_below (g:=gb126) (o:=.cells #[.int .i64 a1_0,.slice (some ad128) l1_1.length c1_1,.int .i64 a1_2,.int .u64 a1_3,.string a1_4,.int .u64 a1_5] 47 (0,0)) (by (with_reducible repeat first|apply blk_drewN|apply blk_drew|apply blk_alloc);exact BK126.out) hb)
           have n2_:=Aside0.mk (below_step (by repeat (first|(with_reducible first|exact HB.out|apply below_alloc|apply pw_below_drewN|apply below_drew1|refine below_set ?_ GE125.out|refine below_set ?_ GE126.out)|exact HB.out)) hb)
           clear BK125
           clear BK126
           clear HB
           have BK125 := n0_
           have BK126 := n1_
           have HB := n2_
           clear n0_ n1_ n2_
           (try clear hb)
           (try clear hb2)
           (try clear hk)
           (try clear hi)
           refine hK.out _ _ ⟨(blk_cell BK125.out 0).trans rfl,(blk_cell BK125.out 1).trans rfl,(blk_cell BK125.out 2).trans rfl,(blk_cell BK125.out 3).trans rfl,(blk_cell BK125.out 4).trans rfl,(blk_cell BK125.out 5).trans rfl,(blk_cell BK126.out 0).trans rfl,(blk_cell BK126.out 1).trans rfl,(blk_cell BK126.out 2).trans rfl,(blk_cell BK126.out 3).trans rfl,(blk_cell BK126.out 4).trans rfl,(blk_cell BK126.out 5).trans rfl,((HB.out.cell (World.block_lt_of_cell? w _ hw127_0)).trans hw127_0),((HB.out.cell (World.block_lt_of_cell? w _ hw127_1)).trans hw127_1),((HB.out.cell (World.block_lt_of_cell? w _ hw127_2)).trans hw127_2),((HB.out.cell (World.block_lt_of_cell? w _ hw127_3)).trans hw127_3),((HB.out.cell (World.block_lt_of_cell? w _ hw127_4)).trans hw127_4),((HB.out.cell (World.block_lt_of_cell? w _ hw127_5)).trans hw127_5),((HB.out.cell (World.block_lt_of_cell? w _ hw128_0)).trans hw128_0),((HB.out.cell (World.block_lt_of_cell? w _ hw128_1)).trans hw128_1),((HB.out.cell (World.block_lt_of_cell? w _ hw128_2)).trans hw128_2),((HB.out.cell (World.block_lt_of_cell? w _ hw128_3)).trans hw128_3),((HB.out.cell (World.block_lt_of_cell? w _ hw128_4)).trans hw128_4),((HB.out.cell (World.block_lt_of_cell? w _ hw128_5)).trans hw128_5)⟩ (fun hHeld => ?_)
           clear hK K
           refine norm_ (a' := ?_) ?_ ?_
           rotate_left
           ·show Act.put _ (some 64) _ = _
            simp only [Act.put, List.setIfInBounds_toArray, List.set_cons_zero, List.set_cons_succ, i64_w, i32_w]
            rfl
           refine pure_ (i:=11) (N:=some 65) (v:=?_) (a':=?_) #[true,true,true,true,true,true,true,true,true,true,true,true] rfl rfl (any_of HT_.out (by kernel_rfl)) (fun _ _ _ h => h) (Or.inl ⟨by rfl,?_⟩) ?_ ?_
           rotate_left
           ·intro w'
            go_simp
            with_reducible rfl
           rotate_left
           ·simp only [Act.put, List.setIfInBounds_toArray, List.set_cons_zero, List.set_cons_succ, i64_w, i32_w]
            rfl
           refine done_ (done_of HT_.out (by kernel_rfl)) ?_
           try go_wp2
           go_ret
           exact ⟨by first|rfl|(simp [errW_none,errW_some] <;> rfl)|(simp [*,errW_none,errW_some] <;> rfl),by repeat (first|(with_reducible first|exact HB.out|apply below_alloc|apply pw_below_drewN|apply below_drew1|refine below_set ?_ GE125.out|refine below_set ?_ GE126.out)|exact HB.out)⟩
         ·rw [if_neg c35] at H
          exact absurd H (by simp)
        ·rw [if_neg c34] at H
         exact absurd H (by simp)
       ·rw [if_neg c33] at H
        exact absurd H (by simp)
      ·rw [if_neg c32] at H
       have c32b0 : decide (x51_2 < (l0_1.length : Int)) = false := decide_eq_false c32
       clear c32
       obtain rfl := Option.some.inj H
       go_wp2
       go_ret
       exact ⟨by first|rfl|(simp [errW_none,errW_some] <;> rfl)|(simp [*,errW_none,errW_some] <;> rfl),by repeat (first|(with_reducible first|exact HB.out|apply below_alloc|apply pw_below_drewN|apply below_drew1|refine below_set ?_ GE125.out|refine below_set ?_ GE126.out)|exact HB.out)⟩

end Go.Proofs.YtdfjjimmnbijmaaDoor.PP

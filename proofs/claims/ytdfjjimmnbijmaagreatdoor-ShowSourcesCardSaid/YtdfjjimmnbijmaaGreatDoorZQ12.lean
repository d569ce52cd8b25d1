-- Written for this claim by myprint.py over the kit's print (functions of this session supplied)
import Derived.Test.YtdfjjimmnbijmaaGreatDoorZQ0
import Derived.Test.YtdfjjimmnbijmaaGreatDoorZQ3
namespace Go.Proofs.YtdfjjimmnbijmaaGreatDoor.ZQ
open Go.RowKit Go.Proofs.YtdfjjimmnbijmaaGreatDoorW.PrintWords Go.Proofs.YtdfjjimmnbijmaaGreatDoorW.PrintLast Go.Proofs.YtdfjjimmnbijmaaGreatDoorW.PrintMore Go.Proofs.YtdfjjimmnbijmaaGreatDoor.Base
attribute [local go_sem] max2_int min2_int max_two min_two max_three min_three max_four min_four   -- for this text's walks alone
set_option linter.unusedVariables false
set_option linter.unusedSimpArgs false

/-! ### doorwardref15_LikeCond: function 31 -/
mutual
def doorwardref15_LikeCond.j0:Nat→Bool→Int→List (S28)→Int→Int→ByteArray→Int→Int→List (S28)→Int→Int→ByteArray→Int→Option (Bool)
 |  0,_,_,_,_,_,_,_,_,_,_,_,_,_ => none
 |  k+1,x47,x155000,x155001,x155002,x155003,x155004,x155005,x156000,x156001,x156002,x156003,x156004,x156005 => if x47=true then (some false) else (doorwardref15_LikeCond.l0 k (x155001.length:Int) 0 x155000 x155001 x155002 x155003 x155004 x155005 x156000 x156001 x156002 x156003 x156004 x156005)
def doorwardref15_LikeCond.l0:Nat→Int→Int→Int→List (S28)→Int→Int→ByteArray→Int→Int→List (S28)→Int→Int→ByteArray→Int→Option (Bool)
 |  0,_,_,_,_,_,_,_,_,_,_,_,_,_,_ => none
 |  k+1,x50,x51,x155000,x155001,x155002,x155003,x155004,x155005,x156000,x156001,x156002,x156003,x156004,x156005 => if x51<x50 then (if 0≤x51 then (if x51<(x155001.length:Int) then (if x51<(x156001.length:Int) then ((doorwardref15_LikeCond.f k ((rd_T28 x155001 x51).f0) ((rd_T28 x155001 x51).f1) ((rd_T28 x155001 x51).f2) ((rd_T28 x155001 x51).f3) ((rd_T28 x155001 x51).f4) ((rd_T28 x155001 x51).f5) ((rd_T28 x156001 x51).f0) ((rd_T28 x156001 x51).f1) ((rd_T28 x156001 x51).f2) ((rd_T28 x156001 x51).f3) ((rd_T28 x156001 x51).f4) ((rd_T28 x156001 x51).f5)).bind fun t158 => (if t158=true then (doorwardref15_LikeCond.l0 k x50 (wrap64 (x51+1)) x155000 x155001 x155002 x155003 x155004 x155005 x156000 x156001 x156002 x156003 x156004 x156005) else (some false))) else (none)) else (none)) else (none)) else (some true)
def doorwardref15_LikeCond.f:Nat→Int→List (S28)→Int→Int→ByteArray→Int→Int→List (S28)→Int→Int→ByteArray→Int→Option (Bool)
 |  0,_,_,_,_,_,_,_,_,_,_,_,_ => none
 |  k+1,a0_0,l0_1,a0_2,a0_3,a0_4,a0_5,a1_0,l1_1,a1_2,a1_3,a1_4,a1_5 => if a0_0=a1_0 then (if a0_2=a1_2 then (if a0_3=a1_3 then (if a0_4.toList=a1_4.toList then (if a0_5=a1_5 then (doorwardref15_LikeCond.j0 k ((l0_1.length:Int) != (l1_1.length:Int)) a0_0 l0_1 a0_2 a0_3 a0_4 a0_5 a1_0 l1_1 a1_2 a1_3 a1_4 a1_5) else (doorwardref15_LikeCond.j0 k true a0_0 l0_1 a0_2 a0_3 a0_4 a0_5 a1_0 l1_1 a1_2 a1_3 a1_4 a1_5)) else (doorwardref15_LikeCond.j0 k true a0_0 l0_1 a0_2 a0_3 a0_4 a0_5 a1_0 l1_1 a1_2 a1_3 a1_4 a1_5)) else (doorwardref15_LikeCond.j0 k true a0_0 l0_1 a0_2 a0_3 a0_4 a0_5 a1_0 l1_1 a1_2 a1_3 a1_4 a1_5)) else (doorwardref15_LikeCond.j0 k true a0_0 l0_1 a0_2 a0_3 a0_4 a0_5 a1_0 l1_1 a1_2 a1_3 a1_4 a1_5)) else (doorwardref15_LikeCond.j0 k true a0_0 l0_1 a0_2 a0_3 a0_4 a0_5 a1_0 l1_1 a1_2 a1_3 a1_4 a1_5)
end
theorem doorwardref15_LikeCond.mono_l:∀ k,(∀ y0 y1 y2 y3 y4 y5 y6 y7 y8 y9 y10 y11,LeO (doorwardref15_LikeCond.f k y0 y1 y2 y3 y4 y5 y6 y7 y8 y9 y10 y11) (doorwardref15_LikeCond.f (k+1) y0 y1 y2 y3 y4 y5 y6 y7 y8 y9 y10 y11))∧(∀ y0 y1 y2 y3 y4 y5 y6 y7 y8 y9 y10 y11 y12,LeO (doorwardref15_LikeCond.j0 k y0 y1 y2 y3 y4 y5 y6 y7 y8 y9 y10 y11 y12) (doorwardref15_LikeCond.j0 (k+1) y0 y1 y2 y3 y4 y5 y6 y7 y8 y9 y10 y11 y12))∧(∀ y0 y1 y2 y3 y4 y5 y6 y7 y8 y9 y10 y11 y12 y13,LeO (doorwardref15_LikeCond.l0 k y0 y1 y2 y3 y4 y5 y6 y7 y8 y9 y10 y11 y12 y13) (doorwardref15_LikeCond.l0 (k+1) y0 y1 y2 y3 y4 y5 y6 y7 y8 y9 y10 y11 y12 y13))
 |  0 => ⟨fun _ _ _ _ _ _ _ _ _ _ _ _ r h => by simp [doorwardref15_LikeCond.f] at h,fun _ _ _ _ _ _ _ _ _ _ _ _ _ r h => by simp [doorwardref15_LikeCond.j0] at h,fun _ _ _ _ _ _ _ _ _ _ _ _ _ _ r h => by simp [doorwardref15_LikeCond.l0] at h⟩
 |  k+1 => by
  obtain ⟨ih0,ih1,ih2⟩:=doorwardref15_LikeCond.mono_l k
  refine ⟨?_,?_,?_⟩
  ·intro y0 y1 y2 y3 y4 y5 y6 y7 y8 y9 y10 y11
   unfold doorwardref15_LikeCond.f
   repeat' first
   |  (with_reducible exact ih0 _ _ _ _ _ _ _ _ _ _ _ _)
   |  (with_reducible exact ih1 _ _ _ _ _ _ _ _ _ _ _ _ _)
   |  (with_reducible exact ih2 _ _ _ _ _ _ _ _ _ _ _ _ _ _)
   |  (with_reducible exact LeO.refl _)
   |  (with_reducible exact LeO.none _)
   |  (with_reducible refine LeO.ite ?_ ?_)
   |  (with_reducible refine LeO.bind ?_ (fun _ => ?_))
   |  exact ih0 _ _ _ _ _ _ _ _ _ _ _ _
   |  exact ih1 _ _ _ _ _ _ _ _ _ _ _ _ _
   |  exact ih2 _ _ _ _ _ _ _ _ _ _ _ _ _ _
   |  exact LeO.none _
   |  refine LeO.ite ?_ ?_
   |  refine LeO.bind ?_ (fun _ => ?_)
  ·intro y0 y1 y2 y3 y4 y5 y6 y7 y8 y9 y10 y11 y12
   unfold doorwardref15_LikeCond.j0
   repeat' first
   |  (with_reducible exact ih0 _ _ _ _ _ _ _ _ _ _ _ _)
   |  (with_reducible exact ih1 _ _ _ _ _ _ _ _ _ _ _ _ _)
   |  (with_reducible exact ih2 _ _ _ _ _ _ _ _ _ _ _ _ _ _)
   |  (with_reducible exact LeO.refl _)
   |  (with_reducible exact LeO.none _)
   |  (with_reducible refine LeO.ite ?_ ?_)
   |  (with_reducible refine LeO.bind ?_ (fun _ => ?_))
   |  exact ih0 _ _ _ _ _ _ _ _ _ _ _ _
   |  exact ih1 _ _ _ _ _ _ _ _ _ _ _ _ _
   |  exact ih2 _ _ _ _ _ _ _ _ _ _ _ _ _ _
   |  exact LeO.none _
   |  refine LeO.ite ?_ ?_
   |  refine LeO.bind ?_ (fun _ => ?_)
  ·intro y0 y1 y2 y3 y4 y5 y6 y7 y8 y9 y10 y11 y12 y13
   unfold doorwardref15_LikeCond.l0
   repeat' first
   |  (with_reducible exact ih0 _ _ _ _ _ _ _ _ _ _ _ _)
   |  (with_reducible exact ih1 _ _ _ _ _ _ _ _ _ _ _ _ _)
   |  (with_reducible exact ih2 _ _ _ _ _ _ _ _ _ _ _ _ _ _)
   |  (with_reducible exact LeO.refl _)
   |  (with_reducible exact LeO.none _)
   |  (with_reducible refine LeO.ite ?_ ?_)
   |  (with_reducible refine LeO.bind ?_ (fun _ => ?_))
   |  exact ih0 _ _ _ _ _ _ _ _ _ _ _ _
   |  exact ih1 _ _ _ _ _ _ _ _ _ _ _ _ _
   |  exact ih2 _ _ _ _ _ _ _ _ _ _ _ _ _ _
   |  exact LeO.none _
   |  refine LeO.ite ?_ ?_
   |  refine LeO.bind ?_ (fun _ => ?_)
theorem doorwardref15_LikeCond.mono:∀ a0 a1 a2 a3 a4 a5 a6 a7 a8 a9 a10 a11 k,LeO (doorwardref15_LikeCond.f k a0 a1 a2 a3 a4 a5 a6 a7 a8 a9 a10 a11) (doorwardref15_LikeCond.f (k+1) a0 a1 a2 a3 a4 a5 a6 a7 a8 a9 a10 a11):=by
 intro a0 a1 a2 a3 a4 a5 a6 a7 a8 a9 a10 a11 k
 obtain ⟨ih0,ih1,ih2⟩:=doorwardref15_LikeCond.mono_l k
 exact ih0 a0 a1 a2 a3 a4 a5 a6 a7 a8 a9 a10 a11
def doorwardref15_LikeCond.T6:Bool × List (List Nat × List Nat):=(true,[([],[]),([0],[0]),([],[]),([1,2],[1,2]),([3],[3]),([],[]),([5],[5]),([],[]),([6,7],[6,7]),([8],[8]),([4,9],[4,9]),([10],[10])])
def doorwardref15_LikeCond.B6:List Nat:=[0,1,0,7,15,0,32,0,224,480,1023,2047]
theorem doorwardref15_LikeCond.tab6:rtab .any (opsOf Tryz.f31 6)=doorwardref15_LikeCond.T6:=by kernel_rfl
theorem doorwardref15_LikeCond.bits6:waitsOk doorwardref15_LikeCond.T6.2 doorwardref15_LikeCond.B6=true:=by kernel_rfl
set_option maxHeartbeats 8000000 in
set_option maxRecDepth 100000 in
theorem doorwardref15_LikeCond.calls (k:Nat):∀ (a0_0:Int) (A0_1:Option Addr) (c0_1:Nat) (l0_1:List (S28)) (a0_2:Int) (a0_3:Int) (a0_4:ByteArray) (a0_5:Int) (a1_0:Int) (A1_1:Option Addr) (c1_1:Nat) (l1_1:List (S28)) (a1_2:Int) (a1_3:Int) (a1_4:ByteArray) (a1_5:Int) (r:Bool) (w:World) (hr0_1:Kd.C k28 w A0_1 l0_1.length l0_1) (hc0_1:l0_1.length≤c0_1) (hr1_1:Kd.C k28 w A1_1 l1_1.length l1_1) (hc1_1:l1_1.length≤c1_1) (hLd:LaidAt w) (h:doorwardref15_LikeCond.f k a0_0 l0_1 a0_2 a0_3 a0_4 a0_5 a1_0 l1_1 a1_2 a1_3 a1_4 a1_5=some r),
  Calls Tryz.prog 31 #[.agg #[.int .i64 a0_0,.slice A0_1 l0_1.length c0_1,.int .i64 a0_2,.int .u64 a0_3,.string a0_4,.int .u64 a0_5],.agg #[.int .i64 a1_0,.slice A1_1 l1_1.length c1_1,.int .i64 a1_2,.int .u64 a1_3,.string a1_4,.int .u64 a1_5]] w fun e w' => e=.returned (.bool r)∧Below w.heap.size w w':=by
 induction k using Nat.strongRecOn with
 |  _ k ih =>
 intro a0_0 A0_1 c0_1 l0_1 a0_2 a0_3 a0_4 a0_5 a1_0 A1_1 c1_1 l1_1 a1_2 a1_3 a1_4 a1_5 r w hr0_1 hc0_1 hr1_1 hc1_1 hLd h
 cases k with
 |  zero => exact absurd h (by simp [doorwardref15_LikeCond.f])
 |  succ k =>
 simp only [doorwardref15_LikeCond.f] at h
 have hu28:=Tryz.underlying28
 have HLD:=Aside0.mk hLd
 clear hLd
 have HR0_1:=Aside0.mk hr0_1
 have HC0_1:=Aside0.mk hc0_1
 clear hr0_1 hc0_1
 have HR1_1:=Aside0.mk hr1_1
 have HC1_1:=Aside0.mk hc1_1
 clear hr1_1 hc1_1
 have HB:=Aside0.mk (Below.refl w.heap.size w)
 have H:(if a0_0=a1_0 then (if a0_2=a1_2 then (if a0_3=a1_3 then (if a0_4.toList=a1_4.toList then (if a0_5=a1_5 then (doorwardref15_LikeCond.j0 k ((l0_1.length:Int) != (l1_1.length:Int)) a0_0 l0_1 a0_2 a0_3 a0_4 a0_5 a1_0 l1_1 a1_2 a1_3 a1_4 a1_5) else (doorwardref15_LikeCond.j0 k true a0_0 l0_1 a0_2 a0_3 a0_4 a0_5 a1_0 l1_1 a1_2 a1_3 a1_4 a1_5)) else (doorwardref15_LikeCond.j0 k true a0_0 l0_1 a0_2 a0_3 a0_4 a0_5 a1_0 l1_1 a1_2 a1_3 a1_4 a1_5)) else (doorwardref15_LikeCond.j0 k true a0_0 l0_1 a0_2 a0_3 a0_4 a0_5 a1_0 l1_1 a1_2 a1_3 a1_4 a1_5)) else (doorwardref15_LikeCond.j0 k true a0_0 l0_1 a0_2 a0_3 a0_4 a0_5 a1_0 l1_1 a1_2 a1_3 a1_4 a1_5)) else (doorwardref15_LikeCond.j0 k true a0_0 l0_1 a0_2 a0_3 a0_4 a0_5 a1_0 l1_1 a1_2 a1_3 a1_4 a1_5))=some r:=h
 clear h
 have HC3:=Aside0.mk H
 clear H
 go_enter Tryz.func31,Tryz.ntmps31
 go_upto_region 1 with (first|((with_reducible refine gate_dst (N:=2) rfl ?_);(try (refine gate_guard (by rfl) ?_;dsimp only));refine box_event ?hg (N:=2) ?hd (cs:=#[.int .i64 a0_0,.slice A0_1 l0_1.length c0_1,.int .i64 a0_2,.int .u64 a0_3,.string a0_4,.int .u64 a0_5]) (t:=28) ?hr ?_;(case hd => rfl);(case hg => rfl);(case hr => first|(go_simp;done)|(go_simp;rfl));intro gb154 hg w4 hbox hb;have n0_:=Aside0.mk (below_step (by repeat (with_reducible first|exact HB.out|apply below_alloc|apply pw_below_drewN|apply below_drew1)) hb);have n1_:=Aside0.mk (hbox);have n2_:=Aside0.mk ((by rw [hg];exact (below_size (by repeat (with_reducible first|exact HB.out|apply below_alloc|apply pw_below_drewN|apply below_drew1))):w.heap.size≤gb154));have n3_:=Aside0.mk ((by rw [hg];exact (below_size (by repeat (with_reducible first|exact HB.out|apply below_alloc|apply pw_below_drewN|apply below_drew1))):w.heap.size≤gb154));clear HB;have HB:=n0_;have BK154:=n1_;have GW154:=n2_;have GE154:=n3_;clear n0_ n1_ n2_ n3_;clear hb hbox hg)|((with_reducible refine gate_dst (N:=3) rfl ?_);(try (refine gate_guard (by rfl) ?_;dsimp only));refine box_event ?hg (N:=3) ?hd (cs:=#[.int .i64 a1_0,.slice A1_1 l1_1.length c1_1,.int .i64 a1_2,.int .u64 a1_3,.string a1_4,.int .u64 a1_5]) (t:=28) ?hr ?_;(case hd => rfl);(case hg => rfl);(case hr => first|(go_simp;done)|(go_simp;rfl));intro gb155 hg w5 hbox hb;have n0_:=Aside0.mk (blk_below (g:=gb154) (o:=.cells #[.int .i64 a0_0,.slice A0_1 l0_1.length c0_1,.int .i64 a0_2,.int .u64 a0_3,.string a0_4,.int .u64 a0_5] 28 (0,0)) (by (with_reducible repeat (first|refine zN ?_|refine zD ?_|refine zA ?_));exact BK154.out) hb);have n1_:=Aside0.mk (below_step (by repeat (first|(with_reducible first|exact HB.out|apply below_alloc|apply pw_below_drewN|apply below_drew1|refine below_set ?_ GE154.out)|exact HB.out)) hb);have n2_:=Aside0.mk (hbox);have n3_:=Aside0.mk ((by rw [hg];exact (below_size (by repeat (first|(with_reducible first|exact HB.out|apply below_alloc|apply pw_below_drewN|apply below_drew1|refine below_set ?_ GE154.out)|exact HB.out))):w.heap.size≤gb155));have n4_:=Aside0.mk ((by rw [hg];exact (below_size (by repeat (first|(with_reducible first|exact HB.out|apply below_alloc|apply pw_below_drewN|apply below_drew1|refine below_set ?_ GE154.out)|exact HB.out))):w.heap.size≤gb155));have n5_:=Aside0.mk ((by rw [hg];exact Nat.ne_of_lt (blk_lt (g:=gb154) (o:=.cells #[.int .i64 a0_0,.slice A0_1 l0_1.length c0_1,.int .i64 a0_2,.int .u64 a0_3,.string a0_4,.int .u64 a0_5] 28 (0,0)) (by (with_reducible repeat (first|refine zN ?_|refine zD ?_|refine zA ?_));exact BK154.out)):gb154 ≠ gb155));have n6_:=Aside0.mk ((by rw [hg];exact Nat.ne_of_gt (blk_lt (g:=gb154) (o:=.cells #[.int .i64 a0_0,.slice A0_1 l0_1.length c0_1,.int .i64 a0_2,.int .u64 a0_3,.string a0_4,.int .u64 a0_5] 28 (0,0)) (by (with_reducible repeat (first|refine zN ?_|refine zD ?_|refine zA ?_));exact BK154.out)):gb155 ≠ gb154));clear BK154;clear HB;have BK154:=n0_;have HB:=n1_;have BK155:=n2_;have GW155:=n3_;have GE155:=n4_;have NB154_155:=n5_;have NB155_154:=n6_;clear n0_ n1_ n2_ n3_ n4_ n5_ n6_;clear hb hbox hg))
 (try simp only [Act.put,List.setIfInBounds_toArray,List.set_cons_zero,List.set_cons_succ])
 go_cut [47] (fun v47 wc =>∃(kq:Nat) (x47_2:Bool),v47=.bool x47_2∧Aside0 (doorwardref15_LikeCond.j0 kq x47_2 a0_0 l0_1 a0_2 a0_3 a0_4 a0_5 a1_0 l1_1 a1_2 a1_3 a1_4 a1_5=some r)∧Aside0 (kq≤k)∧Aside0 (wc.heap[gb154]?=some (.cells #[.int .i64 a0_0,(.slice A0_1 l0_1.length c0_1),.int .i64 a0_2,.int .u64 a0_3,.string a0_4,.int .u64 a0_5] 28 (0,0)))∧Aside0 (wc.heap[gb155]?=some (.cells #[.int .i64 a1_0,(.slice A1_1 l1_1.length c1_1),.int .i64 a1_2,.int .u64 a1_3,.string a1_4,.int .u64 a1_5] 28 (0,0)))∧Aside0 (Below w.heap.size w wc))
 case first =>
  have H:=HC3.out
  clear HC3
  by_cases c6:a0_0=a1_0
  ·rw [if_pos c6] at H
   have c6b0:(a0_0==a1_0)=true:=beq_iff_eq.mpr c6
   have c6b1:(a0_0 != a1_0)=false:=bne_eq_false_iff_eq.mpr c6
   clear c6
   (first|rw [c6b0]|(simp only [i64_w,i32_w];rw [c6b0])|skip)
   by_cases c7:a0_2=a1_2
   ·rw [if_pos c7] at H
    have c7b0:(a0_2==a1_2)=true:=beq_iff_eq.mpr c7
    have c7b1:(a0_2 != a1_2)=false:=bne_eq_false_iff_eq.mpr c7
    clear c7
    by_cases c8:a0_3=a1_3
    ·rw [if_pos c8] at H
     have c8b0:(a0_3==a1_3)=true:=beq_iff_eq.mpr c8
     have c8b1:(a0_3 != a1_3)=false:=bne_eq_false_iff_eq.mpr c8
     clear c8
     by_cases c9:a0_4.toList=a1_4.toList
     ·rw [if_pos c9] at H
      have c9b0:(a0_4.toList==a1_4.toList)=true:=beq_iff_eq.mpr c9
      have c9b1:(a0_4.toList != a1_4.toList)=false:=bne_eq_false_iff_eq.mpr c9
      clear c9
      by_cases c10:a0_5=a1_5
      ·rw [if_pos c10] at H
       have c10b0:(a0_5==a1_5)=true:=beq_iff_eq.mpr c10
       have c10b1:(a0_5 != a1_5)=false:=bne_eq_false_iff_eq.mpr c10
       clear c10
       have H':=Aside0.mk H
       clear H
       have hnb11:=NB154_155.out
       have hnc11:=NB155_154.out
       have hcz12_0:w5.cell? ⟨gb154,0,none⟩=some (.int .i64 a0_0):=(blk_cell BK154.out 0).trans rfl
       have hcz12_1:w5.cell? ⟨gb154,1,none⟩=some (.slice A0_1 l0_1.length c0_1):=(blk_cell BK154.out 1).trans rfl
       have hcz12_2:w5.cell? ⟨gb154,2,none⟩=some (.int .i64 a0_2):=(blk_cell BK154.out 2).trans rfl
       have hcz12_3:w5.cell? ⟨gb154,3,none⟩=some (.int .u64 a0_3):=(blk_cell BK154.out 3).trans rfl
       have hcz12_4:w5.cell? ⟨gb154,4,none⟩=some (.string a0_4):=(blk_cell BK154.out 4).trans rfl
       have hcz12_5:w5.cell? ⟨gb154,5,none⟩=some (.int .u64 a0_5):=(blk_cell BK154.out 5).trans rfl
       have hfz12_0:=blk_frozen BK154.out 0
       have hfz12_1:=blk_frozen BK154.out 1
       have hfz12_2:=blk_frozen BK154.out 2
       have hfz12_3:=blk_frozen BK154.out 3
       have hfz12_4:=blk_frozen BK154.out 4
       have hfz12_5:=blk_frozen BK154.out 5
       have hcz13_0:w5.cell? ⟨gb155,0,none⟩=some (.int .i64 a1_0):=(blk_cell BK155.out 0).trans rfl
       have hcz13_1:w5.cell? ⟨gb155,1,none⟩=some (.slice A1_1 l1_1.length c1_1):=(blk_cell BK155.out 1).trans rfl
       have hcz13_2:w5.cell? ⟨gb155,2,none⟩=some (.int .i64 a1_2):=(blk_cell BK155.out 2).trans rfl
       have hcz13_3:w5.cell? ⟨gb155,3,none⟩=some (.int .u64 a1_3):=(blk_cell BK155.out 3).trans rfl
       have hcz13_4:w5.cell? ⟨gb155,4,none⟩=some (.string a1_4):=(blk_cell BK155.out 4).trans rfl
       have hcz13_5:w5.cell? ⟨gb155,5,none⟩=some (.int .u64 a1_5):=(blk_cell BK155.out 5).trans rfl
       have hfz13_0:=blk_frozen BK155.out 0
       have hfz13_1:=blk_frozen BK155.out 1
       have hfz13_2:=blk_frozen BK155.out 2
       have hfz13_3:=blk_frozen BK155.out 3
       have hfz13_4:=blk_frozen BK155.out 4
       have hfz13_5:=blk_frozen BK155.out 5
       go_wp2
       go_meet
       case rel => exact ⟨_,(((l0_1.length:Int) != (l1_1.length:Int))),(by first|rfl|(simp;done)|(simp [*];done)),H',⟨by first|omega|exact Nat.le_refl _⟩,⟨by (with_reducible repeat (first|refine zN ?_|refine zD ?_|refine zA ?_));exact BK154.out⟩,⟨by (with_reducible repeat (first|refine zN ?_|refine zD ?_|refine zA ?_));exact BK155.out⟩,⟨by repeat (first|(with_reducible first|exact HB.out|apply below_alloc|apply pw_below_drewN|apply below_drew1|refine below_set ?_ GE154.out|refine below_set ?_ GE155.out)|exact HB.out)⟩⟩
      ·rw [if_neg c10] at H
       have c10b0:(a0_5==a1_5)=false:=beq_eq_false_iff_ne.mpr c10
       have c10b1:(a0_5 != a1_5)=true:=bne_iff_ne.mpr c10
       have H':=Aside0.mk H
       clear H
       have hnb14:=NB154_155.out
       have hnc14:=NB155_154.out
       have hcz15_0:w5.cell? ⟨gb154,0,none⟩=some (.int .i64 a0_0):=(blk_cell BK154.out 0).trans rfl
       have hcz15_1:w5.cell? ⟨gb154,1,none⟩=some (.slice A0_1 l0_1.length c0_1):=(blk_cell BK154.out 1).trans rfl
       have hcz15_2:w5.cell? ⟨gb154,2,none⟩=some (.int .i64 a0_2):=(blk_cell BK154.out 2).trans rfl
       have hcz15_3:w5.cell? ⟨gb154,3,none⟩=some (.int .u64 a0_3):=(blk_cell BK154.out 3).trans rfl
       have hcz15_4:w5.cell? ⟨gb154,4,none⟩=some (.string a0_4):=(blk_cell BK154.out 4).trans rfl
       have hcz15_5:w5.cell? ⟨gb154,5,none⟩=some (.int .u64 a0_5):=(blk_cell BK154.out 5).trans rfl
       have hfz15_0:=blk_frozen BK154.out 0
       have hfz15_1:=blk_frozen BK154.out 1
       have hfz15_2:=blk_frozen BK154.out 2
       have hfz15_3:=blk_frozen BK154.out 3
       have hfz15_4:=blk_frozen BK154.out 4
       have hfz15_5:=blk_frozen BK154.out 5
       have hcz16_0:w5.cell? ⟨gb155,0,none⟩=some (.int .i64 a1_0):=(blk_cell BK155.out 0).trans rfl
       have hcz16_1:w5.cell? ⟨gb155,1,none⟩=some (.slice A1_1 l1_1.length c1_1):=(blk_cell BK155.out 1).trans rfl
       have hcz16_2:w5.cell? ⟨gb155,2,none⟩=some (.int .i64 a1_2):=(blk_cell BK155.out 2).trans rfl
       have hcz16_3:w5.cell? ⟨gb155,3,none⟩=some (.int .u64 a1_3):=(blk_cell BK155.out 3).trans rfl
       have hcz16_4:w5.cell? ⟨gb155,4,none⟩=some (.string a1_4):=(blk_cell BK155.out 4).trans rfl
       have hcz16_5:w5.cell? ⟨gb155,5,none⟩=some (.int .u64 a1_5):=(blk_cell BK155.out 5).trans rfl
       have hfz16_0:=blk_frozen BK155.out 0
       have hfz16_1:=blk_frozen BK155.out 1
       have hfz16_2:=blk_frozen BK155.out 2
       have hfz16_3:=blk_frozen BK155.out 3
       have hfz16_4:=blk_frozen BK155.out 4
       have hfz16_5:=blk_frozen BK155.out 5
       go_wp2
       go_meet
       case rel => exact ⟨_,(true),(by first|rfl|(simp;done)|(simp [*];done)),H',⟨by first|omega|exact Nat.le_refl _⟩,⟨by (with_reducible repeat (first|refine zN ?_|refine zD ?_|refine zA ?_));exact BK154.out⟩,⟨by (with_reducible repeat (first|refine zN ?_|refine zD ?_|refine zA ?_));exact BK155.out⟩,⟨by repeat (first|(with_reducible first|exact HB.out|apply below_alloc|apply pw_below_drewN|apply below_drew1|refine below_set ?_ GE154.out|refine below_set ?_ GE155.out)|exact HB.out)⟩⟩
     ·rw [if_neg c9] at H
      have c9b0:(a0_4.toList==a1_4.toList)=false:=beq_eq_false_iff_ne.mpr c9
      have c9b1:(a0_4.toList != a1_4.toList)=true:=bne_iff_ne.mpr c9
      have H':=Aside0.mk H
      clear H
      have hnb17:=NB154_155.out
      have hnc17:=NB155_154.out
      have hcz18_0:w5.cell? ⟨gb154,0,none⟩=some (.int .i64 a0_0):=(blk_cell BK154.out 0).trans rfl
      have hcz18_1:w5.cell? ⟨gb154,1,none⟩=some (.slice A0_1 l0_1.length c0_1):=(blk_cell BK154.out 1).trans rfl
      have hcz18_2:w5.cell? ⟨gb154,2,none⟩=some (.int .i64 a0_2):=(blk_cell BK154.out 2).trans rfl
      have hcz18_3:w5.cell? ⟨gb154,3,none⟩=some (.int .u64 a0_3):=(blk_cell BK154.out 3).trans rfl
      have hcz18_4:w5.cell? ⟨gb154,4,none⟩=some (.string a0_4):=(blk_cell BK154.out 4).trans rfl
      have hcz18_5:w5.cell? ⟨gb154,5,none⟩=some (.int .u64 a0_5):=(blk_cell BK154.out 5).trans rfl
      have hfz18_0:=blk_frozen BK154.out 0
      have hfz18_1:=blk_frozen BK154.out 1
      have hfz18_2:=blk_frozen BK154.out 2
      have hfz18_3:=blk_frozen BK154.out 3
      have hfz18_4:=blk_frozen BK154.out 4
      have hfz18_5:=blk_frozen BK154.out 5
      have hcz19_0:w5.cell? ⟨gb155,0,none⟩=some (.int .i64 a1_0):=(blk_cell BK155.out 0).trans rfl
      have hcz19_1:w5.cell? ⟨gb155,1,none⟩=some (.slice A1_1 l1_1.length c1_1):=(blk_cell BK155.out 1).trans rfl
      have hcz19_2:w5.cell? ⟨gb155,2,none⟩=some (.int .i64 a1_2):=(blk_cell BK155.out 2).trans rfl
      have hcz19_3:w5.cell? ⟨gb155,3,none⟩=some (.int .u64 a1_3):=(blk_cell BK155.out 3).trans rfl
      have hcz19_4:w5.cell? ⟨gb155,4,none⟩=some (.string a1_4):=(blk_cell BK155.out 4).trans rfl
      have hcz19_5:w5.cell? ⟨gb155,5,none⟩=some (.int .u64 a1_5):=(blk_cell BK155.out 5).trans rfl
      have hfz19_0:=blk_frozen BK155.out 0
      have hfz19_1:=blk_frozen BK155.out 1
      have hfz19_2:=blk_frozen BK155.out 2
      have hfz19_3:=blk_frozen BK155.out 3
      have hfz19_4:=blk_frozen BK155.out 4
      have hfz19_5:=blk_frozen BK155.out 5
      go_wp2
      go_meet
      case rel => exact ⟨_,(true),(by first|rfl|(simp;done)|(simp [*];done)),H',⟨by first|omega|exact Nat.le_refl _⟩,⟨by (with_reducible repeat (first|refine zN ?_|refine zD ?_|refine zA ?_));exact BK154.out⟩,⟨by (with_reducible repeat (first|refine zN ?_|refine zD ?_|refine zA ?_));exact BK155.out⟩,⟨by repeat (first|(with_reducible first|exact HB.out|apply below_alloc|apply pw_below_drewN|apply below_drew1|refine below_set ?_ GE154.out|refine below_set ?_ GE155.out)|exact HB.out)⟩⟩
    ·rw [if_neg c8] at H
     have c8b0:(a0_3==a1_3)=false:=beq_eq_false_iff_ne.mpr c8
     have c8b1:(a0_3 != a1_3)=true:=bne_iff_ne.mpr c8
     have H':=Aside0.mk H
     clear H
     have hnb20:=NB154_155.out
     have hnc20:=NB155_154.out
     have hcz21_0:w5.cell? ⟨gb154,0,none⟩=some (.int .i64 a0_0):=(blk_cell BK154.out 0).trans rfl
     have hcz21_1:w5.cell? ⟨gb154,1,none⟩=some (.slice A0_1 l0_1.length c0_1):=(blk_cell BK154.out 1).trans rfl
     have hcz21_2:w5.cell? ⟨gb154,2,none⟩=some (.int .i64 a0_2):=(blk_cell BK154.out 2).trans rfl
     have hcz21_3:w5.cell? ⟨gb154,3,none⟩=some (.int .u64 a0_3):=(blk_cell BK154.out 3).trans rfl
     have hcz21_4:w5.cell? ⟨gb154,4,none⟩=some (.string a0_4):=(blk_cell BK154.out 4).trans rfl
     have hcz21_5:w5.cell? ⟨gb154,5,none⟩=some (.int .u64 a0_5):=(blk_cell BK154.out 5).trans rfl
     have hfz21_0:=blk_frozen BK154.out 0
     have hfz21_1:=blk_frozen BK154.out 1
     have hfz21_2:=blk_frozen BK154.out 2
     have hfz21_3:=blk_frozen BK154.out 3
     have hfz21_4:=blk_frozen BK154.out 4
     have hfz21_5:=blk_frozen BK154.out 5
     have hcz22_0:w5.cell? ⟨gb155,0,none⟩=some (.int .i64 a1_0):=(blk_cell BK155.out 0).trans rfl
     have hcz22_1:w5.cell? ⟨gb155,1,none⟩=some (.slice A1_1 l1_1.length c1_1):=(blk_cell BK155.out 1).trans rfl
     have hcz22_2:w5.cell? ⟨gb155,2,none⟩=some (.int .i64 a1_2):=(blk_cell BK155.out 2).trans rfl
     have hcz22_3:w5.cell? ⟨gb155,3,none⟩=some (.int .u64 a1_3):=(blk_cell BK155.out 3).trans rfl
     have hcz22_4:w5.cell? ⟨gb155,4,none⟩=some (.string a1_4):=(blk_cell BK155.out 4).trans rfl
     have hcz22_5:w5.cell? ⟨gb155,5,none⟩=some (.int .u64 a1_5):=(blk_cell BK155.out 5).trans rfl
     have hfz22_0:=blk_frozen BK155.out 0
     have hfz22_1:=blk_frozen BK155.out 1
     have hfz22_2:=blk_frozen BK155.out 2
     have hfz22_3:=blk_frozen BK155.out 3
     have hfz22_4:=blk_frozen BK155.out 4
     have hfz22_5:=blk_frozen BK155.out 5
     go_wp2
     go_meet
     case rel => exact ⟨_,(true),(by first|rfl|(simp;done)|(simp [*];done)),H',⟨by first|omega|exact Nat.le_refl _⟩,⟨by (with_reducible repeat (first|refine zN ?_|refine zD ?_|refine zA ?_));exact BK154.out⟩,⟨by (with_reducible repeat (first|refine zN ?_|refine zD ?_|refine zA ?_));exact BK155.out⟩,⟨by repeat (first|(with_reducible first|exact HB.out|apply below_alloc|apply pw_below_drewN|apply below_drew1|refine below_set ?_ GE154.out|refine below_set ?_ GE155.out)|exact HB.out)⟩⟩
   ·rw [if_neg c7] at H
    have c7b0:(a0_2==a1_2)=false:=beq_eq_false_iff_ne.mpr c7
    have c7b1:(a0_2 != a1_2)=true:=bne_iff_ne.mpr c7
    have H':=Aside0.mk H
    clear H
    have hnb23:=NB154_155.out
    have hnc23:=NB155_154.out
    have hcz24_0:w5.cell? ⟨gb154,0,none⟩=some (.int .i64 a0_0):=(blk_cell BK154.out 0).trans rfl
    have hcz24_1:w5.cell? ⟨gb154,1,none⟩=some (.slice A0_1 l0_1.length c0_1):=(blk_cell BK154.out 1).trans rfl
    have hcz24_2:w5.cell? ⟨gb154,2,none⟩=some (.int .i64 a0_2):=(blk_cell BK154.out 2).trans rfl
    have hcz24_3:w5.cell? ⟨gb154,3,none⟩=some (.int .u64 a0_3):=(blk_cell BK154.out 3).trans rfl
    have hcz24_4:w5.cell? ⟨gb154,4,none⟩=some (.string a0_4):=(blk_cell BK154.out 4).trans rfl
    have hcz24_5:w5.cell? ⟨gb154,5,none⟩=some (.int .u64 a0_5):=(blk_cell BK154.out 5).trans rfl
    have hfz24_0:=blk_frozen BK154.out 0
    have hfz24_1:=blk_frozen BK154.out 1
    have hfz24_2:=blk_frozen BK154.out 2
    have hfz24_3:=blk_frozen BK154.out 3
    have hfz24_4:=blk_frozen BK154.out 4
    have hfz24_5:=blk_frozen BK154.out 5
    have hcz25_0:w5.cell? ⟨gb155,0,none⟩=some (.int .i64 a1_0):=(blk_cell BK155.out 0).trans rfl
    have hcz25_1:w5.cell? ⟨gb155,1,none⟩=some (.slice A1_1 l1_1.length c1_1):=(blk_cell BK155.out 1).trans rfl
    have hcz25_2:w5.cell? ⟨gb155,2,none⟩=some (.int .i64 a1_2):=(blk_cell BK155.out 2).trans rfl
    have hcz25_3:w5.cell? ⟨gb155,3,none⟩=some (.int .u64 a1_3):=(blk_cell BK155.out 3).trans rfl
    have hcz25_4:w5.cell? ⟨gb155,4,none⟩=some (.string a1_4):=(blk_cell BK155.out 4).trans rfl
    have hcz25_5:w5.cell? ⟨gb155,5,none⟩=some (.int .u64 a1_5):=(blk_cell BK155.out 5).trans rfl
    have hfz25_0:=blk_frozen BK155.out 0
    have hfz25_1:=blk_frozen BK155.out 1
    have hfz25_2:=blk_frozen BK155.out 2
    have hfz25_3:=blk_frozen BK155.out 3
    have hfz25_4:=blk_frozen BK155.out 4
    have hfz25_5:=blk_frozen BK155.out 5
    go_wp2
    go_meet
    case rel => exact ⟨_,(true),(by first|rfl|(simp;done)|(simp [*];done)),H',⟨by first|omega|exact Nat.le_refl _⟩,⟨by (with_reducible repeat (first|refine zN ?_|refine zD ?_|refine zA ?_));exact BK154.out⟩,⟨by (with_reducible repeat (first|refine zN ?_|refine zD ?_|refine zA ?_));exact BK155.out⟩,⟨by repeat (first|(with_reducible first|exact HB.out|apply below_alloc|apply pw_below_drewN|apply below_drew1|refine below_set ?_ GE154.out|refine below_set ?_ GE155.out)|exact HB.out)⟩⟩
  ·rw [if_neg c6] at H
   have c6b0:(a0_0==a1_0)=false:=beq_eq_false_iff_ne.mpr c6
   have c6b1:(a0_0 != a1_0)=true:=bne_iff_ne.mpr c6
   (first|rw [c6b0]|(simp only [i64_w,i32_w];rw [c6b0])|skip)
   have H':=Aside0.mk H
   clear H
   have hnb26:=NB154_155.out
   have hnc26:=NB155_154.out
   have hcz27_0:w5.cell? ⟨gb154,0,none⟩=some (.int .i64 a0_0):=(blk_cell BK154.out 0).trans rfl
   have hcz27_1:w5.cell? ⟨gb154,1,none⟩=some (.slice A0_1 l0_1.length c0_1):=(blk_cell BK154.out 1).trans rfl
   have hcz27_2:w5.cell? ⟨gb154,2,none⟩=some (.int .i64 a0_2):=(blk_cell BK154.out 2).trans rfl
   have hcz27_3:w5.cell? ⟨gb154,3,none⟩=some (.int .u64 a0_3):=(blk_cell BK154.out 3).trans rfl
   have hcz27_4:w5.cell? ⟨gb154,4,none⟩=some (.string a0_4):=(blk_cell BK154.out 4).trans rfl
   have hcz27_5:w5.cell? ⟨gb154,5,none⟩=some (.int .u64 a0_5):=(blk_cell BK154.out 5).trans rfl
   have hfz27_0:=blk_frozen BK154.out 0
   have hfz27_1:=blk_frozen BK154.out 1
   have hfz27_2:=blk_frozen BK154.out 2
   have hfz27_3:=blk_frozen BK154.out 3
   have hfz27_4:=blk_frozen BK154.out 4
   have hfz27_5:=blk_frozen BK154.out 5
   have hcz28_0:w5.cell? ⟨gb155,0,none⟩=some (.int .i64 a1_0):=(blk_cell BK155.out 0).trans rfl
   have hcz28_1:w5.cell? ⟨gb155,1,none⟩=some (.slice A1_1 l1_1.length c1_1):=(blk_cell BK155.out 1).trans rfl
   have hcz28_2:w5.cell? ⟨gb155,2,none⟩=some (.int .i64 a1_2):=(blk_cell BK155.out 2).trans rfl
   have hcz28_3:w5.cell? ⟨gb155,3,none⟩=some (.int .u64 a1_3):=(blk_cell BK155.out 3).trans rfl
   have hcz28_4:w5.cell? ⟨gb155,4,none⟩=some (.string a1_4):=(blk_cell BK155.out 4).trans rfl
   have hcz28_5:w5.cell? ⟨gb155,5,none⟩=some (.int .u64 a1_5):=(blk_cell BK155.out 5).trans rfl
   have hfz28_0:=blk_frozen BK155.out 0
   have hfz28_1:=blk_frozen BK155.out 1
   have hfz28_2:=blk_frozen BK155.out 2
   have hfz28_3:=blk_frozen BK155.out 3
   have hfz28_4:=blk_frozen BK155.out 4
   have hfz28_5:=blk_frozen BK155.out 5
   go_wp2
   go_meet
   case rel => exact ⟨_,(true),(by first|rfl|(simp;done)|(simp [*];done)),H',⟨by first|omega|exact Nat.le_refl _⟩,⟨by (with_reducible repeat (first|refine zN ?_|refine zD ?_|refine zA ?_));exact BK154.out⟩,⟨by (with_reducible repeat (first|refine zN ?_|refine zD ?_|refine zA ?_));exact BK155.out⟩,⟨by repeat (first|(with_reducible first|exact HB.out|apply below_alloc|apply pw_below_drewN|apply below_drew1|refine below_set ?_ GE154.out|refine below_set ?_ GE155.out)|exact HB.out)⟩⟩
 case rest =>
  clear HC3
  obtain ⟨kq,x47_2,rfl,HA,HJ2,BK154,BK155,HB⟩:=hcut
  cases kq with
  |  zero => exact absurd HA.out (by simp [doorwardref15_LikeCond.j0])
  |  succ kj2 =>
   have H:=HA.out
   clear HA
   simp only [doorwardref15_LikeCond.j0] at H
   by_cases c29:x47_2=true
   ·subst c29
    have H1:(some false)=some r:=by rw [if_pos rfl] at H;exact H
    clear H
    have H:=H1
    clear H1
    obtain rfl:=Option.some.inj H
    go_wp2
    go_ret
    exact ⟨by first|rfl|(simp [errW_none,errW_some]<;>rfl)|(simp [*,errW_none,errW_some]<;>rfl),by repeat (first|(with_reducible first|exact HB.out|apply below_alloc|apply pw_below_drewN|apply below_drew1|refine below_set ?_ GE154.out|refine below_set ?_ GE155.out)|exact HB.out)⟩
   ·replace c29:=Bool.eq_false_iff.mpr c29
    subst c29
    have H1:(doorwardref15_LikeCond.l0 kj2 (l0_1.length:Int) 0 a0_0 l0_1 a0_2 a0_3 a0_4 a0_5 a1_0 l1_1 a1_2 a1_3 a1_4 a1_5)=some r:=by rw [if_neg (show ¬ (false=true) by decide)] at H;exact H
    clear H
    have H:=H1
    clear H1
    have H':=Aside0.mk H
    clear H
    have hnb30:=NB154_155.out
    have hnc30:=NB155_154.out
    have hcz31_0:wc.cell? ⟨gb154,0,none⟩=some (.int .i64 a0_0):=(blk_cell BK154.out 0).trans rfl
    have hcz31_1:wc.cell? ⟨gb154,1,none⟩=some (.slice A0_1 l0_1.length c0_1):=(blk_cell BK154.out 1).trans rfl
    have hcz31_2:wc.cell? ⟨gb154,2,none⟩=some (.int .i64 a0_2):=(blk_cell BK154.out 2).trans rfl
    have hcz31_3:wc.cell? ⟨gb154,3,none⟩=some (.int .u64 a0_3):=(blk_cell BK154.out 3).trans rfl
    have hcz31_4:wc.cell? ⟨gb154,4,none⟩=some (.string a0_4):=(blk_cell BK154.out 4).trans rfl
    have hcz31_5:wc.cell? ⟨gb154,5,none⟩=some (.int .u64 a0_5):=(blk_cell BK154.out 5).trans rfl
    have hfz31_0:=blk_frozen BK154.out 0
    have hfz31_1:=blk_frozen BK154.out 1
    have hfz31_2:=blk_frozen BK154.out 2
    have hfz31_3:=blk_frozen BK154.out 3
    have hfz31_4:=blk_frozen BK154.out 4
    have hfz31_5:=blk_frozen BK154.out 5
    go_wp2
    go_loopg [51] kj2 (fun kq v51 w' =>∃(x51_2:Int),v51=.int .i64 x51_2∧Aside0 (doorwardref15_LikeCond.l0 kq (l0_1.length:Int) x51_2 a0_0 l0_1 a0_2 a0_3 a0_4 a0_5 a1_0 l1_1 a1_2 a1_3 a1_4 a1_5=some r)∧Aside0 (kq≤kj2)∧Aside0 (w'.heap[gb154]?=some (.cells #[.int .i64 a0_0,(.slice A0_1 l0_1.length c0_1),.int .i64 a0_2,.int .u64 a0_3,.string a0_4,.int .u64 a0_5] 28 (0,0)))∧Aside0 (w'.heap[gb155]?=some (.cells #[.int .i64 a1_0,(.slice A1_1 l1_1.length c1_1),.int .i64 a1_2,.int .u64 a1_3,.string a1_4,.int .u64 a1_5] 28 (0,0)))∧Aside0 (Below w.heap.size w w'))
    case atStart => exact ⟨(0),(by first|rfl|(simp;done)|(simp [*];done)),H',⟨Nat.le_refl _⟩,⟨by (with_reducible repeat (first|refine zN ?_|refine zD ?_|refine zA ?_));exact BK154.out⟩,⟨by (with_reducible repeat (first|refine zN ?_|refine zD ?_|refine zA ?_));exact BK155.out⟩,⟨by repeat (first|(with_reducible first|exact HB.out|apply below_alloc|apply pw_below_drewN|apply below_drew1|refine below_set ?_ GE154.out|refine below_set ?_ GE155.out)|exact HB.out)⟩⟩
    case round =>
     clear H'
     obtain ⟨x51_2,rfl,HA,HK2,BK154,BK155,HB⟩:=hrel
     cases gk with
     |  zero => exact absurd HA.out (by simp [doorwardref15_LikeCond.l0])
     |  succ k2 =>
      have H:=HA.out
      clear HA
      simp only [doorwardref15_LikeCond.l0] at H
      by_cases c32:x51_2<(l0_1.length:Int)
      ·rw [if_pos c32] at H
       have c32b0:decide (x51_2<(l0_1.length:Int))=true:=decide_eq_true c32
       clear c32
       by_cases c33:0≤x51_2
       ·rw [if_pos c33] at H
        have c33b0:decide (0≤x51_2)=true:=decide_eq_true c33
        clear c33
        by_cases c34:x51_2<(l0_1.length:Int)
        ·rw [if_pos c34] at H
         have c34b0:decide (x51_2<(l0_1.length:Int))=true:=decide_eq_true c34
         clear c34
         by_cases c35:x51_2<(l1_1.length:Int)
         ·rw [if_pos c35] at H
          have c35b0:decide (x51_2<(l1_1.length:Int))=true:=decide_eq_true c35
          clear c35
          replace H:=Option.bind_eq_some_iff.mp H
          obtain ⟨t158,A360,H⟩:=H
          replace H:(if t158=true then (doorwardref15_LikeCond.l0 k2 (l0_1.length:Int) (wrap64 (x51_2+1)) a0_0 l0_1 a0_2 a0_3 a0_4 a0_5 a1_0 l1_1 a1_2 a1_3 a1_4 a1_5) else (some false))=some r:=H
          have A36:=Aside0.mk A360
          clear A360
          by_cases c37:t158=true
          ·subst c37
           have H1:(doorwardref15_LikeCond.l0 k2 (l0_1.length:Int) (wrap64 (x51_2+1)) a0_0 l0_1 a0_2 a0_3 a0_4 a0_5 a1_0 l1_1 a1_2 a1_3 a1_4 a1_5)=some r:=by rw [if_pos rfl] at H;exact H
           clear H
           have H:=H1
           clear H1
           have H':=Aside0.mk H
           clear H
           try go_wp2
           have n0_:=Aside0.mk (blk_drew BK154.out)
           have n1_:=Aside0.mk (blk_drew BK155.out)
           have n2_:=Aside0.mk (below_drew1 HB.out)
           clear BK154
           clear BK155
           clear HB
           have BK154:=n0_
           have BK155:=n1_
           have HB:=n2_
           clear n0_ n1_ n2_
           have p156:0≤(x51_2:Int):=of_decide_eq_true (by first|(with_reducible assumption)|assumption)
           have q156:x51_2<(l0_1.length:Int):=of_decide_eq_true (by first|(with_reducible assumption)|assumption)
           obtain ⟨ad156,A156_1,c156_1,e156,hx156_0,hx156_1,hx156_2,hx156_3,hx156_4,hx156_5,hl156_1,hi156_1⟩:=at_T28 HR0_1.out x51_2 p156 q156
           have hw156_5:=hx156_5
           have hw156_4:=hx156_4
           have hw156_3:=hx156_3
           have hw156_2:=hx156_2
           have hw156_1:=hx156_1
           have hw156_0:=hx156_0
           cases e156
           replace hx156_0:=(HB.out.cell (World.block_lt_of_cell? w _ hx156_0)).trans hx156_0
           replace hx156_1:=(HB.out.cell (World.block_lt_of_cell? w _ hx156_1)).trans hx156_1
           replace hx156_2:=(HB.out.cell (World.block_lt_of_cell? w _ hx156_2)).trans hx156_2
           replace hx156_3:=(HB.out.cell (World.block_lt_of_cell? w _ hx156_3)).trans hx156_3
           replace hx156_4:=(HB.out.cell (World.block_lt_of_cell? w _ hx156_4)).trans hx156_4
           replace hx156_5:=(HB.out.cell (World.block_lt_of_cell? w _ hx156_5)).trans hx156_5
           have HR156_1:=Aside0.mk hi156_1
           have HC156_1:=Aside0.mk hl156_1
           clear hi156_1 hl156_1
           replace p156:=eq_true p156
           replace q156:=eq_true q156
           have p157:0≤(x51_2:Int):=of_decide_eq_true (by first|(with_reducible assumption)|assumption)
           have q157:x51_2<(l1_1.length:Int):=of_decide_eq_true (by first|(with_reducible assumption)|assumption)
           obtain ⟨ad157,A157_1,c157_1,e157,hx157_0,hx157_1,hx157_2,hx157_3,hx157_4,hx157_5,hl157_1,hi157_1⟩:=at_T28 HR1_1.out x51_2 p157 q157
           have hw157_5:=hx157_5
           have hw157_4:=hx157_4
           have hw157_3:=hx157_3
           have hw157_2:=hx157_2
           have hw157_1:=hx157_1
           have hw157_0:=hx157_0
           cases e157
           replace hx157_0:=(HB.out.cell (World.block_lt_of_cell? w _ hx157_0)).trans hx157_0
           replace hx157_1:=(HB.out.cell (World.block_lt_of_cell? w _ hx157_1)).trans hx157_1
           replace hx157_2:=(HB.out.cell (World.block_lt_of_cell? w _ hx157_2)).trans hx157_2
           replace hx157_3:=(HB.out.cell (World.block_lt_of_cell? w _ hx157_3)).trans hx157_3
           replace hx157_4:=(HB.out.cell (World.block_lt_of_cell? w _ hx157_4)).trans hx157_4
           replace hx157_5:=(HB.out.cell (World.block_lt_of_cell? w _ hx157_5)).trans hx157_5
           have HR157_1:=Aside0.mk hi157_1
           have HC157_1:=Aside0.mk hl157_1
           clear hi157_1 hl157_1
           replace p157:=eq_true p157
           replace q157:=eq_true q157
           refine start_ (n:=12) (S:=fun w' => w'.cell? ⟨gb154,0,none⟩=some (.int .i64 a0_0)∧w'.cell? ⟨gb154,1,none⟩=some (.slice (some ad156) l0_1.length c0_1)∧w'.cell? ⟨gb154,2,none⟩=some (.int .i64 a0_2)∧w'.cell? ⟨gb154,3,none⟩=some (.int .u64 a0_3)∧w'.cell? ⟨gb154,4,none⟩=some (.string a0_4)∧w'.cell? ⟨gb154,5,none⟩=some (.int .u64 a0_5)∧w'.cell? ⟨gb155,0,none⟩=some (.int .i64 a1_0)∧w'.cell? ⟨gb155,1,none⟩=some (.slice (some ad157) l1_1.length c1_1)∧w'.cell? ⟨gb155,2,none⟩=some (.int .i64 a1_2)∧w'.cell? ⟨gb155,3,none⟩=some (.int .u64 a1_3)∧w'.cell? ⟨gb155,4,none⟩=some (.string a1_4)∧w'.cell? ⟨gb155,5,none⟩=some (.int .u64 a1_5)∧w'.cell? (ad156.add ((x51_2).toNat * 6))=some (.int .i64 ((rd_T28 l0_1 x51_2).f0))∧w'.cell? ⟨(ad156.add ((x51_2).toNat * 6)).block,(ad156.add ((x51_2).toNat * 6)).off+1,none⟩=some (.slice A156_1 ((rd_T28 l0_1 x51_2).f1).length c156_1)∧w'.cell? ⟨(ad156.add ((x51_2).toNat * 6)).block,(ad156.add ((x51_2).toNat * 6)).off+2,none⟩=some (.int .i64 ((rd_T28 l0_1 x51_2).f2))∧w'.cell? ⟨(ad156.add ((x51_2).toNat * 6)).block,(ad156.add ((x51_2).toNat * 6)).off+3,none⟩=some (.int .u64 ((rd_T28 l0_1 x51_2).f3))∧w'.cell? ⟨(ad156.add ((x51_2).toNat * 6)).block,(ad156.add ((x51_2).toNat * 6)).off+4,none⟩=some (.string ((rd_T28 l0_1 x51_2).f4))∧w'.cell? ⟨(ad156.add ((x51_2).toNat * 6)).block,(ad156.add ((x51_2).toNat * 6)).off+5,none⟩=some (.int .u64 ((rd_T28 l0_1 x51_2).f5))∧w'.cell? (ad157.add ((x51_2).toNat * 6))=some (.int .i64 ((rd_T28 l1_1 x51_2).f0))∧w'.cell? ⟨(ad157.add ((x51_2).toNat * 6)).block,(ad157.add ((x51_2).toNat * 6)).off+1,none⟩=some (.slice A157_1 ((rd_T28 l1_1 x51_2).f1).length c157_1)∧w'.cell? ⟨(ad157.add ((x51_2).toNat * 6)).block,(ad157.add ((x51_2).toNat * 6)).off+2,none⟩=some (.int .i64 ((rd_T28 l1_1 x51_2).f2))∧w'.cell? ⟨(ad157.add ((x51_2).toNat * 6)).block,(ad157.add ((x51_2).toNat * 6)).off+3,none⟩=some (.int .u64 ((rd_T28 l1_1 x51_2).f3))∧w'.cell? ⟨(ad157.add ((x51_2).toNat * 6)).block,(ad157.add ((x51_2).toNat * 6)).off+4,none⟩=some (.string ((rd_T28 l1_1 x51_2).f4))∧w'.cell? ⟨(ad157.add ((x51_2).toNat * 6)).block,(ad157.add ((x51_2).toNat * 6)).off+5,none⟩=some (.int .u64 ((rd_T28 l1_1 x51_2).f5))) (ds:=[]) #[false,false,false,false,false,false,false,false,false,false,false,false] (by kernel_rfl) rfl rfl ⟨(blk_cell BK154.out 0).trans rfl,(blk_cell BK154.out 1).trans rfl,(blk_cell BK154.out 2).trans rfl,(blk_cell BK154.out 3).trans rfl,(blk_cell BK154.out 4).trans rfl,(blk_cell BK154.out 5).trans rfl,(blk_cell BK155.out 0).trans rfl,(blk_cell BK155.out 1).trans rfl,(blk_cell BK155.out 2).trans rfl,(blk_cell BK155.out 3).trans rfl,(blk_cell BK155.out 4).trans rfl,(blk_cell BK155.out 5).trans rfl,((HB.out.cell (World.block_lt_of_cell? w _ hw156_0)).trans hw156_0),((HB.out.cell (World.block_lt_of_cell? w _ hw156_1)).trans hw156_1),((HB.out.cell (World.block_lt_of_cell? w _ hw156_2)).trans hw156_2),((HB.out.cell (World.block_lt_of_cell? w _ hw156_3)).trans hw156_3),((HB.out.cell (World.block_lt_of_cell? w _ hw156_4)).trans hw156_4),((HB.out.cell (World.block_lt_of_cell? w _ hw156_5)).trans hw156_5),((HB.out.cell (World.block_lt_of_cell? w _ hw157_0)).trans hw157_0),((HB.out.cell (World.block_lt_of_cell? w _ hw157_1)).trans hw157_1),((HB.out.cell (World.block_lt_of_cell? w _ hw157_2)).trans hw157_2),((HB.out.cell (World.block_lt_of_cell? w _ hw157_3)).trans hw157_3),((HB.out.cell (World.block_lt_of_cell? w _ hw157_4)).trans hw157_4),((HB.out.cell (World.block_lt_of_cell? w _ hw157_5)).trans hw157_5)⟩ (fun hHeld => ?_);refine with_tabW doorwardref15_LikeCond.tab6 doorwardref15_LikeCond.bits6 (fun HT_ HW_ => ?_)
           generalize wr.drew=w38 at BK154 BK155 HB HR156_1 HR157_1 hx156_0 hx156_1 hx156_2 hx156_3 hx156_4 hx156_5 hx157_0 hx157_1 hx157_2 hx157_3 hx157_4 hx157_5 hHeld ⊢
           refine pure_ (i:=0) (N:=some 54) (v:=?_) (a':=?_) #[true,false,false,false,false,false,false,false,false,false,false,false] rfl rfl (any_of HT_.out (by kernel_rfl)) (fun _ _ _ h => h) (Or.inl ⟨by rfl,?_⟩) ?_ ?_
           rotate_left
           ·intro w'
            go_simp
            with_reducible rfl
           rotate_left
           ·simp only [Act.put,List.setIfInBounds_toArray,List.set_cons_zero,List.set_cons_succ,i64_w,i32_w]
            rfl
           refine pure_ (i:=2) (N:=some 56) (v:=?_) (a':=?_) #[true,false,true,false,false,false,false,false,false,false,false,false] rfl rfl (any_of HT_.out (by kernel_rfl)) (fun _ _ _ h => h) (Or.inl ⟨by rfl,?_⟩) ?_ ?_
           rotate_left
           ·intro w'
            go_simp
            with_reducible rfl
           rotate_left
           ·simp only [Act.put,List.setIfInBounds_toArray,List.set_cons_zero,List.set_cons_succ,i64_w,i32_w]
            rfl
           refine pure_ (i:=5) (N:=some 59) (v:=?_) (a':=?_) #[true,false,true,false,false,true,false,false,false,false,false,false] rfl rfl (any_of HT_.out (by kernel_rfl)) (fun _ _ _ h => h) (Or.inl ⟨by rfl,?_⟩) ?_ ?_
           rotate_left
           ·intro w'
            go_simp
            with_reducible rfl
           rotate_left
           ·simp only [Act.put,List.setIfInBounds_toArray,List.set_cons_zero,List.set_cons_succ,i64_w,i32_w]
            rfl
           refine pure_ (i:=7) (N:=some 61) (v:=?_) (a':=?_) #[true,false,true,false,false,true,false,true,false,false,false,false] rfl rfl (any_of HT_.out (by kernel_rfl)) (fun _ _ _ h => h) (Or.inl ⟨by rfl,?_⟩) ?_ ?_
           rotate_left
           ·intro w'
            go_simp
            with_reducible rfl
           rotate_left
           ·simp only [Act.put,List.setIfInBounds_toArray,List.set_cons_zero,List.set_cons_succ,i64_w,i32_w]
            rfl
           refine take_ (i:=1) (N:=some 55) (v:=?_) (a':=?_) #[true,true,true,false,false,true,false,true,false,false,false,false] rfl rfl (take_ofW HT_.out HW_.out (by kernel_rfl)) (fun _ _ _ h => h) (Or.inl ⟨by rfl,?_⟩) hHeld ?_ ?_
           rotate_left
           ·rintro w' ⟨s0,s1,s2,s3,s4,s5,s6,s7,s8,s9,s10,s11,s12,s13,s14,s15,s16,s17,s18,s19,s20,s21,s22,s23⟩
            go_simp
            with_reducible rfl
           rotate_left
           ·simp only [Act.put,List.setIfInBounds_toArray,List.set_cons_zero,List.set_cons_succ,i64_w,i32_w]
            rfl
           refine pure_ (i:=3) (N:=some 57) (v:=?_) (a':=?_) #[true,true,true,true,false,true,false,true,false,false,false,false] rfl rfl (any_of HT_.out (by kernel_rfl)) (fun _ _ _ h => h) (Or.inl ⟨by rfl,?_⟩) ?_ ?_
           rotate_left
           ·intro w'
            go_simp
            with_reducible rfl
           rotate_left
           ·simp only [Act.put,List.setIfInBounds_toArray,List.set_cons_zero,List.set_cons_succ,i64_w,i32_w]
            rfl
           refine take_ (i:=4) (N:=some 58) (v:=?_) (a':=?_) #[true,true,true,true,true,true,false,true,false,false,false,false] rfl rfl (take_ofW HT_.out HW_.out (by kernel_rfl)) (fun _ _ _ h => h) (Or.inl ⟨by rfl,?_⟩) hHeld ?_ ?_
           rotate_left
           ·rintro w' ⟨s0,s1,s2,s3,s4,s5,s6,s7,s8,s9,s10,s11,s12,s13,s14,s15,s16,s17,s18,s19,s20,s21,s22,s23⟩
            go_simp
            with_reducible rfl
           rotate_left
           ·simp only [Act.put,List.setIfInBounds_toArray,List.set_cons_zero,List.set_cons_succ,i64_w,i32_w]
            rfl
           refine take_ (i:=6) (N:=some 60) (v:=?_) (a':=?_) #[true,true,true,true,true,true,true,true,false,false,false,false] rfl rfl (take_ofW HT_.out HW_.out (by kernel_rfl)) (fun _ _ _ h => h) (Or.inl ⟨by rfl,?_⟩) hHeld ?_ ?_
           rotate_left
           ·rintro w' ⟨s0,s1,s2,s3,s4,s5,s6,s7,s8,s9,s10,s11,s12,s13,s14,s15,s16,s17,s18,s19,s20,s21,s22,s23⟩
            go_simp
            with_reducible rfl
           rotate_left
           ·simp only [Act.put,List.setIfInBounds_toArray,List.set_cons_zero,List.set_cons_succ,i64_w,i32_w]
            rfl
           refine pure_ (i:=8) (N:=some 62) (v:=?_) (a':=?_) #[true,true,true,true,true,true,true,true,true,false,false,false] rfl rfl (any_of HT_.out (by kernel_rfl)) (fun _ _ _ h => h) (Or.inl ⟨by rfl,?_⟩) ?_ ?_
           rotate_left
           ·intro w'
            go_simp
            with_reducible rfl
           rotate_left
           ·simp only [Act.put,List.setIfInBounds_toArray,List.set_cons_zero,List.set_cons_succ,i64_w,i32_w]
            rfl
           refine take_ (i:=9) (N:=some 63) (v:=?_) (a':=?_) #[true,true,true,true,true,true,true,true,true,true,false,false] rfl rfl (take_ofW HT_.out HW_.out (by kernel_rfl)) (fun _ _ _ h => h) (Or.inl ⟨by rfl,?_⟩) hHeld ?_ ?_
           rotate_left
           ·rintro w' ⟨s0,s1,s2,s3,s4,s5,s6,s7,s8,s9,s10,s11,s12,s13,s14,s15,s16,s17,s18,s19,s20,s21,s22,s23⟩
            go_simp
            with_reducible rfl
           rotate_left
           ·simp only [Act.put,List.setIfInBounds_toArray,List.set_cons_zero,List.set_cons_succ,i64_w,i32_w]
            rfl
           refine one_ (i:=10) (N:=some 64) #[true,true,true,true,true,true,true,true,true,true,true,false] rfl rfl (one_of HT_.out (by kernel_rfl)) (by decide) (fun K hK => ?_)
           refine goes_ Tryz.func31 (by kernel_rfl) rfl #[.agg #[.int .i64 ((rd_T28 l0_1 x51_2).f0),.slice A156_1 ((rd_T28 l0_1 x51_2).f1).length c156_1,.int .i64 ((rd_T28 l0_1 x51_2).f2),.int .u64 ((rd_T28 l0_1 x51_2).f3),.string ((rd_T28 l0_1 x51_2).f4),.int .u64 ((rd_T28 l0_1 x51_2).f5)],.agg #[.int .i64 ((rd_T28 l1_1 x51_2).f0),.slice A157_1 ((rd_T28 l1_1 x51_2).f1).length c157_1,.int .i64 ((rd_T28 l1_1 x51_2).f2),.int .u64 ((rd_T28 l1_1 x51_2).f3),.string ((rd_T28 l1_1 x51_2).f4),.int .u64 ((rd_T28 l1_1 x51_2).f5)]] (by rfl) rfl rfl (by (try simp only [List.map_toArray,List.map_cons,List.map_nil]);first|done|rfl|(simp only [List.length_drop,List.length_take];rfl)) ?_
           with_reducible refine (ih k2 (by have:=HJ2.out;have:=HK2.out;omega) ((rd_T28 l0_1 x51_2).f0) _ _ ((rd_T28 l0_1 x51_2).f1) ((rd_T28 l0_1 x51_2).f2) ((rd_T28 l0_1 x51_2).f3) ((rd_T28 l0_1 x51_2).f4) ((rd_T28 l0_1 x51_2).f5) ((rd_T28 l1_1 x51_2).f0) _ _ ((rd_T28 l1_1 x51_2).f1) ((rd_T28 l1_1 x51_2).f2) ((rd_T28 l1_1 x51_2).f3) ((rd_T28 l1_1 x51_2).f4) ((rd_T28 l1_1 x51_2).f5) true _ ?side1 ?side2 ?side3 ?side4 ?side5 A36.out).mono ?_
           (case side1 => repeat (first|exact (Kd.C_below HR156_1.out HB.out)|(with_reducible refine Kd.C_alloc ?_ _)|(with_reducible refine Kd.C_drewN ?_ _)|(with_reducible refine Kd.C_drew ?_)))
           (case side2 => exact HC156_1.out)
           (case side3 => repeat (first|exact (Kd.C_below HR157_1.out HB.out)|(with_reducible refine Kd.C_alloc ?_ _)|(with_reducible refine Kd.C_drewN ?_ _)|(with_reducible refine Kd.C_drew ?_)))
           (case side4 => exact HC157_1.out)
           (case side5 => exact LaidAt.of HLD.out (by repeat (first|(with_reducible first|exact HB.out|apply below_alloc|apply pw_below_drewN|apply below_drew1|refine below_set ?_ GE154.out|refine below_set ?_ GE155.out)|exact HB.out)))
           rintro e w39 ⟨rfl,hb⟩
           refine ⟨_,rfl,?_⟩
           have n0_:=Aside0.mk (blk_below (g:=gb154) (o:=.cells #[.int .i64 a0_0,.slice (some ad156) l0_1.length c0_1,.int .i64 a0_2,.int .u64 a0_3,.string a0_4,.int .u64 a0_5] 28 (0,0)) (by (with_reducible repeat (first|refine zN ?_|refine zD ?_|refine zA ?_));exact BK154.out) hb)
           have n1_:=Aside0.mk (blk_below (g:=gb155) (o:=.cells #[.int .i64 a1_0,.slice (some ad157) l1_1.length c1_1,.int .i64 a1_2,.int .u64 a1_3,.string a1_4,.int .u64 a1_5] 28 (0,0)) (by (with_reducible repeat (first|refine zN ?_|refine zD ?_|refine zA ?_));exact BK155.out) hb)
           have n2_:=Aside0.mk (below_step (by repeat (first|(with_reducible first|exact HB.out|apply below_alloc|apply pw_below_drewN|apply below_drew1|refine below_set ?_ GE154.out|refine below_set ?_ GE155.out)|exact HB.out)) hb)
           clear BK154
           clear BK155
           clear HB
           have BK154:=n0_
           have BK155:=n1_
           have HB:=n2_
           clear n0_ n1_ n2_
           (try clear hb)
           (try clear hb2)
           (try clear hk)
           (try clear hi)
           refine hK.out _ _ ⟨(blk_cell BK154.out 0).trans rfl,(blk_cell BK154.out 1).trans rfl,(blk_cell BK154.out 2).trans rfl,(blk_cell BK154.out 3).trans rfl,(blk_cell BK154.out 4).trans rfl,(blk_cell BK154.out 5).trans rfl,(blk_cell BK155.out 0).trans rfl,(blk_cell BK155.out 1).trans rfl,(blk_cell BK155.out 2).trans rfl,(blk_cell BK155.out 3).trans rfl,(blk_cell BK155.out 4).trans rfl,(blk_cell BK155.out 5).trans rfl,((HB.out.cell (World.block_lt_of_cell? w _ hw156_0)).trans hw156_0),((HB.out.cell (World.block_lt_of_cell? w _ hw156_1)).trans hw156_1),((HB.out.cell (World.block_lt_of_cell? w _ hw156_2)).trans hw156_2),((HB.out.cell (World.block_lt_of_cell? w _ hw156_3)).trans hw156_3),((HB.out.cell (World.block_lt_of_cell? w _ hw156_4)).trans hw156_4),((HB.out.cell (World.block_lt_of_cell? w _ hw156_5)).trans hw156_5),((HB.out.cell (World.block_lt_of_cell? w _ hw157_0)).trans hw157_0),((HB.out.cell (World.block_lt_of_cell? w _ hw157_1)).trans hw157_1),((HB.out.cell (World.block_lt_of_cell? w _ hw157_2)).trans hw157_2),((HB.out.cell (World.block_lt_of_cell? w _ hw157_3)).trans hw157_3),((HB.out.cell (World.block_lt_of_cell? w _ hw157_4)).trans hw157_4),((HB.out.cell (World.block_lt_of_cell? w _ hw157_5)).trans hw157_5)⟩ (fun hHeld => ?_)
           clear hK K
           refine norm_ (a':=?_) ?_ ?_
           rotate_left
           ·show Act.put _ (some 64) _=_
            simp only [Act.put,List.setIfInBounds_toArray,List.set_cons_zero,List.set_cons_succ,i64_w,i32_w]
            rfl
           refine pure_ (i:=11) (N:=some 65) (v:=?_) (a':=?_) #[true,true,true,true,true,true,true,true,true,true,true,true] rfl rfl (any_of HT_.out (by kernel_rfl)) (fun _ _ _ h => h) (Or.inl ⟨by rfl,?_⟩) ?_ ?_
           rotate_left
           ·intro w'
            go_simp
            with_reducible rfl
           rotate_left
           ·simp only [Act.put,List.setIfInBounds_toArray,List.set_cons_zero,List.set_cons_succ,i64_w,i32_w]
            rfl
           refine done_ (done_of HT_.out (by kernel_rfl)) ?_
           try go_wp2
           go_roundg k2
           case measure => have:=HJ2.out;have:=HK2.out;omega
           case rel => exact ⟨(wrap64 (x51_2+1)),(by first|rfl|(simp;done)|(simp [*];done)),H',⟨by have:=HJ2.out;have:=HK2.out;omega⟩,⟨by (with_reducible repeat (first|refine zN ?_|refine zD ?_|refine zA ?_));exact BK154.out⟩,⟨by (with_reducible repeat (first|refine zN ?_|refine zD ?_|refine zA ?_));exact BK155.out⟩,⟨by repeat (first|(with_reducible first|exact HB.out|apply below_alloc|apply pw_below_drewN|apply below_drew1|refine below_set ?_ GE154.out|refine below_set ?_ GE155.out)|exact HB.out)⟩⟩
          ·replace c37:=Bool.eq_false_iff.mpr c37
           subst c37
           have H1:(some false)=some r:=by rw [if_neg (show ¬ (false=true) by decide)] at H;exact H
           clear H
           have H:=H1
           clear H1
           obtain rfl:=Option.some.inj H
           try go_wp2
           have n0_:=Aside0.mk (blk_drew BK154.out)
           have n1_:=Aside0.mk (blk_drew BK155.out)
           have n2_:=Aside0.mk (below_drew1 HB.out)
           clear BK154
           clear BK155
           clear HB
           have BK154:=n0_
           have BK155:=n1_
           have HB:=n2_
           clear n0_ n1_ n2_
           have p156:0≤(x51_2:Int):=of_decide_eq_true (by first|(with_reducible assumption)|assumption)
           have q156:x51_2<(l0_1.length:Int):=of_decide_eq_true (by first|(with_reducible assumption)|assumption)
           obtain ⟨ad156,A156_1,c156_1,e156,hx156_0,hx156_1,hx156_2,hx156_3,hx156_4,hx156_5,hl156_1,hi156_1⟩:=at_T28 HR0_1.out x51_2 p156 q156
           have hw156_5:=hx156_5
           have hw156_4:=hx156_4
           have hw156_3:=hx156_3
           have hw156_2:=hx156_2
           have hw156_1:=hx156_1
           have hw156_0:=hx156_0
           cases e156
           replace hx156_0:=(HB.out.cell (World.block_lt_of_cell? w _ hx156_0)).trans hx156_0
           replace hx156_1:=(HB.out.cell (World.block_lt_of_cell? w _ hx156_1)).trans hx156_1
           replace hx156_2:=(HB.out.cell (World.block_lt_of_cell? w _ hx156_2)).trans hx156_2
           replace hx156_3:=(HB.out.cell (World.block_lt_of_cell? w _ hx156_3)).trans hx156_3
           replace hx156_4:=(HB.out.cell (World.block_lt_of_cell? w _ hx156_4)).trans hx156_4
           replace hx156_5:=(HB.out.cell (World.block_lt_of_cell? w _ hx156_5)).trans hx156_5
           have HR156_1:=Aside0.mk hi156_1
           have HC156_1:=Aside0.mk hl156_1
           clear hi156_1 hl156_1
           replace p156:=eq_true p156
           replace q156:=eq_true q156
           have p157:0≤(x51_2:Int):=of_decide_eq_true (by first|(with_reducible assumption)|assumption)
           have q157:x51_2<(l1_1.length:Int):=of_decide_eq_true (by first|(with_reducible assumption)|assumption)
           obtain ⟨ad157,A157_1,c157_1,e157,hx157_0,hx157_1,hx157_2,hx157_3,hx157_4,hx157_5,hl157_1,hi157_1⟩:=at_T28 HR1_1.out x51_2 p157 q157
           have hw157_5:=hx157_5
           have hw157_4:=hx157_4
           have hw157_3:=hx157_3
           have hw157_2:=hx157_2
           have hw157_1:=hx157_1
           have hw157_0:=hx157_0
           cases e157
           replace hx157_0:=(HB.out.cell (World.block_lt_of_cell? w _ hx157_0)).trans hx157_0
           replace hx157_1:=(HB.out.cell (World.block_lt_of_cell? w _ hx157_1)).trans hx157_1
           replace hx157_2:=(HB.out.cell (World.block_lt_of_cell? w _ hx157_2)).trans hx157_2
           replace hx157_3:=(HB.out.cell (World.block_lt_of_cell? w _ hx157_3)).trans hx157_3
           replace hx157_4:=(HB.out.cell (World.block_lt_of_cell? w _ hx157_4)).trans hx157_4
           replace hx157_5:=(HB.out.cell (World.block_lt_of_cell? w _ hx157_5)).trans hx157_5
           have HR157_1:=Aside0.mk hi157_1
           have HC157_1:=Aside0.mk hl157_1
           clear hi157_1 hl157_1
           replace p157:=eq_true p157
           replace q157:=eq_true q157
           refine start_ (n:=12) (S:=fun w' => w'.cell? ⟨gb154,0,none⟩=some (.int .i64 a0_0)∧w'.cell? ⟨gb154,1,none⟩=some (.slice (some ad156) l0_1.length c0_1)∧w'.cell? ⟨gb154,2,none⟩=some (.int .i64 a0_2)∧w'.cell? ⟨gb154,3,none⟩=some (.int .u64 a0_3)∧w'.cell? ⟨gb154,4,none⟩=some (.string a0_4)∧w'.cell? ⟨gb154,5,none⟩=some (.int .u64 a0_5)∧w'.cell? ⟨gb155,0,none⟩=some (.int .i64 a1_0)∧w'.cell? ⟨gb155,1,none⟩=some (.slice (some ad157) l1_1.length c1_1)∧w'.cell? ⟨gb155,2,none⟩=some (.int .i64 a1_2)∧w'.cell? ⟨gb155,3,none⟩=some (.int .u64 a1_3)∧w'.cell? ⟨gb155,4,none⟩=some (.string a1_4)∧w'.cell? ⟨gb155,5,none⟩=some (.int .u64 a1_5)∧w'.cell? (ad156.add ((x51_2).toNat * 6))=some (.int .i64 ((rd_T28 l0_1 x51_2).f0))∧w'.cell? ⟨(ad156.add ((x51_2).toNat * 6)).block,(ad156.add ((x51_2).toNat * 6)).off+1,none⟩=some (.slice A156_1 ((rd_T28 l0_1 x51_2).f1).length c156_1)∧w'.cell? ⟨(ad156.add ((x51_2).toNat * 6)).block,(ad156.add ((x51_2).toNat * 6)).off+2,none⟩=some (.int .i64 ((rd_T28 l0_1 x51_2).f2))∧w'.cell? ⟨(ad156.add ((x51_2).toNat * 6)).block,(ad156.add ((x51_2).toNat * 6)).off+3,none⟩=some (.int .u64 ((rd_T28 l0_1 x51_2).f3))∧w'.cell? ⟨(ad156.add ((x51_2).toNat * 6)).block,(ad156.add ((x51_2).toNat * 6)).off+4,none⟩=some (.string ((rd_T28 l0_1 x51_2).f4))∧w'.cell? ⟨(ad156.add ((x51_2).toNat * 6)).block,(ad156.add ((x51_2).toNat * 6)).off+5,none⟩=some (.int .u64 ((rd_T28 l0_1 x51_2).f5))∧w'.cell? (ad157.add ((x51_2).toNat * 6))=some (.int .i64 ((rd_T28 l1_1 x51_2).f0))∧w'.cell? ⟨(ad157.add ((x51_2).toNat * 6)).block,(ad157.add ((x51_2).toNat * 6)).off+1,none⟩=some (.slice A157_1 ((rd_T28 l1_1 x51_2).f1).length c157_1)∧w'.cell? ⟨(ad157.add ((x51_2).toNat * 6)).block,(ad157.add ((x51_2).toNat * 6)).off+2,none⟩=some (.int .i64 ((rd_T28 l1_1 x51_2).f2))∧w'.cell? ⟨(ad157.add ((x51_2).toNat * 6)).block,(ad157.add ((x51_2).toNat * 6)).off+3,none⟩=some (.int .u64 ((rd_T28 l1_1 x51_2).f3))∧w'.cell? ⟨(ad157.add ((x51_2).toNat * 6)).block,(ad157.add ((x51_2).toNat * 6)).off+4,none⟩=some (.string ((rd_T28 l1_1 x51_2).f4))∧w'.cell? ⟨(ad157.add ((x51_2).toNat * 6)).block,(ad157.add ((x51_2).toNat * 6)).off+5,none⟩=some (.int .u64 ((rd_T28 l1_1 x51_2).f5))) (ds:=[]) #[false,false,false,false,false,false,false,false,false,false,false,false] (by kernel_rfl) rfl rfl ⟨(blk_cell BK154.out 0).trans rfl,(blk_cell BK154.out 1).trans rfl,(blk_cell BK154.out 2).trans rfl,(blk_cell BK154.out 3).trans rfl,(blk_cell BK154.out 4).trans rfl,(blk_cell BK154.out 5).trans rfl,(blk_cell BK155.out 0).trans rfl,(blk_cell BK155.out 1).trans rfl,(blk_cell BK155.out 2).trans rfl,(blk_cell BK155.out 3).trans rfl,(blk_cell BK155.out 4).trans rfl,(blk_cell BK155.out 5).trans rfl,((HB.out.cell (World.block_lt_of_cell? w _ hw156_0)).trans hw156_0),((HB.out.cell (World.block_lt_of_cell? w _ hw156_1)).trans hw156_1),((HB.out.cell (World.block_lt_of_cell? w _ hw156_2)).trans hw156_2),((HB.out.cell (World.block_lt_of_cell? w _ hw156_3)).trans hw156_3),((HB.out.cell (World.block_lt_of_cell? w _ hw156_4)).trans hw156_4),((HB.out.cell (World.block_lt_of_cell? w _ hw156_5)).trans hw156_5),((HB.out.cell (World.block_lt_of_cell? w _ hw157_0)).trans hw157_0),((HB.out.cell (World.block_lt_of_cell? w _ hw157_1)).trans hw157_1),((HB.out.cell (World.block_lt_of_cell? w _ hw157_2)).trans hw157_2),((HB.out.cell (World.block_lt_of_cell? w _ hw157_3)).trans hw157_3),((HB.out.cell (World.block_lt_of_cell? w _ hw157_4)).trans hw157_4),((HB.out.cell (World.block_lt_of_cell? w _ hw157_5)).trans hw157_5)⟩ (fun hHeld => ?_);refine with_tabW doorwardref15_LikeCond.tab6 doorwardref15_LikeCond.bits6 (fun HT_ HW_ => ?_)
           generalize wr.drew=w40 at BK154 BK155 HB HR156_1 HR157_1 hx156_0 hx156_1 hx156_2 hx156_3 hx156_4 hx156_5 hx157_0 hx157_1 hx157_2 hx157_3 hx157_4 hx157_5 hHeld ⊢
           refine pure_ (i:=0) (N:=some 54) (v:=?_) (a':=?_) #[true,false,false,false,false,false,false,false,false,false,false,false] rfl rfl (any_of HT_.out (by kernel_rfl)) (fun _ _ _ h => h) (Or.inl ⟨by rfl,?_⟩) ?_ ?_
           rotate_left
           ·intro w'
            go_simp
            with_reducible rfl
           rotate_left
           ·simp only [Act.put,List.setIfInBounds_toArray,List.set_cons_zero,List.set_cons_succ,i64_w,i32_w]
            rfl
           refine pure_ (i:=2) (N:=some 56) (v:=?_) (a':=?_) #[true,false,true,false,false,false,false,false,false,false,false,false] rfl rfl (any_of HT_.out (by kernel_rfl)) (fun _ _ _ h => h) (Or.inl ⟨by rfl,?_⟩) ?_ ?_
           rotate_left
           ·intro w'
            go_simp
            with_reducible rfl
           rotate_left
           ·simp only [Act.put,List.setIfInBounds_toArray,List.set_cons_zero,List.set_cons_succ,i64_w,i32_w]
            rfl
           refine pure_ (i:=5) (N:=some 59) (v:=?_) (a':=?_) #[true,false,true,false,false,true,false,false,false,false,false,false] rfl rfl (any_of HT_.out (by kernel_rfl)) (fun _ _ _ h => h) (Or.inl ⟨by rfl,?_⟩) ?_ ?_
           rotate_left
           ·intro w'
            go_simp
            with_reducible rfl
           rotate_left
           ·simp only [Act.put,List.setIfInBounds_toArray,List.set_cons_zero,List.set_cons_succ,i64_w,i32_w]
            rfl
           refine pure_ (i:=7) (N:=some 61) (v:=?_) (a':=?_) #[true,false,true,false,false,true,false,true,false,false,false,false] rfl rfl (any_of HT_.out (by kernel_rfl)) (fun _ _ _ h => h) (Or.inl ⟨by rfl,?_⟩) ?_ ?_
           rotate_left
           ·intro w'
            go_simp
            with_reducible rfl
           rotate_left
           ·simp only [Act.put,List.setIfInBounds_toArray,List.set_cons_zero,List.set_cons_succ,i64_w,i32_w]
            rfl
           refine take_ (i:=1) (N:=some 55) (v:=?_) (a':=?_) #[true,true,true,false,false,true,false,true,false,false,false,false] rfl rfl (take_ofW HT_.out HW_.out (by kernel_rfl)) (fun _ _ _ h => h) (Or.inl ⟨by rfl,?_⟩) hHeld ?_ ?_
           rotate_left
           ·rintro w' ⟨s0,s1,s2,s3,s4,s5,s6,s7,s8,s9,s10,s11,s12,s13,s14,s15,s16,s17,s18,s19,s20,s21,s22,s23⟩
            go_simp
            with_reducible rfl
           rotate_left
           ·simp only [Act.put,List.setIfInBounds_toArray,List.set_cons_zero,List.set_cons_succ,i64_w,i32_w]
            rfl
           refine pure_ (i:=3) (N:=some 57) (v:=?_) (a':=?_) #[true,true,true,true,false,true,false,true,false,false,false,false] rfl rfl (any_of HT_.out (by kernel_rfl)) (fun _ _ _ h => h) (Or.inl ⟨by rfl,?_⟩) ?_ ?_
           rotate_left
           ·intro w'
            go_simp
            with_reducible rfl
           rotate_left
           ·simp only [Act.put,List.setIfInBounds_toArray,List.set_cons_zero,List.set_cons_succ,i64_w,i32_w]
            rfl
           refine take_ (i:=4) (N:=some 58) (v:=?_) (a':=?_) #[true,true,true,true,true,true,false,true,false,false,false,false] rfl rfl (take_ofW HT_.out HW_.out (by kernel_rfl)) (fun _ _ _ h => h) (Or.inl ⟨by rfl,?_⟩) hHeld ?_ ?_
           rotate_left
           ·rintro w' ⟨s0,s1,s2,s3,s4,s5,s6,s7,s8,s9,s10,s11,s12,s13,s14,s15,s16,s17,s18,s19,s20,s21,s22,s23⟩
            go_simp
            with_reducible rfl
           rotate_left
           ·simp only [Act.put,List.setIfInBounds_toArray,List.set_cons_zero,List.set_cons_succ,i64_w,i32_w]
            rfl
           refine take_ (i:=6) (N:=some 60) (v:=?_) (a':=?_) #[true,true,true,true,true,true,true,true,false,false,false,false] rfl rfl (take_ofW HT_.out HW_.out (by kernel_rfl)) (fun _ _ _ h => h) (Or.inl ⟨by rfl,?_⟩) hHeld ?_ ?_
           rotate_left
           ·rintro w' ⟨s0,s1,s2,s3,s4,s5,s6,s7,s8,s9,s10,s11,s12,s13,s14,s15,s16,s17,s18,s19,s20,s21,s22,s23⟩
            go_simp
            with_reducible rfl
           rotate_left
           ·simp only [Act.put,List.setIfInBounds_toArray,List.set_cons_zero,List.set_cons_succ,i64_w,i32_w]
            rfl
           refine pure_ (i:=8) (N:=some 62) (v:=?_) (a':=?_) #[true,true,true,true,true,true,true,true,true,false,false,false] rfl rfl (any_of HT_.out (by kernel_rfl)) (fun _ _ _ h => h) (Or.inl ⟨by rfl,?_⟩) ?_ ?_
           rotate_left
           ·intro w'
            go_simp
            with_reducible rfl
           rotate_left
           ·simp only [Act.put,List.setIfInBounds_toArray,List.set_cons_zero,List.set_cons_succ,i64_w,i32_w]
            rfl
           refine take_ (i:=9) (N:=some 63) (v:=?_) (a':=?_) #[true,true,true,true,true,true,true,true,true,true,false,false] rfl rfl (take_ofW HT_.out HW_.out (by kernel_rfl)) (fun _ _ _ h => h) (Or.inl ⟨by rfl,?_⟩) hHeld ?_ ?_
           rotate_left
           ·rintro w' ⟨s0,s1,s2,s3,s4,s5,s6,s7,s8,s9,s10,s11,s12,s13,s14,s15,s16,s17,s18,s19,s20,s21,s22,s23⟩
            go_simp
            with_reducible rfl
           rotate_left
           ·simp only [Act.put,List.setIfInBounds_toArray,List.set_cons_zero,List.set_cons_succ,i64_w,i32_w]
            rfl
           refine one_ (i:=10) (N:=some 64) #[true,true,true,true,true,true,true,true,true,true,true,false] rfl rfl (one_of HT_.out (by kernel_rfl)) (by decide) (fun K hK => ?_)
           refine goes_ Tryz.func31 (by kernel_rfl) rfl #[.agg #[.int .i64 ((rd_T28 l0_1 x51_2).f0),.slice A156_1 ((rd_T28 l0_1 x51_2).f1).length c156_1,.int .i64 ((rd_T28 l0_1 x51_2).f2),.int .u64 ((rd_T28 l0_1 x51_2).f3),.string ((rd_T28 l0_1 x51_2).f4),.int .u64 ((rd_T28 l0_1 x51_2).f5)],.agg #[.int .i64 ((rd_T28 l1_1 x51_2).f0),.slice A157_1 ((rd_T28 l1_1 x51_2).f1).length c157_1,.int .i64 ((rd_T28 l1_1 x51_2).f2),.int .u64 ((rd_T28 l1_1 x51_2).f3),.string ((rd_T28 l1_1 x51_2).f4),.int .u64 ((rd_T28 l1_1 x51_2).f5)]] (by rfl) rfl rfl (by (try simp only [List.map_toArray,List.map_cons,List.map_nil]);first|done|rfl|(simp only [List.length_drop,List.length_take];rfl)) ?_
           with_reducible refine (ih k2 (by have:=HJ2.out;have:=HK2.out;omega) ((rd_T28 l0_1 x51_2).f0) _ _ ((rd_T28 l0_1 x51_2).f1) ((rd_T28 l0_1 x51_2).f2) ((rd_T28 l0_1 x51_2).f3) ((rd_T28 l0_1 x51_2).f4) ((rd_T28 l0_1 x51_2).f5) ((rd_T28 l1_1 x51_2).f0) _ _ ((rd_T28 l1_1 x51_2).f1) ((rd_T28 l1_1 x51_2).f2) ((rd_T28 l1_1 x51_2).f3) ((rd_T28 l1_1 x51_2).f4) ((rd_T28 l1_1 x51_2).f5) false _ ?side1 ?side2 ?side3 ?side4 ?side5 A36.out).mono ?_
           (case side1 => repeat (first|exact (Kd.C_below HR156_1.out HB.out)|(with_reducible refine Kd.C_alloc ?_ _)|(with_reducible refine Kd.C_drewN ?_ _)|(with_reducible refine Kd.C_drew ?_)))
           (case side2 => exact HC156_1.out)
           (case side3 => repeat (first|exact (Kd.C_below HR157_1.out HB.out)|(with_reducible refine Kd.C_alloc ?_ _)|(with_reducible refine Kd.C_drewN ?_ _)|(with_reducible refine Kd.C_drew ?_)))
           (case side4 => exact HC157_1.out)
           (case side5 => exact LaidAt.of HLD.out (by repeat (first|(with_reducible first|exact HB.out|apply below_alloc|apply pw_below_drewN|apply below_drew1|refine below_set ?_ GE154.out|refine below_set ?_ GE155.out)|exact HB.out)))
           rintro e w41 ⟨rfl,hb⟩
           refine ⟨_,rfl,?_⟩
           have n0_:=Aside0.mk (blk_below (g:=gb154) (o:=.cells #[.int .i64 a0_0,.slice (some ad156) l0_1.length c0_1,.int .i64 a0_2,.int .u64 a0_3,.string a0_4,.int .u64 a0_5] 28 (0,0)) (by (with_reducible repeat (first|refine zN ?_|refine zD ?_|refine zA ?_));exact BK154.out) hb)
           have n1_:=Aside0.mk (blk_below (g:=gb155) (o:=.cells #[.int .i64 a1_0,.slice (some ad157) l1_1.length c1_1,.int .i64 a1_2,.int .u64 a1_3,.string a1_4,.int .u64 a1_5] 28 (0,0)) (by (with_reducible repeat (first|refine zN ?_|refine zD ?_|refine zA ?_));exact BK155.out) hb)
           have n2_:=Aside0.mk (below_step (by repeat (first|(with_reducible first|exact HB.out|apply below_alloc|apply pw_below_drewN|apply below_drew1|refine below_set ?_ GE154.out|refine below_set ?_ GE155.out)|exact HB.out)) hb)
           clear BK154
           clear BK155
           clear HB
           have BK154:=n0_
           have BK155:=n1_
           have HB:=n2_
           clear n0_ n1_ n2_
           (try clear hb)
           (try clear hb2)
           (try clear hk)
           (try clear hi)
           refine hK.out _ _ ⟨(blk_cell BK154.out 0).trans rfl,(blk_cell BK154.out 1).trans rfl,(blk_cell BK154.out 2).trans rfl,(blk_cell BK154.out 3).trans rfl,(blk_cell BK154.out 4).trans rfl,(blk_cell BK154.out 5).trans rfl,(blk_cell BK155.out 0).trans rfl,(blk_cell BK155.out 1).trans rfl,(blk_cell BK155.out 2).trans rfl,(blk_cell BK155.out 3).trans rfl,(blk_cell BK155.out 4).trans rfl,(blk_cell BK155.out 5).trans rfl,((HB.out.cell (World.block_lt_of_cell? w _ hw156_0)).trans hw156_0),((HB.out.cell (World.block_lt_of_cell? w _ hw156_1)).trans hw156_1),((HB.out.cell (World.block_lt_of_cell? w _ hw156_2)).trans hw156_2),((HB.out.cell (World.block_lt_of_cell? w _ hw156_3)).trans hw156_3),((HB.out.cell (World.block_lt_of_cell? w _ hw156_4)).trans hw156_4),((HB.out.cell (World.block_lt_of_cell? w _ hw156_5)).trans hw156_5),((HB.out.cell (World.block_lt_of_cell? w _ hw157_0)).trans hw157_0),((HB.out.cell (World.block_lt_of_cell? w _ hw157_1)).trans hw157_1),((HB.out.cell (World.block_lt_of_cell? w _ hw157_2)).trans hw157_2),((HB.out.cell (World.block_lt_of_cell? w _ hw157_3)).trans hw157_3),((HB.out.cell (World.block_lt_of_cell? w _ hw157_4)).trans hw157_4),((HB.out.cell (World.block_lt_of_cell? w _ hw157_5)).trans hw157_5)⟩ (fun hHeld => ?_)
           clear hK K
           refine norm_ (a':=?_) ?_ ?_
           rotate_left
           ·show Act.put _ (some 64) _=_
            simp only [Act.put,List.setIfInBounds_toArray,List.set_cons_zero,List.set_cons_succ,i64_w,i32_w]
            rfl
           refine pure_ (i:=11) (N:=some 65) (v:=?_) (a':=?_) #[true,true,true,true,true,true,true,true,true,true,true,true] rfl rfl (any_of HT_.out (by kernel_rfl)) (fun _ _ _ h => h) (Or.inl ⟨by rfl,?_⟩) ?_ ?_
           rotate_left
           ·intro w'
            go_simp
            with_reducible rfl
           rotate_left
           ·simp only [Act.put,List.setIfInBounds_toArray,List.set_cons_zero,List.set_cons_succ,i64_w,i32_w]
            rfl
           refine done_ (done_of HT_.out (by kernel_rfl)) ?_
           try go_wp2
           go_ret
           exact ⟨by first|rfl|(simp [errW_none,errW_some]<;>rfl)|(simp [*,errW_none,errW_some]<;>rfl),by repeat (first|(with_reducible first|exact HB.out|apply below_alloc|apply pw_below_drewN|apply below_drew1|refine below_set ?_ GE154.out|refine below_set ?_ GE155.out)|exact HB.out)⟩
         ·rw [if_neg c35] at H
          exact absurd H (by simp)
        ·rw [if_neg c34] at H
         exact absurd H (by simp)
       ·rw [if_neg c33] at H
        exact absurd H (by simp)
      ·rw [if_neg c32] at H
       have c32b0:decide (x51_2<(l0_1.length:Int))=false:=decide_eq_false c32
       clear c32
       obtain rfl:=Option.some.inj H
       go_wp2
       go_ret
       exact ⟨by first|rfl|(simp [errW_none,errW_some]<;>rfl)|(simp [*,errW_none,errW_some]<;>rfl),by repeat (first|(with_reducible first|exact HB.out|apply below_alloc|apply pw_below_drewN|apply below_drew1|refine below_set ?_ GE154.out|refine below_set ?_ GE155.out)|exact HB.out)⟩

end Go.Proofs.YtdfjjimmnbijmaaGreatDoor.ZQ

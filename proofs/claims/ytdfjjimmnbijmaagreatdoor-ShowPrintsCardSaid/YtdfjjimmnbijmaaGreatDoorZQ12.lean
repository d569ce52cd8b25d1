-- Written for this claim by myprint.py over the kit's print (functions of this session supplied)
import Derived.Test.YtdfjjimmnbijmaaGreatDoorZQ0
import Derived.Test.YtdfjjimmnbijmaaGreatDoorZQ3
import Derived.Test.YtdfjjimmnbijmaaGreatDoorZQ11
namespace Go.Proofs.YtdfjjimmnbijmaaGreatDoor.ZQ
open Go.RowKit Go.Proofs.YtdfjjimmnbijmaaGreatDoorW.PrintWords Go.Proofs.YtdfjjimmnbijmaaGreatDoorW.PrintLast Go.Proofs.YtdfjjimmnbijmaaGreatDoorW.PrintMore Go.Proofs.YtdfjjimmnbijmaaGreatDoor.Base
attribute [local go_sem] max2_int min2_int max_two min_two max_three min_three max_four min_four   -- for this text's walks alone
set_option linter.unusedVariables false
set_option linter.unusedSimpArgs false

/-! ### doorwardref16_fits: function 24 -/
mutual
def doorwardref16_fits.j0:Nat→Int→Bool→Int→List (S28)→Int→Int→ByteArray→Int→Option (Bool)
 |  0,_,_,_,_,_,_,_,_ => none
 |  k+1,x3,x46,x158000,x158001,x158002,x158003,x158004,x158005 => if x46=true then (some false) else (if x158000=3 then (if x3=1 then (doorwardref16_fits.j1 k false x158000 x158001 x158002 x158003 x158004 x158005) else (doorwardref16_fits.j1 k true x158000 x158001 x158002 x158003 x158004 x158005)) else (doorwardref16_fits.j1 k (decide (x3<2)) x158000 x158001 x158002 x158003 x158004 x158005))
def doorwardref16_fits.j1:Nat→Bool→Int→List (S28)→Int→Int→ByteArray→Int→Option (Bool)
 |  0,_,_,_,_,_,_,_ => none
 |  k+1,x62,x158000,x158001,x158002,x158003,x158004,x158005 => if x62=true then (some false) else (doorwardref16_fits.l0 k x158001 (x158001.length:Int) 0)
def doorwardref16_fits.l0:Nat→List (S28)→Int→Int→Option (Bool)
 |  0,_,_,_ => none
 |  k+1,x64,x65,x66 => if x66<x65 then (if 0≤x66 then (if x66<(x64.length:Int) then ((doorwardref16_fits.f k ((rd_T28 x64 x66).f0) ((rd_T28 x64 x66).f1) ((rd_T28 x64 x66).f2) ((rd_T28 x64 x66).f3) ((rd_T28 x64 x66).f4) ((rd_T28 x64 x66).f5)).bind fun t162 => (if t162=true then (doorwardref16_fits.l0 k x64 x65 (wrap64 (x66+1))) else (some false))) else (none)) else (none)) else (some true)
def doorwardref16_fits.f:Nat→Int→List (S28)→Int→Int→ByteArray→Int→Option (Bool)
 |  0,_,_,_,_,_,_ => none
 |  k+1,a0_0,l0_1,a0_2,a0_3,a0_4,a0_5 => if a0_0=4 then (if a0_2 ≥ 0 then (if a0_2≤5 then ((doorwardref16_sign.f a0_4).bind fun t158 => (if t158=true then (some ((l0_1.length:Int)==0)) else (some false))) else (some false)) else (some false)) else ((doorwardref16_bare.f a0_0 l0_1 a0_2 a0_3 a0_4 a0_5).bind fun t159 => (if t159=true then (if a0_0=1 then (doorwardref16_fits.j0 k (l0_1.length:Int) false a0_0 l0_1 a0_2 a0_3 a0_4 a0_5) else (if a0_0=2 then (doorwardref16_fits.j0 k (l0_1.length:Int) false a0_0 l0_1 a0_2 a0_3 a0_4 a0_5) else (doorwardref16_fits.j0 k (l0_1.length:Int) (a0_0 != 3) a0_0 l0_1 a0_2 a0_3 a0_4 a0_5))) else (doorwardref16_fits.j0 k (l0_1.length:Int) true a0_0 l0_1 a0_2 a0_3 a0_4 a0_5)))
end
theorem doorwardref16_fits.mono_l:∀ k,(∀ y0 y1 y2 y3 y4 y5,LeO (doorwardref16_fits.f k y0 y1 y2 y3 y4 y5) (doorwardref16_fits.f (k+1) y0 y1 y2 y3 y4 y5))∧(∀ y0 y1 y2 y3 y4 y5 y6 y7,LeO (doorwardref16_fits.j0 k y0 y1 y2 y3 y4 y5 y6 y7) (doorwardref16_fits.j0 (k+1) y0 y1 y2 y3 y4 y5 y6 y7))∧(∀ y0 y1 y2 y3 y4 y5 y6,LeO (doorwardref16_fits.j1 k y0 y1 y2 y3 y4 y5 y6) (doorwardref16_fits.j1 (k+1) y0 y1 y2 y3 y4 y5 y6))∧(∀ y0 y1 y2,LeO (doorwardref16_fits.l0 k y0 y1 y2) (doorwardref16_fits.l0 (k+1) y0 y1 y2))
 |  0 => ⟨fun _ _ _ _ _ _ r h => by simp [doorwardref16_fits.f] at h,fun _ _ _ _ _ _ _ _ r h => by simp [doorwardref16_fits.j0] at h,fun _ _ _ _ _ _ _ r h => by simp [doorwardref16_fits.j1] at h,fun _ _ _ r h => by simp [doorwardref16_fits.l0] at h⟩
 |  k+1 => by
  obtain ⟨ih0,ih1,ih2,ih3⟩:=doorwardref16_fits.mono_l k
  refine ⟨?_,?_,?_,?_⟩
  ·intro y0 y1 y2 y3 y4 y5
   unfold doorwardref16_fits.f
   repeat' first
   |  (with_reducible exact ih0 _ _ _ _ _ _)
   |  (with_reducible exact ih1 _ _ _ _ _ _ _ _)
   |  (with_reducible exact ih2 _ _ _ _ _ _ _)
   |  (with_reducible exact ih3 _ _ _)
   |  (with_reducible exact LeO.refl _)
   |  (with_reducible exact LeO.none _)
   |  (with_reducible refine LeO.ite ?_ ?_)
   |  (with_reducible refine LeO.bind ?_ (fun _ => ?_))
   |  exact ih0 _ _ _ _ _ _
   |  exact ih1 _ _ _ _ _ _ _ _
   |  exact ih2 _ _ _ _ _ _ _
   |  exact ih3 _ _ _
   |  exact LeO.none _
   |  refine LeO.ite ?_ ?_
   |  refine LeO.bind ?_ (fun _ => ?_)
  ·intro y0 y1 y2 y3 y4 y5 y6 y7
   unfold doorwardref16_fits.j0
   repeat' first
   |  (with_reducible exact ih0 _ _ _ _ _ _)
   |  (with_reducible exact ih1 _ _ _ _ _ _ _ _)
   |  (with_reducible exact ih2 _ _ _ _ _ _ _)
   |  (with_reducible exact ih3 _ _ _)
   |  (with_reducible exact LeO.refl _)
   |  (with_reducible exact LeO.none _)
   |  (with_reducible refine LeO.ite ?_ ?_)
   |  (with_reducible refine LeO.bind ?_ (fun _ => ?_))
   |  exact ih0 _ _ _ _ _ _
   |  exact ih1 _ _ _ _ _ _ _ _
   |  exact ih2 _ _ _ _ _ _ _
   |  exact ih3 _ _ _
   |  exact LeO.none _
   |  refine LeO.ite ?_ ?_
   |  refine LeO.bind ?_ (fun _ => ?_)
  ·intro y0 y1 y2 y3 y4 y5 y6
   unfold doorwardref16_fits.j1
   repeat' first
   |  (with_reducible exact ih0 _ _ _ _ _ _)
   |  (with_reducible exact ih1 _ _ _ _ _ _ _ _)
   |  (with_reducible exact ih2 _ _ _ _ _ _ _)
   |  (with_reducible exact ih3 _ _ _)
   |  (with_reducible exact LeO.refl _)
   |  (with_reducible exact LeO.none _)
   |  (with_reducible refine LeO.ite ?_ ?_)
   |  (with_reducible refine LeO.bind ?_ (fun _ => ?_))
   |  exact ih0 _ _ _ _ _ _
   |  exact ih1 _ _ _ _ _ _ _ _
   |  exact ih2 _ _ _ _ _ _ _
   |  exact ih3 _ _ _
   |  exact LeO.none _
   |  refine LeO.ite ?_ ?_
   |  refine LeO.bind ?_ (fun _ => ?_)
  ·intro y0 y1 y2
   unfold doorwardref16_fits.l0
   repeat' first
   |  (with_reducible exact ih0 _ _ _ _ _ _)
   |  (with_reducible exact ih1 _ _ _ _ _ _ _ _)
   |  (with_reducible exact ih2 _ _ _ _ _ _ _)
   |  (with_reducible exact ih3 _ _ _)
   |  (with_reducible exact LeO.refl _)
   |  (with_reducible exact LeO.none _)
   |  (with_reducible refine LeO.ite ?_ ?_)
   |  (with_reducible refine LeO.bind ?_ (fun _ => ?_))
   |  exact ih0 _ _ _ _ _ _
   |  exact ih1 _ _ _ _ _ _ _ _
   |  exact ih2 _ _ _ _ _ _ _
   |  exact ih3 _ _ _
   |  exact LeO.none _
   |  refine LeO.ite ?_ ?_
   |  refine LeO.bind ?_ (fun _ => ?_)
theorem doorwardref16_fits.mono:∀ a0 a1 a2 a3 a4 a5 k,LeO (doorwardref16_fits.f k a0 a1 a2 a3 a4 a5) (doorwardref16_fits.f (k+1) a0 a1 a2 a3 a4 a5):=by
 intro a0 a1 a2 a3 a4 a5 k
 obtain ⟨ih0,ih1,ih2,ih3⟩:=doorwardref16_fits.mono_l k
 exact ih0 a0 a1 a2 a3 a4 a5
set_option maxHeartbeats 8000000 in
set_option maxRecDepth 100000 in
theorem doorwardref16_fits.calls (k:Nat):∀ (a0_0:Int) (A0_1:Option Addr) (c0_1:Nat) (l0_1:List (S28)) (a0_2:Int) (a0_3:Int) (a0_4:ByteArray) (a0_5:Int) (r:Bool) (w:World) (hr0_1:Kd.C k28 w A0_1 l0_1.length l0_1) (hc0_1:l0_1.length≤c0_1) (hLd:LaidAt w) (h:doorwardref16_fits.f k a0_0 l0_1 a0_2 a0_3 a0_4 a0_5=some r),
  Calls Tryz.prog 24 #[.agg #[.int .i64 a0_0,.slice A0_1 l0_1.length c0_1,.int .i64 a0_2,.int .u64 a0_3,.string a0_4,.int .u64 a0_5]] w fun e w' => e=.returned (.bool r)∧Below w.heap.size w w':=by
 induction k using Nat.strongRecOn with
 |  _ k ih =>
 intro a0_0 A0_1 c0_1 l0_1 a0_2 a0_3 a0_4 a0_5 r w hr0_1 hc0_1 hLd h
 cases k with
 |  zero => exact absurd h (by simp [doorwardref16_fits.f])
 |  succ k =>
 simp only [doorwardref16_fits.f] at h
 have hu28:=Tryz.underlying28
 have HLD:=Aside0.mk hLd
 clear hLd
 have HR0_1:=Aside0.mk hr0_1
 have HC0_1:=Aside0.mk hc0_1
 clear hr0_1 hc0_1
 have HB:=Aside0.mk (Below.refl w.heap.size w)
 have H:(if a0_0=4 then (if a0_2 ≥ 0 then (if a0_2≤5 then ((doorwardref16_sign.f a0_4).bind fun t158 => (if t158=true then (some ((l0_1.length:Int)==0)) else (some false))) else (some false)) else (some false)) else ((doorwardref16_bare.f a0_0 l0_1 a0_2 a0_3 a0_4 a0_5).bind fun t159 => (if t159=true then (if a0_0=1 then (doorwardref16_fits.j0 k (l0_1.length:Int) false a0_0 l0_1 a0_2 a0_3 a0_4 a0_5) else (if a0_0=2 then (doorwardref16_fits.j0 k (l0_1.length:Int) false a0_0 l0_1 a0_2 a0_3 a0_4 a0_5) else (doorwardref16_fits.j0 k (l0_1.length:Int) (a0_0 != 3) a0_0 l0_1 a0_2 a0_3 a0_4 a0_5))) else (doorwardref16_fits.j0 k (l0_1.length:Int) true a0_0 l0_1 a0_2 a0_3 a0_4 a0_5))))=some r:=h
 clear h
 by_cases c2:a0_0=4
 ·rw [if_pos c2] at H
  have c2b0:(a0_0==4)=true:=beq_iff_eq.mpr c2
  have c2b1:(a0_0 != 4)=false:=bne_eq_false_iff_eq.mpr c2
  clear c2
  by_cases c3:a0_2 ≥ 0
  ·rw [if_pos c3] at H
   have c3b0:decide (0≤a0_2)=true:=decide_eq_true c3
   clear c3
   by_cases c4:a0_2≤5
   ·rw [if_pos c4] at H
    have c4b0:decide (a0_2≤5)=true:=decide_eq_true c4
    clear c4
    replace H:=Option.bind_eq_some_iff.mp H
    obtain ⟨t158,A50,H⟩:=H
    replace H:(if t158=true then (some ((l0_1.length:Int)==0)) else (some false))=some r:=H
    have A5:=Aside0.mk A50
    clear A50
    by_cases c6:t158=true
    ·subst c6
     have H1:(some ((l0_1.length:Int)==0))=some r:=by rw [if_pos rfl] at H;exact H
     clear H
     have H:=H1
     clear H1
     obtain rfl:=Option.some.inj H
     go_enter Tryz.func24,Tryz.ntmps24
     go_wp2_with (first|((with_reducible refine gate_dst (N:=1) rfl ?_);refine box_event ?hg (N:=1) ?hd (cs:=#[.int .i64 a0_0,.slice A0_1 l0_1.length c0_1,.int .i64 a0_2,.int .u64 a0_3,.string a0_4,.int .u64 a0_5]) (t:=28) ?hr ?_;(case hd => rfl);(case hg => rfl);(case hr => first|(go_simp;done)|(go_simp;rfl));intro gb157 hg w7 hbox hb;have n0_:=Aside0.mk (below_step (by repeat (with_reducible first|exact HB.out|apply below_alloc|apply pw_below_drewN|apply below_drew1)) hb);have n1_:=Aside0.mk (hbox);have n2_:=Aside0.mk ((by rw [hg];exact (below_size (by repeat (with_reducible first|exact HB.out|apply below_alloc|apply pw_below_drewN|apply below_drew1))):w.heap.size≤gb157));have n3_:=Aside0.mk ((by rw [hg];exact (below_size (by repeat (with_reducible first|exact HB.out|apply below_alloc|apply pw_below_drewN|apply below_drew1))):w.heap.size≤gb157));clear HB;have HB:=n0_;have BK157:=n1_;have GW157:=n2_;have GE157:=n3_;clear n0_ n1_ n2_ n3_;clear hb hbox hg;have hcz8_0:w7.cell? ⟨gb157,0,none⟩=some (.int .i64 a0_0):=(blk_cell BK157.out 0).trans rfl;have hcz8_1:w7.cell? ⟨gb157,1,none⟩=some (.slice A0_1 l0_1.length c0_1):=(blk_cell BK157.out 1).trans rfl;have hcz8_2:w7.cell? ⟨gb157,2,none⟩=some (.int .i64 a0_2):=(blk_cell BK157.out 2).trans rfl;have hcz8_3:w7.cell? ⟨gb157,3,none⟩=some (.int .u64 a0_3):=(blk_cell BK157.out 3).trans rfl;have hcz8_4:w7.cell? ⟨gb157,4,none⟩=some (.string a0_4):=(blk_cell BK157.out 4).trans rfl;have hcz8_5:w7.cell? ⟨gb157,5,none⟩=some (.int .u64 a0_5):=(blk_cell BK157.out 5).trans rfl;have hfz8_0:=blk_frozen BK157.out 0;have hfz8_1:=blk_frozen BK157.out 1;have hfz8_2:=blk_frozen BK157.out 2;have hfz8_3:=blk_frozen BK157.out 3;have hfz8_4:=blk_frozen BK157.out 4;have hfz8_5:=blk_frozen BK157.out 5)|(go_at_call 42;(with_reducible refine (doorwardref16_sign.calls a0_4 true _ ?side1 A5.out).mono ?_);(case side1 => exact LaidAt.of HLD.out (by repeat (first|(with_reducible first|exact HB.out|apply below_alloc|apply pw_below_drewN|apply below_drew1|refine below_set ?_ GE157.out)|exact HB.out)));rintro e w' ⟨rfl,⟨nd,rfl⟩⟩))
     go_ret
     exact ⟨by first|rfl|(simp [errW_none,errW_some]<;>rfl)|(simp [*,errW_none,errW_some]<;>rfl),by repeat (first|(with_reducible first|exact HB.out|apply below_alloc|apply pw_below_drewN|apply below_drew1|refine below_set ?_ GE157.out)|exact HB.out)⟩
    ·replace c6:=Bool.eq_false_iff.mpr c6
     subst c6
     have H1:(some false)=some r:=by rw [if_neg (show ¬ (false=true) by decide)] at H;exact H
     clear H
     have H:=H1
     clear H1
     obtain rfl:=Option.some.inj H
     go_enter Tryz.func24,Tryz.ntmps24
     go_wp2_with (first|((with_reducible refine gate_dst (N:=1) rfl ?_);refine box_event ?hg (N:=1) ?hd (cs:=#[.int .i64 a0_0,.slice A0_1 l0_1.length c0_1,.int .i64 a0_2,.int .u64 a0_3,.string a0_4,.int .u64 a0_5]) (t:=28) ?hr ?_;(case hd => rfl);(case hg => rfl);(case hr => first|(go_simp;done)|(go_simp;rfl));intro gb157 hg w9 hbox hb;have n0_:=Aside0.mk (below_step (by repeat (with_reducible first|exact HB.out|apply below_alloc|apply pw_below_drewN|apply below_drew1)) hb);have n1_:=Aside0.mk (hbox);have n2_:=Aside0.mk ((by rw [hg];exact (below_size (by repeat (with_reducible first|exact HB.out|apply below_alloc|apply pw_below_drewN|apply below_drew1))):w.heap.size≤gb157));have n3_:=Aside0.mk ((by rw [hg];exact (below_size (by repeat (with_reducible first|exact HB.out|apply below_alloc|apply pw_below_drewN|apply below_drew1))):w.heap.size≤gb157));clear HB;have HB:=n0_;have BK157:=n1_;have GW157:=n2_;have GE157:=n3_;clear n0_ n1_ n2_ n3_;clear hb hbox hg;have hcz10_0:w9.cell? ⟨gb157,0,none⟩=some (.int .i64 a0_0):=(blk_cell BK157.out 0).trans rfl;have hcz10_1:w9.cell? ⟨gb157,1,none⟩=some (.slice A0_1 l0_1.length c0_1):=(blk_cell BK157.out 1).trans rfl;have hcz10_2:w9.cell? ⟨gb157,2,none⟩=some (.int .i64 a0_2):=(blk_cell BK157.out 2).trans rfl;have hcz10_3:w9.cell? ⟨gb157,3,none⟩=some (.int .u64 a0_3):=(blk_cell BK157.out 3).trans rfl;have hcz10_4:w9.cell? ⟨gb157,4,none⟩=some (.string a0_4):=(blk_cell BK157.out 4).trans rfl;have hcz10_5:w9.cell? ⟨gb157,5,none⟩=some (.int .u64 a0_5):=(blk_cell BK157.out 5).trans rfl;have hfz10_0:=blk_frozen BK157.out 0;have hfz10_1:=blk_frozen BK157.out 1;have hfz10_2:=blk_frozen BK157.out 2;have hfz10_3:=blk_frozen BK157.out 3;have hfz10_4:=blk_frozen BK157.out 4;have hfz10_5:=blk_frozen BK157.out 5)|(go_at_call 42;(with_reducible refine (doorwardref16_sign.calls a0_4 false _ ?side1 A5.out).mono ?_);(case side1 => exact LaidAt.of HLD.out (by repeat (first|(with_reducible first|exact HB.out|apply below_alloc|apply pw_below_drewN|apply below_drew1|refine below_set ?_ GE157.out)|exact HB.out)));rintro e w' ⟨rfl,⟨nd,rfl⟩⟩))
     go_ret
     exact ⟨by first|rfl|(simp [errW_none,errW_some]<;>rfl)|(simp [*,errW_none,errW_some]<;>rfl),by repeat (first|(with_reducible first|exact HB.out|apply below_alloc|apply pw_below_drewN|apply below_drew1|refine below_set ?_ GE157.out)|exact HB.out)⟩
   ·rw [if_neg c4] at H
    have c4b0:decide (a0_2≤5)=false:=decide_eq_false c4
    clear c4
    obtain rfl:=Option.some.inj H
    go_enter Tryz.func24,Tryz.ntmps24
    go_wp2_with (first|((with_reducible refine gate_dst (N:=1) rfl ?_);refine box_event ?hg (N:=1) ?hd (cs:=#[.int .i64 a0_0,.slice A0_1 l0_1.length c0_1,.int .i64 a0_2,.int .u64 a0_3,.string a0_4,.int .u64 a0_5]) (t:=28) ?hr ?_;(case hd => rfl);(case hg => rfl);(case hr => first|(go_simp;done)|(go_simp;rfl));intro gb157 hg w11 hbox hb;have n0_:=Aside0.mk (below_step (by repeat (with_reducible first|exact HB.out|apply below_alloc|apply pw_below_drewN|apply below_drew1)) hb);have n1_:=Aside0.mk (hbox);have n2_:=Aside0.mk ((by rw [hg];exact (below_size (by repeat (with_reducible first|exact HB.out|apply below_alloc|apply pw_below_drewN|apply below_drew1))):w.heap.size≤gb157));have n3_:=Aside0.mk ((by rw [hg];exact (below_size (by repeat (with_reducible first|exact HB.out|apply below_alloc|apply pw_below_drewN|apply below_drew1))):w.heap.size≤gb157));clear HB;have HB:=n0_;have BK157:=n1_;have GW157:=n2_;have GE157:=n3_;clear n0_ n1_ n2_ n3_;clear hb hbox hg;have hcz12_0:w11.cell? ⟨gb157,0,none⟩=some (.int .i64 a0_0):=(blk_cell BK157.out 0).trans rfl;have hcz12_1:w11.cell? ⟨gb157,1,none⟩=some (.slice A0_1 l0_1.length c0_1):=(blk_cell BK157.out 1).trans rfl;have hcz12_2:w11.cell? ⟨gb157,2,none⟩=some (.int .i64 a0_2):=(blk_cell BK157.out 2).trans rfl;have hcz12_3:w11.cell? ⟨gb157,3,none⟩=some (.int .u64 a0_3):=(blk_cell BK157.out 3).trans rfl;have hcz12_4:w11.cell? ⟨gb157,4,none⟩=some (.string a0_4):=(blk_cell BK157.out 4).trans rfl;have hcz12_5:w11.cell? ⟨gb157,5,none⟩=some (.int .u64 a0_5):=(blk_cell BK157.out 5).trans rfl;have hfz12_0:=blk_frozen BK157.out 0;have hfz12_1:=blk_frozen BK157.out 1;have hfz12_2:=blk_frozen BK157.out 2;have hfz12_3:=blk_frozen BK157.out 3;have hfz12_4:=blk_frozen BK157.out 4;have hfz12_5:=blk_frozen BK157.out 5))
    go_ret
    exact ⟨by first|rfl|(simp [errW_none,errW_some]<;>rfl)|(simp [*,errW_none,errW_some]<;>rfl),by repeat (first|(with_reducible first|exact HB.out|apply below_alloc|apply pw_below_drewN|apply below_drew1|refine below_set ?_ GE157.out)|exact HB.out)⟩
  ·rw [if_neg c3] at H
   have c3b0:decide (0≤a0_2)=false:=decide_eq_false c3
   clear c3
   obtain rfl:=Option.some.inj H
   go_enter Tryz.func24,Tryz.ntmps24
   go_wp2_with (first|((with_reducible refine gate_dst (N:=1) rfl ?_);refine box_event ?hg (N:=1) ?hd (cs:=#[.int .i64 a0_0,.slice A0_1 l0_1.length c0_1,.int .i64 a0_2,.int .u64 a0_3,.string a0_4,.int .u64 a0_5]) (t:=28) ?hr ?_;(case hd => rfl);(case hg => rfl);(case hr => first|(go_simp;done)|(go_simp;rfl));intro gb157 hg w13 hbox hb;have n0_:=Aside0.mk (below_step (by repeat (with_reducible first|exact HB.out|apply below_alloc|apply pw_below_drewN|apply below_drew1)) hb);have n1_:=Aside0.mk (hbox);have n2_:=Aside0.mk ((by rw [hg];exact (below_size (by repeat (with_reducible first|exact HB.out|apply below_alloc|apply pw_below_drewN|apply below_drew1))):w.heap.size≤gb157));have n3_:=Aside0.mk ((by rw [hg];exact (below_size (by repeat (with_reducible first|exact HB.out|apply below_alloc|apply pw_below_drewN|apply below_drew1))):w.heap.size≤gb157));clear HB;have HB:=n0_;have BK157:=n1_;have GW157:=n2_;have GE157:=n3_;clear n0_ n1_ n2_ n3_;clear hb hbox hg;have hcz14_0:w13.cell? ⟨gb157,0,none⟩=some (.int .i64 a0_0):=(blk_cell BK157.out 0).trans rfl;have hcz14_1:w13.cell? ⟨gb157,1,none⟩=some (.slice A0_1 l0_1.length c0_1):=(blk_cell BK157.out 1).trans rfl;have hcz14_2:w13.cell? ⟨gb157,2,none⟩=some (.int .i64 a0_2):=(blk_cell BK157.out 2).trans rfl;have hcz14_3:w13.cell? ⟨gb157,3,none⟩=some (.int .u64 a0_3):=(blk_cell BK157.out 3).trans rfl;have hcz14_4:w13.cell? ⟨gb157,4,none⟩=some (.string a0_4):=(blk_cell BK157.out 4).trans rfl;have hcz14_5:w13.cell? ⟨gb157,5,none⟩=some (.int .u64 a0_5):=(blk_cell BK157.out 5).trans rfl;have hfz14_0:=blk_frozen BK157.out 0;have hfz14_1:=blk_frozen BK157.out 1;have hfz14_2:=blk_frozen BK157.out 2;have hfz14_3:=blk_frozen BK157.out 3;have hfz14_4:=blk_frozen BK157.out 4;have hfz14_5:=blk_frozen BK157.out 5))
   go_ret
   exact ⟨by first|rfl|(simp [errW_none,errW_some]<;>rfl)|(simp [*,errW_none,errW_some]<;>rfl),by repeat (first|(with_reducible first|exact HB.out|apply below_alloc|apply pw_below_drewN|apply below_drew1|refine below_set ?_ GE157.out)|exact HB.out)⟩
 ·rw [if_neg c2] at H
  have c2b0:(a0_0==4)=false:=beq_eq_false_iff_ne.mpr c2
  have c2b1:(a0_0 != 4)=true:=bne_iff_ne.mpr c2
  have HC15:=Aside0.mk H
  clear H
  go_enter Tryz.func24,Tryz.ntmps24
  go_upto_region 4 with (first|((with_reducible refine gate_dst (N:=1) rfl ?_);refine box_event ?hg (N:=1) ?hd (cs:=#[.int .i64 a0_0,.slice A0_1 l0_1.length c0_1,.int .i64 a0_2,.int .u64 a0_3,.string a0_4,.int .u64 a0_5]) (t:=28) ?hr ?_;(case hd => rfl);(case hg => rfl);(case hr => first|(go_simp;done)|(go_simp;rfl));intro gb157 hg w16 hbox hb;have n0_:=Aside0.mk (below_step (by repeat (with_reducible first|exact HB.out|apply below_alloc|apply pw_below_drewN|apply below_drew1)) hb);have n1_:=Aside0.mk (hbox);have n2_:=Aside0.mk ((by rw [hg];exact (below_size (by repeat (with_reducible first|exact HB.out|apply below_alloc|apply pw_below_drewN|apply below_drew1))):w.heap.size≤gb157));have n3_:=Aside0.mk ((by rw [hg];exact (below_size (by repeat (with_reducible first|exact HB.out|apply below_alloc|apply pw_below_drewN|apply below_drew1))):w.heap.size≤gb157));clear HB;have HB:=n0_;have BK157:=n1_;have GW157:=n2_;have GE157:=n3_;clear n0_ n1_ n2_ n3_;clear hb hbox hg;have hcz17_0:w16.cell? ⟨gb157,0,none⟩=some (.int .i64 a0_0):=(blk_cell BK157.out 0).trans rfl;have hcz17_1:w16.cell? ⟨gb157,1,none⟩=some (.slice A0_1 l0_1.length c0_1):=(blk_cell BK157.out 1).trans rfl;have hcz17_2:w16.cell? ⟨gb157,2,none⟩=some (.int .i64 a0_2):=(blk_cell BK157.out 2).trans rfl;have hcz17_3:w16.cell? ⟨gb157,3,none⟩=some (.int .u64 a0_3):=(blk_cell BK157.out 3).trans rfl;have hcz17_4:w16.cell? ⟨gb157,4,none⟩=some (.string a0_4):=(blk_cell BK157.out 4).trans rfl;have hcz17_5:w16.cell? ⟨gb157,5,none⟩=some (.int .u64 a0_5):=(blk_cell BK157.out 5).trans rfl;have hfz17_0:=blk_frozen BK157.out 0;have hfz17_1:=blk_frozen BK157.out 1;have hfz17_2:=blk_frozen BK157.out 2;have hfz17_3:=blk_frozen BK157.out 3;have hfz17_4:=blk_frozen BK157.out 4;have hfz17_5:=blk_frozen BK157.out 5))
  (try simp only [Act.put,List.setIfInBounds_toArray,List.set_cons_zero,List.set_cons_succ])
  go_cut [46] (fun v46 wc =>∃(kq:Nat) (x46_14:Bool),v46=.bool x46_14∧Aside0 (doorwardref16_fits.j0 kq (l0_1.length:Int) x46_14 a0_0 l0_1 a0_2 a0_3 a0_4 a0_5=some r)∧Aside0 (kq≤k)∧Aside0 (wc.heap[gb157]?=some (.cells #[.int .i64 a0_0,(.slice A0_1 l0_1.length c0_1),.int .i64 a0_2,.int .u64 a0_3,.string a0_4,.int .u64 a0_5] 28 (0,0)))∧Aside0 (Below w.heap.size w wc))
  case first =>
   have H:=HC15.out
   clear HC15
   replace H:=Option.bind_eq_some_iff.mp H
   obtain ⟨t159,A180,H⟩:=H
   replace H:(if t159=true then (if a0_0=1 then (doorwardref16_fits.j0 k (l0_1.length:Int) false a0_0 l0_1 a0_2 a0_3 a0_4 a0_5) else (if a0_0=2 then (doorwardref16_fits.j0 k (l0_1.length:Int) false a0_0 l0_1 a0_2 a0_3 a0_4 a0_5) else (doorwardref16_fits.j0 k (l0_1.length:Int) (a0_0 != 3) a0_0 l0_1 a0_2 a0_3 a0_4 a0_5))) else (doorwardref16_fits.j0 k (l0_1.length:Int) true a0_0 l0_1 a0_2 a0_3 a0_4 a0_5))=some r:=H
   have A18:=Aside0.mk A180
   clear A180
   by_cases c19:t159=true
   ·subst c19
    have H1:(if a0_0=1 then (doorwardref16_fits.j0 k (l0_1.length:Int) false a0_0 l0_1 a0_2 a0_3 a0_4 a0_5) else (if a0_0=2 then (doorwardref16_fits.j0 k (l0_1.length:Int) false a0_0 l0_1 a0_2 a0_3 a0_4 a0_5) else (doorwardref16_fits.j0 k (l0_1.length:Int) (a0_0 != 3) a0_0 l0_1 a0_2 a0_3 a0_4 a0_5)))=some r:=by rw [if_pos rfl] at H;exact H
    clear H
    have H:=H1
    clear H1
    by_cases c20:a0_0=1
    ·rw [if_pos c20] at H
     have c20b0:(a0_0==1)=true:=beq_iff_eq.mpr c20
     have c20b1:(a0_0 != 1)=false:=bne_eq_false_iff_eq.mpr c20
     clear c20
     (first|rw [c20b0]|(simp only [i64_w,i32_w];rw [c20b0])|skip)
     have H':=Aside0.mk H
     clear H
     have hcz21_0:w16.cell? ⟨gb157,0,none⟩=some (.int .i64 a0_0):=(blk_cell BK157.out 0).trans rfl
     have hcz21_1:w16.cell? ⟨gb157,1,none⟩=some (.slice A0_1 l0_1.length c0_1):=(blk_cell BK157.out 1).trans rfl
     have hcz21_2:w16.cell? ⟨gb157,2,none⟩=some (.int .i64 a0_2):=(blk_cell BK157.out 2).trans rfl
     have hcz21_3:w16.cell? ⟨gb157,3,none⟩=some (.int .u64 a0_3):=(blk_cell BK157.out 3).trans rfl
     have hcz21_4:w16.cell? ⟨gb157,4,none⟩=some (.string a0_4):=(blk_cell BK157.out 4).trans rfl
     have hcz21_5:w16.cell? ⟨gb157,5,none⟩=some (.int .u64 a0_5):=(blk_cell BK157.out 5).trans rfl
     have hfz21_0:=blk_frozen BK157.out 0
     have hfz21_1:=blk_frozen BK157.out 1
     have hfz21_2:=blk_frozen BK157.out 2
     have hfz21_3:=blk_frozen BK157.out 3
     have hfz21_4:=blk_frozen BK157.out 4
     have hfz21_5:=blk_frozen BK157.out 5
     go_wp2_with (first|((with_reducible refine gate_callee (f:=38) rfl ?_);refine goesL_ (some 30) rfl rfl Tryz.func38 (by kernel_rfl) rfl #[.agg #[.int .i64 a0_0,.slice A0_1 l0_1.length c0_1,.int .i64 a0_2,.int .u64 a0_3,.string a0_4,.int .u64 a0_5]] rfl (by (try simp only [List.map_toArray,List.map_cons,List.map_nil]);first|done|rfl|(simp only [List.length_drop,List.length_take];rfl)) ?_;(with_reducible refine (doorwardref16_bare.calls a0_0 _ _ l0_1 a0_2 a0_3 a0_4 a0_5 true _ ?side1 ?side2 ?side3 A18.out).mono ?_);(case side1 => repeat (first|exact (Kd.C_below HR0_1.out HB.out)|(with_reducible refine Kd.C_alloc ?_ _)|(with_reducible refine Kd.C_drewN ?_ _)|(with_reducible refine Kd.C_drew ?_)));(case side2 => exact HC0_1.out);(case side3 => exact LaidAt.of HLD.out (by repeat (first|(with_reducible first|exact HB.out|apply below_alloc|apply pw_below_drewN|apply below_drew1|refine below_set ?_ GE157.out)|exact HB.out)));rintro e w22 ⟨rfl,hb⟩;refine ⟨_,rfl,?_⟩;have n0_:=Aside0.mk (blk_below (g:=gb157) (o:=.cells #[.int .i64 a0_0,.slice A0_1 l0_1.length c0_1,.int .i64 a0_2,.int .u64 a0_3,.string a0_4,.int .u64 a0_5] 28 (0,0)) (by (with_reducible repeat (first|refine zN ?_|refine zD ?_|refine zA ?_));exact BK157.out) hb);have n1_:=Aside0.mk (below_step (by repeat (first|(with_reducible first|exact HB.out|apply below_alloc|apply pw_below_drewN|apply below_drew1|refine below_set ?_ GE157.out)|exact HB.out)) hb);clear BK157;clear HB;have BK157:=n0_;have HB:=n1_;clear n0_ n1_;(try clear hb);(try clear hb2);(try clear hk);(try clear hi);have hcz23_0:w22.cell? ⟨gb157,0,none⟩=some (.int .i64 a0_0):=(blk_cell BK157.out 0).trans rfl;have hcz23_1:w22.cell? ⟨gb157,1,none⟩=some (.slice A0_1 l0_1.length c0_1):=(blk_cell BK157.out 1).trans rfl;have hcz23_2:w22.cell? ⟨gb157,2,none⟩=some (.int .i64 a0_2):=(blk_cell BK157.out 2).trans rfl;have hcz23_3:w22.cell? ⟨gb157,3,none⟩=some (.int .u64 a0_3):=(blk_cell BK157.out 3).trans rfl;have hcz23_4:w22.cell? ⟨gb157,4,none⟩=some (.string a0_4):=(blk_cell BK157.out 4).trans rfl;have hcz23_5:w22.cell? ⟨gb157,5,none⟩=some (.int .u64 a0_5):=(blk_cell BK157.out 5).trans rfl;have hfz23_0:=blk_frozen BK157.out 0;have hfz23_1:=blk_frozen BK157.out 1;have hfz23_2:=blk_frozen BK157.out 2;have hfz23_3:=blk_frozen BK157.out 3;have hfz23_4:=blk_frozen BK157.out 4;have hfz23_5:=blk_frozen BK157.out 5))
     go_meet
     case rel => exact ⟨_,(false),(by first|rfl|(simp;done)|(simp [*];done)),H',⟨by first|omega|exact Nat.le_refl _⟩,⟨by (with_reducible repeat (first|refine zN ?_|refine zD ?_|refine zA ?_));exact BK157.out⟩,⟨by repeat (first|(with_reducible first|exact HB.out|apply below_alloc|apply pw_below_drewN|apply below_drew1|refine below_set ?_ GE157.out)|exact HB.out)⟩⟩
    ·rw [if_neg c20] at H
     have c20b0:(a0_0==1)=false:=beq_eq_false_iff_ne.mpr c20
     have c20b1:(a0_0 != 1)=true:=bne_iff_ne.mpr c20
     (first|rw [c20b0]|(simp only [i64_w,i32_w];rw [c20b0])|skip)
     by_cases c24:a0_0=2
     ·rw [if_pos c24] at H
      have c24b0:(a0_0==2)=true:=beq_iff_eq.mpr c24
      have c24b1:(a0_0 != 2)=false:=bne_eq_false_iff_eq.mpr c24
      clear c24
      have H':=Aside0.mk H
      clear H
      have hcz25_0:w16.cell? ⟨gb157,0,none⟩=some (.int .i64 a0_0):=(blk_cell BK157.out 0).trans rfl
      have hcz25_1:w16.cell? ⟨gb157,1,none⟩=some (.slice A0_1 l0_1.length c0_1):=(blk_cell BK157.out 1).trans rfl
      have hcz25_2:w16.cell? ⟨gb157,2,none⟩=some (.int .i64 a0_2):=(blk_cell BK157.out 2).trans rfl
      have hcz25_3:w16.cell? ⟨gb157,3,none⟩=some (.int .u64 a0_3):=(blk_cell BK157.out 3).trans rfl
      have hcz25_4:w16.cell? ⟨gb157,4,none⟩=some (.string a0_4):=(blk_cell BK157.out 4).trans rfl
      have hcz25_5:w16.cell? ⟨gb157,5,none⟩=some (.int .u64 a0_5):=(blk_cell BK157.out 5).trans rfl
      have hfz25_0:=blk_frozen BK157.out 0
      have hfz25_1:=blk_frozen BK157.out 1
      have hfz25_2:=blk_frozen BK157.out 2
      have hfz25_3:=blk_frozen BK157.out 3
      have hfz25_4:=blk_frozen BK157.out 4
      have hfz25_5:=blk_frozen BK157.out 5
      go_wp2_with (first|((with_reducible refine gate_callee (f:=38) rfl ?_);refine goesL_ (some 30) rfl rfl Tryz.func38 (by kernel_rfl) rfl #[.agg #[.int .i64 a0_0,.slice A0_1 l0_1.length c0_1,.int .i64 a0_2,.int .u64 a0_3,.string a0_4,.int .u64 a0_5]] rfl (by (try simp only [List.map_toArray,List.map_cons,List.map_nil]);first|done|rfl|(simp only [List.length_drop,List.length_take];rfl)) ?_;(with_reducible refine (doorwardref16_bare.calls a0_0 _ _ l0_1 a0_2 a0_3 a0_4 a0_5 true _ ?side1 ?side2 ?side3 A18.out).mono ?_);(case side1 => repeat (first|exact (Kd.C_below HR0_1.out HB.out)|(with_reducible refine Kd.C_alloc ?_ _)|(with_reducible refine Kd.C_drewN ?_ _)|(with_reducible refine Kd.C_drew ?_)));(case side2 => exact HC0_1.out);(case side3 => exact LaidAt.of HLD.out (by repeat (first|(with_reducible first|exact HB.out|apply below_alloc|apply pw_below_drewN|apply below_drew1|refine below_set ?_ GE157.out)|exact HB.out)));rintro e w26 ⟨rfl,hb⟩;refine ⟨_,rfl,?_⟩;have n0_:=Aside0.mk (blk_below (g:=gb157) (o:=.cells #[.int .i64 a0_0,.slice A0_1 l0_1.length c0_1,.int .i64 a0_2,.int .u64 a0_3,.string a0_4,.int .u64 a0_5] 28 (0,0)) (by (with_reducible repeat (first|refine zN ?_|refine zD ?_|refine zA ?_));exact BK157.out) hb);have n1_:=Aside0.mk (below_step (by repeat (first|(with_reducible first|exact HB.out|apply below_alloc|apply pw_below_drewN|apply below_drew1|refine below_set ?_ GE157.out)|exact HB.out)) hb);clear BK157;clear HB;have BK157:=n0_;have HB:=n1_;clear n0_ n1_;(try clear hb);(try clear hb2);(try clear hk);(try clear hi);have hcz27_0:w26.cell? ⟨gb157,0,none⟩=some (.int .i64 a0_0):=(blk_cell BK157.out 0).trans rfl;have hcz27_1:w26.cell? ⟨gb157,1,none⟩=some (.slice A0_1 l0_1.length c0_1):=(blk_cell BK157.out 1).trans rfl;have hcz27_2:w26.cell? ⟨gb157,2,none⟩=some (.int .i64 a0_2):=(blk_cell BK157.out 2).trans rfl;have hcz27_3:w26.cell? ⟨gb157,3,none⟩=some (.int .u64 a0_3):=(blk_cell BK157.out 3).trans rfl;have hcz27_4:w26.cell? ⟨gb157,4,none⟩=some (.string a0_4):=(blk_cell BK157.out 4).trans rfl;have hcz27_5:w26.cell? ⟨gb157,5,none⟩=some (.int .u64 a0_5):=(blk_cell BK157.out 5).trans rfl;have hfz27_0:=blk_frozen BK157.out 0;have hfz27_1:=blk_frozen BK157.out 1;have hfz27_2:=blk_frozen BK157.out 2;have hfz27_3:=blk_frozen BK157.out 3;have hfz27_4:=blk_frozen BK157.out 4;have hfz27_5:=blk_frozen BK157.out 5))
      go_meet
      case rel => exact ⟨_,(false),(by first|rfl|(simp;done)|(simp [*];done)),H',⟨by first|omega|exact Nat.le_refl _⟩,⟨by (with_reducible repeat (first|refine zN ?_|refine zD ?_|refine zA ?_));exact BK157.out⟩,⟨by repeat (first|(with_reducible first|exact HB.out|apply below_alloc|apply pw_below_drewN|apply below_drew1|refine below_set ?_ GE157.out)|exact HB.out)⟩⟩
     ·rw [if_neg c24] at H
      have c24b0:(a0_0==2)=false:=beq_eq_false_iff_ne.mpr c24
      have c24b1:(a0_0 != 2)=true:=bne_iff_ne.mpr c24
      have H':=Aside0.mk H
      clear H
      have hcz28_0:w16.cell? ⟨gb157,0,none⟩=some (.int .i64 a0_0):=(blk_cell BK157.out 0).trans rfl
      have hcz28_1:w16.cell? ⟨gb157,1,none⟩=some (.slice A0_1 l0_1.length c0_1):=(blk_cell BK157.out 1).trans rfl
      have hcz28_2:w16.cell? ⟨gb157,2,none⟩=some (.int .i64 a0_2):=(blk_cell BK157.out 2).trans rfl
      have hcz28_3:w16.cell? ⟨gb157,3,none⟩=some (.int .u64 a0_3):=(blk_cell BK157.out 3).trans rfl
      have hcz28_4:w16.cell? ⟨gb157,4,none⟩=some (.string a0_4):=(blk_cell BK157.out 4).trans rfl
      have hcz28_5:w16.cell? ⟨gb157,5,none⟩=some (.int .u64 a0_5):=(blk_cell BK157.out 5).trans rfl
      have hfz28_0:=blk_frozen BK157.out 0
      have hfz28_1:=blk_frozen BK157.out 1
      have hfz28_2:=blk_frozen BK157.out 2
      have hfz28_3:=blk_frozen BK157.out 3
      have hfz28_4:=blk_frozen BK157.out 4
      have hfz28_5:=blk_frozen BK157.out 5
      go_wp2_with (first|((with_reducible refine gate_callee (f:=38) rfl ?_);refine goesL_ (some 30) rfl rfl Tryz.func38 (by kernel_rfl) rfl #[.agg #[.int .i64 a0_0,.slice A0_1 l0_1.length c0_1,.int .i64 a0_2,.int .u64 a0_3,.string a0_4,.int .u64 a0_5]] rfl (by (try simp only [List.map_toArray,List.map_cons,List.map_nil]);first|done|rfl|(simp only [List.length_drop,List.length_take];rfl)) ?_;(with_reducible refine (doorwardref16_bare.calls a0_0 _ _ l0_1 a0_2 a0_3 a0_4 a0_5 true _ ?side1 ?side2 ?side3 A18.out).mono ?_);(case side1 => repeat (first|exact (Kd.C_below HR0_1.out HB.out)|(with_reducible refine Kd.C_alloc ?_ _)|(with_reducible refine Kd.C_drewN ?_ _)|(with_reducible refine Kd.C_drew ?_)));(case side2 => exact HC0_1.out);(case side3 => exact LaidAt.of HLD.out (by repeat (first|(with_reducible first|exact HB.out|apply below_alloc|apply pw_below_drewN|apply below_drew1|refine below_set ?_ GE157.out)|exact HB.out)));rintro e w29 ⟨rfl,hb⟩;refine ⟨_,rfl,?_⟩;have n0_:=Aside0.mk (blk_below (g:=gb157) (o:=.cells #[.int .i64 a0_0,.slice A0_1 l0_1.length c0_1,.int .i64 a0_2,.int .u64 a0_3,.string a0_4,.int .u64 a0_5] 28 (0,0)) (by (with_reducible repeat (first|refine zN ?_|refine zD ?_|refine zA ?_));exact BK157.out) hb);have n1_:=Aside0.mk (below_step (by repeat (first|(with_reducible first|exact HB.out|apply below_alloc|apply pw_below_drewN|apply below_drew1|refine below_set ?_ GE157.out)|exact HB.out)) hb);clear BK157;clear HB;have BK157:=n0_;have HB:=n1_;clear n0_ n1_;(try clear hb);(try clear hb2);(try clear hk);(try clear hi);have hcz30_0:w29.cell? ⟨gb157,0,none⟩=some (.int .i64 a0_0):=(blk_cell BK157.out 0).trans rfl;have hcz30_1:w29.cell? ⟨gb157,1,none⟩=some (.slice A0_1 l0_1.length c0_1):=(blk_cell BK157.out 1).trans rfl;have hcz30_2:w29.cell? ⟨gb157,2,none⟩=some (.int .i64 a0_2):=(blk_cell BK157.out 2).trans rfl;have hcz30_3:w29.cell? ⟨gb157,3,none⟩=some (.int .u64 a0_3):=(blk_cell BK157.out 3).trans rfl;have hcz30_4:w29.cell? ⟨gb157,4,none⟩=some (.string a0_4):=(blk_cell BK157.out 4).trans rfl;have hcz30_5:w29.cell? ⟨gb157,5,none⟩=some (.int .u64 a0_5):=(blk_cell BK157.out 5).trans rfl;have hfz30_0:=blk_frozen BK157.out 0;have hfz30_1:=blk_frozen BK157.out 1;have hfz30_2:=blk_frozen BK157.out 2;have hfz30_3:=blk_frozen BK157.out 3;have hfz30_4:=blk_frozen BK157.out 4;have hfz30_5:=blk_frozen BK157.out 5))
      go_meet
      case rel => exact ⟨_,((a0_0 != 3)),(by first|rfl|(simp;done)|(simp [*];done)),H',⟨by first|omega|exact Nat.le_refl _⟩,⟨by (with_reducible repeat (first|refine zN ?_|refine zD ?_|refine zA ?_));exact BK157.out⟩,⟨by repeat (first|(with_reducible first|exact HB.out|apply below_alloc|apply pw_below_drewN|apply below_drew1|refine below_set ?_ GE157.out)|exact HB.out)⟩⟩
   ·replace c19:=Bool.eq_false_iff.mpr c19
    subst c19
    have H1:(doorwardref16_fits.j0 k (l0_1.length:Int) true a0_0 l0_1 a0_2 a0_3 a0_4 a0_5)=some r:=by rw [if_neg (show ¬ (false=true) by decide)] at H;exact H
    clear H
    have H:=H1
    clear H1
    have H':=Aside0.mk H
    clear H
    have hcz31_0:w16.cell? ⟨gb157,0,none⟩=some (.int .i64 a0_0):=(blk_cell BK157.out 0).trans rfl
    have hcz31_1:w16.cell? ⟨gb157,1,none⟩=some (.slice A0_1 l0_1.length c0_1):=(blk_cell BK157.out 1).trans rfl
    have hcz31_2:w16.cell? ⟨gb157,2,none⟩=some (.int .i64 a0_2):=(blk_cell BK157.out 2).trans rfl
    have hcz31_3:w16.cell? ⟨gb157,3,none⟩=some (.int .u64 a0_3):=(blk_cell BK157.out 3).trans rfl
    have hcz31_4:w16.cell? ⟨gb157,4,none⟩=some (.string a0_4):=(blk_cell BK157.out 4).trans rfl
    have hcz31_5:w16.cell? ⟨gb157,5,none⟩=some (.int .u64 a0_5):=(blk_cell BK157.out 5).trans rfl
    have hfz31_0:=blk_frozen BK157.out 0
    have hfz31_1:=blk_frozen BK157.out 1
    have hfz31_2:=blk_frozen BK157.out 2
    have hfz31_3:=blk_frozen BK157.out 3
    have hfz31_4:=blk_frozen BK157.out 4
    have hfz31_5:=blk_frozen BK157.out 5
    go_wp2_with (first|((with_reducible refine gate_callee (f:=38) rfl ?_);refine goesL_ (some 30) rfl rfl Tryz.func38 (by kernel_rfl) rfl #[.agg #[.int .i64 a0_0,.slice A0_1 l0_1.length c0_1,.int .i64 a0_2,.int .u64 a0_3,.string a0_4,.int .u64 a0_5]] rfl (by (try simp only [List.map_toArray,List.map_cons,List.map_nil]);first|done|rfl|(simp only [List.length_drop,List.length_take];rfl)) ?_;(with_reducible refine (doorwardref16_bare.calls a0_0 _ _ l0_1 a0_2 a0_3 a0_4 a0_5 false _ ?side1 ?side2 ?side3 A18.out).mono ?_);(case side1 => repeat (first|exact (Kd.C_below HR0_1.out HB.out)|(with_reducible refine Kd.C_alloc ?_ _)|(with_reducible refine Kd.C_drewN ?_ _)|(with_reducible refine Kd.C_drew ?_)));(case side2 => exact HC0_1.out);(case side3 => exact LaidAt.of HLD.out (by repeat (first|(with_reducible first|exact HB.out|apply below_alloc|apply pw_below_drewN|apply below_drew1|refine below_set ?_ GE157.out)|exact HB.out)));rintro e w32 ⟨rfl,hb⟩;refine ⟨_,rfl,?_⟩;have n0_:=Aside0.mk (blk_below (g:=gb157) (o:=.cells #[.int .i64 a0_0,.slice A0_1 l0_1.length c0_1,.int .i64 a0_2,.int .u64 a0_3,.string a0_4,.int .u64 a0_5] 28 (0,0)) (by (with_reducible repeat (first|refine zN ?_|refine zD ?_|refine zA ?_));exact BK157.out) hb);have n1_:=Aside0.mk (below_step (by repeat (first|(with_reducible first|exact HB.out|apply below_alloc|apply pw_below_drewN|apply below_drew1|refine below_set ?_ GE157.out)|exact HB.out)) hb);clear BK157;clear HB;have BK157:=n0_;have HB:=n1_;clear n0_ n1_;(try clear hb);(try clear hb2);(try clear hk);(try clear hi)))
    go_meet
    case rel => exact ⟨_,(true),(by first|rfl|(simp;done)|(simp [*];done)),H',⟨by first|omega|exact Nat.le_refl _⟩,⟨by (with_reducible repeat (first|refine zN ?_|refine zD ?_|refine zA ?_));exact BK157.out⟩,⟨by repeat (first|(with_reducible first|exact HB.out|apply below_alloc|apply pw_below_drewN|apply below_drew1|refine below_set ?_ GE157.out)|exact HB.out)⟩⟩
  case rest =>
   clear HC15
   obtain ⟨kq,x46_14,rfl,HA,HJ14,BK157,HB⟩:=hcut
   cases kq with
   |  zero => exact absurd HA.out (by simp [doorwardref16_fits.j0])
   |  succ kj14 =>
    have H:=HA.out
    clear HA
    simp only [doorwardref16_fits.j0] at H
    by_cases c33:x46_14=true
    ·subst c33
     have H1:(some false)=some r:=by rw [if_pos rfl] at H;exact H
     clear H
     have H:=H1
     clear H1
     obtain rfl:=Option.some.inj H
     go_wp2
     go_ret
     exact ⟨by first|rfl|(simp [errW_none,errW_some]<;>rfl)|(simp [*,errW_none,errW_some]<;>rfl),by repeat (first|(with_reducible first|exact HB.out|apply below_alloc|apply pw_below_drewN|apply below_drew1|refine below_set ?_ GE157.out)|exact HB.out)⟩
    ·replace c33:=Bool.eq_false_iff.mpr c33
     subst c33
     have H1:(if a0_0=3 then (if (l0_1.length:Int)=1 then (doorwardref16_fits.j1 kj14 false a0_0 l0_1 a0_2 a0_3 a0_4 a0_5) else (doorwardref16_fits.j1 kj14 true a0_0 l0_1 a0_2 a0_3 a0_4 a0_5)) else (doorwardref16_fits.j1 kj14 (decide ((l0_1.length:Int)<2)) a0_0 l0_1 a0_2 a0_3 a0_4 a0_5))=some r:=by rw [if_neg (show ¬ (false=true) by decide)] at H;exact H
     clear H
     have H:=H1
     clear H1
     have HC34:=Aside0.mk H
     clear H
     go_upto_region 6 with (fail)
     go_cut [62] (fun v62 wc =>∃(kq:Nat) (x62_33:Bool),v62=.bool x62_33∧Aside0 (doorwardref16_fits.j1 kq x62_33 a0_0 l0_1 a0_2 a0_3 a0_4 a0_5=some r)∧Aside0 (kq≤kj14)∧Aside0 (wc.heap[gb157]?=some (.cells #[.int .i64 a0_0,(.slice A0_1 l0_1.length c0_1),.int .i64 a0_2,.int .u64 a0_3,.string a0_4,.int .u64 a0_5] 28 (0,0)))∧Aside0 (Below w.heap.size w wc))
     case first =>
      have H:=HC34.out
      clear HC34
      by_cases c35:a0_0=3
      ·rw [if_pos c35] at H
       have c35b0:(a0_0==3)=true:=beq_iff_eq.mpr c35
       have c35b1:(a0_0 != 3)=false:=bne_eq_false_iff_eq.mpr c35
       clear c35
       (first|rw [c35b0]|(simp only [i64_w,i32_w];rw [c35b0])|skip)
       by_cases c36:(l0_1.length:Int)=1
       ·rw [if_pos c36] at H
        have c36b0:((l0_1.length:Int)==1)=true:=beq_iff_eq.mpr c36
        have c36b1:((l0_1.length:Int) != 1)=false:=bne_eq_false_iff_eq.mpr c36
        clear c36
        have H':=Aside0.mk H
        clear H
        have hcz37_0:wc.cell? ⟨gb157,0,none⟩=some (.int .i64 a0_0):=(blk_cell BK157.out 0).trans rfl
        have hcz37_1:wc.cell? ⟨gb157,1,none⟩=some (.slice A0_1 l0_1.length c0_1):=(blk_cell BK157.out 1).trans rfl
        have hcz37_2:wc.cell? ⟨gb157,2,none⟩=some (.int .i64 a0_2):=(blk_cell BK157.out 2).trans rfl
        have hcz37_3:wc.cell? ⟨gb157,3,none⟩=some (.int .u64 a0_3):=(blk_cell BK157.out 3).trans rfl
        have hcz37_4:wc.cell? ⟨gb157,4,none⟩=some (.string a0_4):=(blk_cell BK157.out 4).trans rfl
        have hcz37_5:wc.cell? ⟨gb157,5,none⟩=some (.int .u64 a0_5):=(blk_cell BK157.out 5).trans rfl
        have hfz37_0:=blk_frozen BK157.out 0
        have hfz37_1:=blk_frozen BK157.out 1
        have hfz37_2:=blk_frozen BK157.out 2
        have hfz37_3:=blk_frozen BK157.out 3
        have hfz37_4:=blk_frozen BK157.out 4
        have hfz37_5:=blk_frozen BK157.out 5
        go_wp2
        go_meet
        case rel => exact ⟨_,(false),(by first|rfl|(simp;done)|(simp [*];done)),H',⟨by have:=HJ14.out;first|omega|exact Nat.le_refl _⟩,⟨by (with_reducible repeat (first|refine zN ?_|refine zD ?_|refine zA ?_));exact BK157.out⟩,⟨by repeat (first|(with_reducible first|exact HB.out|apply below_alloc|apply pw_below_drewN|apply below_drew1|refine below_set ?_ GE157.out)|exact HB.out)⟩⟩
       ·rw [if_neg c36] at H
        have c36b0:((l0_1.length:Int)==1)=false:=beq_eq_false_iff_ne.mpr c36
        have c36b1:((l0_1.length:Int) != 1)=true:=bne_iff_ne.mpr c36
        have H':=Aside0.mk H
        clear H
        have hcz38_0:wc.cell? ⟨gb157,0,none⟩=some (.int .i64 a0_0):=(blk_cell BK157.out 0).trans rfl
        have hcz38_1:wc.cell? ⟨gb157,1,none⟩=some (.slice A0_1 l0_1.length c0_1):=(blk_cell BK157.out 1).trans rfl
        have hcz38_2:wc.cell? ⟨gb157,2,none⟩=some (.int .i64 a0_2):=(blk_cell BK157.out 2).trans rfl
        have hcz38_3:wc.cell? ⟨gb157,3,none⟩=some (.int .u64 a0_3):=(blk_cell BK157.out 3).trans rfl
        have hcz38_4:wc.cell? ⟨gb157,4,none⟩=some (.string a0_4):=(blk_cell BK157.out 4).trans rfl
        have hcz38_5:wc.cell? ⟨gb157,5,none⟩=some (.int .u64 a0_5):=(blk_cell BK157.out 5).trans rfl
        have hfz38_0:=blk_frozen BK157.out 0
        have hfz38_1:=blk_frozen BK157.out 1
        have hfz38_2:=blk_frozen BK157.out 2
        have hfz38_3:=blk_frozen BK157.out 3
        have hfz38_4:=blk_frozen BK157.out 4
        have hfz38_5:=blk_frozen BK157.out 5
        go_wp2
        go_meet
        case rel => exact ⟨_,(true),(by first|rfl|(simp;done)|(simp [*];done)),H',⟨by have:=HJ14.out;first|omega|exact Nat.le_refl _⟩,⟨by (with_reducible repeat (first|refine zN ?_|refine zD ?_|refine zA ?_));exact BK157.out⟩,⟨by repeat (first|(with_reducible first|exact HB.out|apply below_alloc|apply pw_below_drewN|apply below_drew1|refine below_set ?_ GE157.out)|exact HB.out)⟩⟩
      ·rw [if_neg c35] at H
       have c35b0:(a0_0==3)=false:=beq_eq_false_iff_ne.mpr c35
       have c35b1:(a0_0 != 3)=true:=bne_iff_ne.mpr c35
       (first|rw [c35b0]|(simp only [i64_w,i32_w];rw [c35b0])|skip)
       have H':=Aside0.mk H
       clear H
       have hcz39_0:wc.cell? ⟨gb157,0,none⟩=some (.int .i64 a0_0):=(blk_cell BK157.out 0).trans rfl
       have hcz39_1:wc.cell? ⟨gb157,1,none⟩=some (.slice A0_1 l0_1.length c0_1):=(blk_cell BK157.out 1).trans rfl
       have hcz39_2:wc.cell? ⟨gb157,2,none⟩=some (.int .i64 a0_2):=(blk_cell BK157.out 2).trans rfl
       have hcz39_3:wc.cell? ⟨gb157,3,none⟩=some (.int .u64 a0_3):=(blk_cell BK157.out 3).trans rfl
       have hcz39_4:wc.cell? ⟨gb157,4,none⟩=some (.string a0_4):=(blk_cell BK157.out 4).trans rfl
       have hcz39_5:wc.cell? ⟨gb157,5,none⟩=some (.int .u64 a0_5):=(blk_cell BK157.out 5).trans rfl
       have hfz39_0:=blk_frozen BK157.out 0
       have hfz39_1:=blk_frozen BK157.out 1
       have hfz39_2:=blk_frozen BK157.out 2
       have hfz39_3:=blk_frozen BK157.out 3
       have hfz39_4:=blk_frozen BK157.out 4
       have hfz39_5:=blk_frozen BK157.out 5
       go_wp2
       go_meet
       case rel => exact ⟨_,(decide ((l0_1.length:Int)<2)),(by first|rfl|(simp;done)|(simp [*];done)),H',⟨by have:=HJ14.out;first|omega|exact Nat.le_refl _⟩,⟨by (with_reducible repeat (first|refine zN ?_|refine zD ?_|refine zA ?_));exact BK157.out⟩,⟨by repeat (first|(with_reducible first|exact HB.out|apply below_alloc|apply pw_below_drewN|apply below_drew1|refine below_set ?_ GE157.out)|exact HB.out)⟩⟩
     case rest =>
      clear HC34
      obtain ⟨kq,x62_33,rfl,HA,HJ33,BK157,HB⟩:=hcut
      cases kq with
      |  zero => exact absurd HA.out (by simp [doorwardref16_fits.j1])
      |  succ kj33 =>
       have H:=HA.out
       clear HA
       simp only [doorwardref16_fits.j1] at H
       by_cases c40:x62_33=true
       ·subst c40
        have H1:(some false)=some r:=by rw [if_pos rfl] at H;exact H
        clear H
        have H:=H1
        clear H1
        obtain rfl:=Option.some.inj H
        go_wp2
        go_ret
        exact ⟨by first|rfl|(simp [errW_none,errW_some]<;>rfl)|(simp [*,errW_none,errW_some]<;>rfl),by repeat (first|(with_reducible first|exact HB.out|apply below_alloc|apply pw_below_drewN|apply below_drew1|refine below_set ?_ GE157.out)|exact HB.out)⟩
       ·replace c40:=Bool.eq_false_iff.mpr c40
        subst c40
        have H1:(doorwardref16_fits.l0 kj33 l0_1 (l0_1.length:Int) 0)=some r:=by rw [if_neg (show ¬ (false=true) by decide)] at H;exact H
        clear H
        have H:=H1
        clear H1
        have H':=Aside0.mk H
        clear H
        have hcz41_0:wc.cell? ⟨gb157,0,none⟩=some (.int .i64 a0_0):=(blk_cell BK157.out 0).trans rfl
        have hcz41_1:wc.cell? ⟨gb157,1,none⟩=some (.slice A0_1 l0_1.length c0_1):=(blk_cell BK157.out 1).trans rfl
        have hcz41_2:wc.cell? ⟨gb157,2,none⟩=some (.int .i64 a0_2):=(blk_cell BK157.out 2).trans rfl
        have hcz41_3:wc.cell? ⟨gb157,3,none⟩=some (.int .u64 a0_3):=(blk_cell BK157.out 3).trans rfl
        have hcz41_4:wc.cell? ⟨gb157,4,none⟩=some (.string a0_4):=(blk_cell BK157.out 4).trans rfl
        have hcz41_5:wc.cell? ⟨gb157,5,none⟩=some (.int .u64 a0_5):=(blk_cell BK157.out 5).trans rfl
        have hfz41_0:=blk_frozen BK157.out 0
        have hfz41_1:=blk_frozen BK157.out 1
        have hfz41_2:=blk_frozen BK157.out 2
        have hfz41_3:=blk_frozen BK157.out 3
        have hfz41_4:=blk_frozen BK157.out 4
        have hfz41_5:=blk_frozen BK157.out 5
        go_wp2
        go_loopg [66] kj33 (fun kq v66 w' =>∃(x66_3:Int),v66=.int .i64 x66_3∧Aside0 (doorwardref16_fits.l0 kq l0_1 (l0_1.length:Int) x66_3=some r)∧Aside0 (kq≤kj33)∧Aside0 (w'.heap[gb157]?=some (.cells #[.int .i64 a0_0,(.slice A0_1 l0_1.length c0_1),.int .i64 a0_2,.int .u64 a0_3,.string a0_4,.int .u64 a0_5] 28 (0,0)))∧Aside0 (Below w.heap.size w w'))
        case atStart => exact ⟨(0),(by first|rfl|(simp;done)|(simp [*];done)),H',⟨Nat.le_refl _⟩,⟨by (with_reducible repeat (first|refine zN ?_|refine zD ?_|refine zA ?_));exact BK157.out⟩,⟨by repeat (first|(with_reducible first|exact HB.out|apply below_alloc|apply pw_below_drewN|apply below_drew1|refine below_set ?_ GE157.out)|exact HB.out)⟩⟩
        case round =>
         clear H'
         obtain ⟨x66_3,rfl,HA,HK3,BK157,HB⟩:=hrel
         cases gk with
         |  zero => exact absurd HA.out (by simp [doorwardref16_fits.l0])
         |  succ k3 =>
          have H:=HA.out
          clear HA
          simp only [doorwardref16_fits.l0] at H
          by_cases c42:x66_3<(l0_1.length:Int)
          ·rw [if_pos c42] at H
           have c42b0:decide (x66_3<(l0_1.length:Int))=true:=decide_eq_true c42
           clear c42
           by_cases c43:0≤x66_3
           ·rw [if_pos c43] at H
            have c43b0:decide (0≤x66_3)=true:=decide_eq_true c43
            clear c43
            by_cases c44:x66_3<(l0_1.length:Int)
            ·rw [if_pos c44] at H
             have c44b0:decide (x66_3<(l0_1.length:Int))=true:=decide_eq_true c44
             clear c44
             replace H:=Option.bind_eq_some_iff.mp H
             obtain ⟨t162,A450,H⟩:=H
             replace H:(if t162=true then (doorwardref16_fits.l0 k3 l0_1 (l0_1.length:Int) (wrap64 (x66_3+1))) else (some false))=some r:=H
             have A45:=Aside0.mk A450
             clear A450
             by_cases c46:t162=true
             ·subst c46
              have H1:(doorwardref16_fits.l0 k3 l0_1 (l0_1.length:Int) (wrap64 (x66_3+1)))=some r:=by rw [if_pos rfl] at H;exact H
              clear H
              have H:=H1
              clear H1
              have H':=Aside0.mk H
              clear H
              have p160:0≤(x66_3:Int):=of_decide_eq_true (by first|(with_reducible assumption)|assumption)
              have q160:x66_3<(l0_1.length:Int):=of_decide_eq_true (by first|(with_reducible assumption)|assumption)
              obtain ⟨ad160,A160_1,c160_1,e160,hx160_0,hx160_1,hx160_2,hx160_3,hx160_4,hx160_5,hl160_1,hi160_1⟩:=at_T28 HR0_1.out x66_3 p160 q160
              cases e160
              replace hx160_0:=(HB.out.cell (World.block_lt_of_cell? w _ hx160_0)).trans hx160_0
              replace hx160_1:=(HB.out.cell (World.block_lt_of_cell? w _ hx160_1)).trans hx160_1
              replace hx160_2:=(HB.out.cell (World.block_lt_of_cell? w _ hx160_2)).trans hx160_2
              replace hx160_3:=(HB.out.cell (World.block_lt_of_cell? w _ hx160_3)).trans hx160_3
              replace hx160_4:=(HB.out.cell (World.block_lt_of_cell? w _ hx160_4)).trans hx160_4
              replace hx160_5:=(HB.out.cell (World.block_lt_of_cell? w _ hx160_5)).trans hx160_5
              have HR160_1:=Aside0.mk hi160_1
              have HC160_1:=Aside0.mk hl160_1
              clear hi160_1 hl160_1
              replace p160:=eq_true p160
              replace q160:=eq_true q160
              go_wp2_with (first|((with_reducible refine gate_dst (N:=5) rfl ?_);refine box_event ?hg (N:=5) ?hd (cs:=#[.int .i64 0,.slice none 0 0,.int .i64 0,.int .u64 0,.string ⟨#[]⟩,.int .u64 0]) (t:=28) ?hr ?_;(case hd => rfl);(case hg => rfl);(case hr => first|(go_simp;done)|(go_simp;rfl));intro gb161 hg w47 hbox hb;have n0_:=Aside0.mk (blk_below (g:=gb157) (o:=.cells #[.int .i64 a0_0,.slice (some ad160) l0_1.length c0_1,.int .i64 a0_2,.int .u64 a0_3,.string a0_4,.int .u64 a0_5] 28 (0,0)) (by (with_reducible repeat (first|refine zN ?_|refine zD ?_|refine zA ?_));exact BK157.out) hb);have n1_:=Aside0.mk (below_step (by repeat (first|(with_reducible first|exact HB.out|apply below_alloc|apply pw_below_drewN|apply below_drew1|refine below_set ?_ GE157.out)|exact HB.out)) hb);have n2_:=Aside0.mk (hbox);have n3_:=Aside0.mk ((by rw [hg];exact (below_size (by repeat (first|(with_reducible first|exact HB.out|apply below_alloc|apply pw_below_drewN|apply below_drew1|refine below_set ?_ GE157.out)|exact HB.out))):w.heap.size≤gb161));have n4_:=Aside0.mk ((by rw [hg];exact (below_size (by repeat (first|(with_reducible first|exact HB.out|apply below_alloc|apply pw_below_drewN|apply below_drew1|refine below_set ?_ GE157.out)|exact HB.out))):w.heap.size≤gb161));have n5_:=Aside0.mk ((by rw [hg];exact Nat.ne_of_lt (blk_lt (g:=gb157) (o:=.cells #[.int .i64 a0_0,.slice (some ad160) l0_1.length c0_1,.int .i64 a0_2,.int .u64 a0_3,.string a0_4,.int .u64 a0_5] 28 (0,0)) (by (with_reducible repeat (first|refine zN ?_|refine zD ?_|refine zA ?_));exact BK157.out)):gb157 ≠ gb161));have n6_:=Aside0.mk ((by rw [hg];exact Nat.ne_of_gt (blk_lt (g:=gb157) (o:=.cells #[.int .i64 a0_0,.slice (some ad160) l0_1.length c0_1,.int .i64 a0_2,.int .u64 a0_3,.string a0_4,.int .u64 a0_5] 28 (0,0)) (by (with_reducible repeat (first|refine zN ?_|refine zD ?_|refine zA ?_));exact BK157.out)):gb161 ≠ gb157));clear BK157;clear HB;have BK157:=n0_;have HB:=n1_;have BK161:=n2_;have GW161:=n3_;have GE161:=n4_;have NB157_161:=n5_;have NB161_157:=n6_;clear n0_ n1_ n2_ n3_ n4_ n5_ n6_;clear hb hbox hg;have hnb48:=NB161_157.out;have hnc48:=NB157_161.out;have hcz49_0:w47.cell? ⟨gb161,0,none⟩=some (.int .i64 0):=(blk_cell BK161.out 0).trans rfl;have hcz49_1:w47.cell? ⟨gb161,1,none⟩=some (.slice none 0 0):=(blk_cell BK161.out 1).trans rfl;have hcz49_2:w47.cell? ⟨gb161,2,none⟩=some (.int .i64 0):=(blk_cell BK161.out 2).trans rfl;have hcz49_3:w47.cell? ⟨gb161,3,none⟩=some (.int .u64 0):=(blk_cell BK161.out 3).trans rfl;have hcz49_4:w47.cell? ⟨gb161,4,none⟩=some (.string ⟨#[]⟩):=(blk_cell BK161.out 4).trans rfl;have hcz49_5:w47.cell? ⟨gb161,5,none⟩=some (.int .u64 0):=(blk_cell BK161.out 5).trans rfl;have hfz49_0:=blk_frozen BK161.out 0;have hfz49_1:=blk_frozen BK161.out 1;have hfz49_2:=blk_frozen BK161.out 2;have hfz49_3:=blk_frozen BK161.out 3;have hfz49_4:=blk_frozen BK161.out 4;have hfz49_5:=blk_frozen BK161.out 5)|((with_reducible refine gate_callee (f:=24) rfl ?_);refine goesL_ (some 71) rfl rfl Tryz.func24 (by kernel_rfl) rfl #[.agg #[.int .i64 ((rd_T28 l0_1 x66_3).f0),.slice A160_1 ((rd_T28 l0_1 x66_3).f1).length c160_1,.int .i64 ((rd_T28 l0_1 x66_3).f2),.int .u64 ((rd_T28 l0_1 x66_3).f3),.string ((rd_T28 l0_1 x66_3).f4),.int .u64 ((rd_T28 l0_1 x66_3).f5)]] rfl (by (try simp only [List.map_toArray,List.map_cons,List.map_nil]);first|done|rfl|(simp only [List.length_drop,List.length_take];rfl)) ?_;(with_reducible refine (ih k3 (by have:=HJ14.out;have:=HJ33.out;have:=HK3.out;omega) ((rd_T28 l0_1 x66_3).f0) _ _ ((rd_T28 l0_1 x66_3).f1) ((rd_T28 l0_1 x66_3).f2) ((rd_T28 l0_1 x66_3).f3) ((rd_T28 l0_1 x66_3).f4) ((rd_T28 l0_1 x66_3).f5) true _ ?side1 ?side2 ?side3 A45.out).mono ?_);(case side1 => exact Kd.C_below HR160_1.out (by repeat (first|(with_reducible first|exact HB.out|apply below_alloc|apply pw_below_drewN|apply below_drew1|refine below_set ?_ GE157.out|refine below_set ?_ GE161.out)|exact HB.out)));(case side2 => exact HC160_1.out);(case side3 => exact LaidAt.of HLD.out (by repeat (first|(with_reducible first|exact HB.out|apply below_alloc|apply pw_below_drewN|apply below_drew1|refine below_set ?_ GE157.out|refine below_set ?_ GE161.out)|exact HB.out)));rintro e w50 ⟨rfl,hb⟩;refine ⟨_,rfl,?_⟩;have n0_:=Aside0.mk (blk_below (g:=gb157) (o:=.cells #[.int .i64 a0_0,.slice (some ad160) l0_1.length c0_1,.int .i64 a0_2,.int .u64 a0_3,.string a0_4,.int .u64 a0_5] 28 (0,0)) (by (with_reducible repeat (first|refine zN ?_|refine zD ?_|refine zA ?_));refine blk_far ?_ NB157_161.out _;(with_reducible repeat (first|refine zN ?_|refine zD ?_|refine zA ?_));refine blk_far ?_ NB157_161.out _;(with_reducible repeat (first|refine zN ?_|refine zD ?_|refine zA ?_));refine blk_far ?_ NB157_161.out _;(with_reducible repeat (first|refine zN ?_|refine zD ?_|refine zA ?_));refine blk_far ?_ NB157_161.out _;(with_reducible repeat (first|refine zN ?_|refine zD ?_|refine zA ?_));refine blk_far ?_ NB157_161.out _;(with_reducible repeat (first|refine zN ?_|refine zD ?_|refine zA ?_));refine blk_far ?_ NB157_161.out _;(with_reducible repeat (first|refine zN ?_|refine zD ?_|refine zA ?_));exact BK157.out) hb);have n1_:=Aside0.mk (blk_below (g:=gb161) (o:=.cells #[.int .i64 ((rd_T28 l0_1 x66_3).f0),.slice A160_1 ((rd_T28 l0_1 x66_3).f1).length c160_1,.int .i64 ((rd_T28 l0_1 x66_3).f2),.int .u64 ((rd_T28 l0_1 x66_3).f3),.string ((rd_T28 l0_1 x66_3).f4),.int .u64 ((rd_T28 l0_1 x66_3).f5)] 28 (0,0)) (by (with_reducible repeat (first|refine zN ?_|refine zD ?_|refine zA ?_));refine blk_put (cs:=#[.int .i64 ((rd_T28 l0_1 x66_3).f0),.slice A160_1 ((rd_T28 l0_1 x66_3).f1).length c160_1,.int .i64 ((rd_T28 l0_1 x66_3).f2),.int .u64 ((rd_T28 l0_1 x66_3).f3),.string ((rd_T28 l0_1 x66_3).f4),.int .u64 0]) ?_ 5 _ rfl;(with_reducible repeat (first|refine zN ?_|refine zD ?_|refine zA ?_));refine blk_put (cs:=#[.int .i64 ((rd_T28 l0_1 x66_3).f0),.slice A160_1 ((rd_T28 l0_1 x66_3).f1).length c160_1,.int .i64 ((rd_T28 l0_1 x66_3).f2),.int .u64 ((rd_T28 l0_1 x66_3).f3),.string ⟨#[]⟩,.int .u64 0]) ?_ 4 _ rfl;(with_reducible repeat (first|refine zN ?_|refine zD ?_|refine zA ?_));refine blk_put (cs:=#[.int .i64 ((rd_T28 l0_1 x66_3).f0),.slice A160_1 ((rd_T28 l0_1 x66_3).f1).length c160_1,.int .i64 ((rd_T28 l0_1 x66_3).f2),.int .u64 0,.string ⟨#[]⟩,.int .u64 0]) ?_ 3 _ rfl;(with_reducible repeat (first|refine zN ?_|refine zD ?_|refine zA ?_));refine blk_put (cs:=#[.int .i64 ((rd_T28 l0_1 x66_3).f0),.slice A160_1 ((rd_T28 l0_1 x66_3).f1).length c160_1,.int .i64 0,.int .u64 0,.string ⟨#[]⟩,.int .u64 0]) ?_ 2 _ rfl;(with_reducible repeat (first|refine zN ?_|refine zD ?_|refine zA ?_));refine blk_put (cs:=#[.int .i64 ((rd_T28 l0_1 x66_3).f0),.slice none 0 0,.int .i64 0,.int .u64 0,.string ⟨#[]⟩,.int .u64 0]) ?_ 1 _ rfl;(with_reducible repeat (first|refine zN ?_|refine zD ?_|refine zA ?_));refine blk_put (cs:=#[.int .i64 0,.slice none 0 0,.int .i64 0,.int .u64 0,.string ⟨#[]⟩,.int .u64 0]) ?_ 0 _ rfl;(with_reducible repeat (first|refine zN ?_|refine zD ?_|refine zA ?_));exact BK161.out) hb);have n2_:=Aside0.mk (below_step (by repeat (first|(with_reducible first|exact HB.out|apply below_alloc|apply pw_below_drewN|apply below_drew1|refine below_set ?_ GE157.out|refine below_set ?_ GE161.out)|exact HB.out)) hb);clear BK157;clear BK161;clear HB;have BK157:=n0_;have BK161:=n1_;have HB:=n2_;clear n0_ n1_ n2_;(try clear hb);(try clear hb2);(try clear hk);(try clear hi)))
              go_roundg k3
              case measure => have:=HJ14.out;have:=HJ33.out;have:=HK3.out;omega
              case rel => exact ⟨(wrap64 (x66_3+1)),(by first|rfl|(simp;done)|(simp [*];done)),H',⟨by have:=HJ14.out;have:=HJ33.out;have:=HK3.out;omega⟩,⟨by (with_reducible repeat (first|refine zN ?_|refine zD ?_|refine zA ?_));exact BK157.out⟩,⟨by repeat (first|(with_reducible first|exact HB.out|apply below_alloc|apply pw_below_drewN|apply below_drew1|refine below_set ?_ GE157.out|refine below_set ?_ GE161.out)|exact HB.out)⟩⟩
             ·replace c46:=Bool.eq_false_iff.mpr c46
              subst c46
              have H1:(some false)=some r:=by rw [if_neg (show ¬ (false=true) by decide)] at H;exact H
              clear H
              have H:=H1
              clear H1
              obtain rfl:=Option.some.inj H
              have p160:0≤(x66_3:Int):=of_decide_eq_true (by first|(with_reducible assumption)|assumption)
              have q160:x66_3<(l0_1.length:Int):=of_decide_eq_true (by first|(with_reducible assumption)|assumption)
              obtain ⟨ad160,A160_1,c160_1,e160,hx160_0,hx160_1,hx160_2,hx160_3,hx160_4,hx160_5,hl160_1,hi160_1⟩:=at_T28 HR0_1.out x66_3 p160 q160
              cases e160
              replace hx160_0:=(HB.out.cell (World.block_lt_of_cell? w _ hx160_0)).trans hx160_0
              replace hx160_1:=(HB.out.cell (World.block_lt_of_cell? w _ hx160_1)).trans hx160_1
              replace hx160_2:=(HB.out.cell (World.block_lt_of_cell? w _ hx160_2)).trans hx160_2
              replace hx160_3:=(HB.out.cell (World.block_lt_of_cell? w _ hx160_3)).trans hx160_3
              replace hx160_4:=(HB.out.cell (World.block_lt_of_cell? w _ hx160_4)).trans hx160_4
              replace hx160_5:=(HB.out.cell (World.block_lt_of_cell? w _ hx160_5)).trans hx160_5
              have HR160_1:=Aside0.mk hi160_1
              have HC160_1:=Aside0.mk hl160_1
              clear hi160_1 hl160_1
              replace p160:=eq_true p160
              replace q160:=eq_true q160
              go_wp2_with (first|((with_reducible refine gate_dst (N:=5) rfl ?_);refine box_event ?hg (N:=5) ?hd (cs:=#[.int .i64 0,.slice none 0 0,.int .i64 0,.int .u64 0,.string ⟨#[]⟩,.int .u64 0]) (t:=28) ?hr ?_;(case hd => rfl);(case hg => rfl);(case hr => first|(go_simp;done)|(go_simp;rfl));intro gb161 hg w51 hbox hb;have n0_:=Aside0.mk (blk_below (g:=gb157) (o:=.cells #[.int .i64 a0_0,.slice (some ad160) l0_1.length c0_1,.int .i64 a0_2,.int .u64 a0_3,.string a0_4,.int .u64 a0_5] 28 (0,0)) (by (with_reducible repeat (first|refine zN ?_|refine zD ?_|refine zA ?_));exact BK157.out) hb);have n1_:=Aside0.mk (below_step (by repeat (first|(with_reducible first|exact HB.out|apply below_alloc|apply pw_below_drewN|apply below_drew1|refine below_set ?_ GE157.out)|exact HB.out)) hb);have n2_:=Aside0.mk (hbox);have n3_:=Aside0.mk ((by rw [hg];exact (below_size (by repeat (first|(with_reducible first|exact HB.out|apply below_alloc|apply pw_below_drewN|apply below_drew1|refine below_set ?_ GE157.out)|exact HB.out))):w.heap.size≤gb161));have n4_:=Aside0.mk ((by rw [hg];exact (below_size (by repeat (first|(with_reducible first|exact HB.out|apply below_alloc|apply pw_below_drewN|apply below_drew1|refine below_set ?_ GE157.out)|exact HB.out))):w.heap.size≤gb161));have n5_:=Aside0.mk ((by rw [hg];exact Nat.ne_of_lt (blk_lt (g:=gb157) (o:=.cells #[.int .i64 a0_0,.slice (some ad160) l0_1.length c0_1,.int .i64 a0_2,.int .u64 a0_3,.string a0_4,.int .u64 a0_5] 28 (0,0)) (by (with_reducible repeat (first|refine zN ?_|refine zD ?_|refine zA ?_));exact BK157.out)):gb157 ≠ gb161));have n6_:=Aside0.mk ((by rw [hg];exact Nat.ne_of_gt (blk_lt (g:=gb157) (o:=.cells #[.int .i64 a0_0,.slice (some ad160) l0_1.length c0_1,.int .i64 a0_2,.int .u64 a0_3,.string a0_4,.int .u64 a0_5] 28 (0,0)) (by (with_reducible repeat (first|refine zN ?_|refine zD ?_|refine zA ?_));exact BK157.out)):gb161 ≠ gb157));clear BK157;clear HB;have BK157:=n0_;have HB:=n1_;have BK161:=n2_;have GW161:=n3_;have GE161:=n4_;have NB157_161:=n5_;have NB161_157:=n6_;clear n0_ n1_ n2_ n3_ n4_ n5_ n6_;clear hb hbox hg;have hnb52:=NB161_157.out;have hnc52:=NB157_161.out;have hcz53_0:w51.cell? ⟨gb161,0,none⟩=some (.int .i64 0):=(blk_cell BK161.out 0).trans rfl;have hcz53_1:w51.cell? ⟨gb161,1,none⟩=some (.slice none 0 0):=(blk_cell BK161.out 1).trans rfl;have hcz53_2:w51.cell? ⟨gb161,2,none⟩=some (.int .i64 0):=(blk_cell BK161.out 2).trans rfl;have hcz53_3:w51.cell? ⟨gb161,3,none⟩=some (.int .u64 0):=(blk_cell BK161.out 3).trans rfl;have hcz53_4:w51.cell? ⟨gb161,4,none⟩=some (.string ⟨#[]⟩):=(blk_cell BK161.out 4).trans rfl;have hcz53_5:w51.cell? ⟨gb161,5,none⟩=some (.int .u64 0):=(blk_cell BK161.out 5).trans rfl;have hfz53_0:=blk_frozen BK161.out 0;have hfz53_1:=blk_frozen BK161.out 1;have hfz53_2:=blk_frozen BK161.out 2;have hfz53_3:=blk_frozen BK161.out 3;have hfz53_4:=blk_frozen BK161.out 4;have hfz53_5:=blk_frozen BK161.out 5)|((with_reducible refine gate_callee (f:=24) rfl ?_);refine goesL_ (some 71) rfl rfl Tryz.func24 (by kernel_rfl) rfl #[.agg #[.int .i64 ((rd_T28 l0_1 x66_3).f0),.slice A160_1 ((rd_T28 l0_1 x66_3).f1).length c160_1,.int .i64 ((rd_T28 l0_1 x66_3).f2),.int .u64 ((rd_T28 l0_1 x66_3).f3),.string ((rd_T28 l0_1 x66_3).f4),.int .u64 ((rd_T28 l0_1 x66_3).f5)]] rfl (by (try simp only [List.map_toArray,List.map_cons,List.map_nil]);first|done|rfl|(simp only [List.length_drop,List.length_take];rfl)) ?_;(with_reducible refine (ih k3 (by have:=HJ14.out;have:=HJ33.out;have:=HK3.out;omega) ((rd_T28 l0_1 x66_3).f0) _ _ ((rd_T28 l0_1 x66_3).f1) ((rd_T28 l0_1 x66_3).f2) ((rd_T28 l0_1 x66_3).f3) ((rd_T28 l0_1 x66_3).f4) ((rd_T28 l0_1 x66_3).f5) false _ ?side1 ?side2 ?side3 A45.out).mono ?_);(case side1 => exact Kd.C_below HR160_1.out (by repeat (first|(with_reducible first|exact HB.out|apply below_alloc|apply pw_below_drewN|apply below_drew1|refine below_set ?_ GE157.out|refine below_set ?_ GE161.out)|exact HB.out)));(case side2 => exact HC160_1.out);(case side3 => exact LaidAt.of HLD.out (by repeat (first|(with_reducible first|exact HB.out|apply below_alloc|apply pw_below_drewN|apply below_drew1|refine below_set ?_ GE157.out|refine below_set ?_ GE161.out)|exact HB.out)));rintro e w54 ⟨rfl,hb⟩;refine ⟨_,rfl,?_⟩;have n0_:=Aside0.mk (blk_below (g:=gb157) (o:=.cells #[.int .i64 a0_0,.slice (some ad160) l0_1.length c0_1,.int .i64 a0_2,.int .u64 a0_3,.string a0_4,.int .u64 a0_5] 28 (0,0)) (by (with_reducible repeat (first|refine zN ?_|refine zD ?_|refine zA ?_));refine blk_far ?_ NB157_161.out _;(with_reducible repeat (first|refine zN ?_|refine zD ?_|refine zA ?_));refine blk_far ?_ NB157_161.out _;(with_reducible repeat (first|refine zN ?_|refine zD ?_|refine zA ?_));refine blk_far ?_ NB157_161.out _;(with_reducible repeat (first|refine zN ?_|refine zD ?_|refine zA ?_));refine blk_far ?_ NB157_161.out _;(with_reducible repeat (first|refine zN ?_|refine zD ?_|refine zA ?_));refine blk_far ?_ NB157_161.out _;(with_reducible repeat (first|refine zN ?_|refine zD ?_|refine zA ?_));refine blk_far ?_ NB157_161.out _;(with_reducible repeat (first|refine zN ?_|refine zD ?_|refine zA ?_));exact BK157.out) hb);have n1_:=Aside0.mk (blk_below (g:=gb161) (o:=.cells #[.int .i64 ((rd_T28 l0_1 x66_3).f0),.slice A160_1 ((rd_T28 l0_1 x66_3).f1).length c160_1,.int .i64 ((rd_T28 l0_1 x66_3).f2),.int .u64 ((rd_T28 l0_1 x66_3).f3),.string ((rd_T28 l0_1 x66_3).f4),.int .u64 ((rd_T28 l0_1 x66_3).f5)] 28 (0,0)) (by (with_reducible repeat (first|refine zN ?_|refine zD ?_|refine zA ?_));refine blk_put (cs:=#[.int .i64 ((rd_T28 l0_1 x66_3).f0),.slice A160_1 ((rd_T28 l0_1 x66_3).f1).length c160_1,.int .i64 ((rd_T28 l0_1 x66_3).f2),.int .u64 ((rd_T28 l0_1 x66_3).f3),.string ((rd_T28 l0_1 x66_3).f4),.int .u64 0]) ?_ 5 _ rfl;(with_reducible repeat (first|refine zN ?_|refine zD ?_|refine zA ?_));refine blk_put (cs:=#[.int .i64 ((rd_T28 l0_1 x66_3).f0),.slice A160_1 ((rd_T28 l0_1 x66_3).f1).length c160_1,.int .i64 ((rd_T28 l0_1 x66_3).f2),.int .u64 ((rd_T28 l0_1 x66_3).f3),.string ⟨#[]⟩,.int .u64 0]) ?_ 4 _ rfl;(with_reducible repeat (first|refine zN ?_|refine zD ?_|refine zA ?_));refine blk_put (cs:=#[.int .i64 ((rd_T28 l0_1 x66_3).f0),.slice A160_1 ((rd_T28 l0_1 x66_3).f1).length c160_1,.int .i64 ((rd_T28 l0_1 x66_3).f2),.int .u64 0,.string ⟨#[]⟩,.int .u64 0]) ?_ 3 _ rfl;(with_reducible repeat (first|refine zN ?_|refine zD ?_|refine zA ?_));refine blk_put (cs:=#[.int .i64 ((rd_T28 l0_1 x66_3).f0),.slice A160_1 ((rd_T28 l0_1 x66_3).f1).length c160_1,.int .i64 0,.int .u64 0,.string ⟨#[]⟩,.int .u64 0]) ?_ 2 _ rfl;(with_reducible repeat (first|refine zN ?_|refine zD ?_|refine zA ?_));refine blk_put (cs:=#[.int .i64 ((rd_T28 l0_1 x66_3).f0),.slice none 0 0,.int .i64 0,.int .u64 0,.string ⟨#[]⟩,.int .u64 0]) ?_ 1 _ rfl;(with_reducible repeat (first|refine zN ?_|refine zD ?_|refine zA ?_));refine blk_put (cs:=#[.int .i64 0,.slice none 0 0,.int .i64 0,.int .u64 0,.string ⟨#[]⟩,.int .u64 0]) ?_ 0 _ rfl;(with_reducible repeat (first|refine zN ?_|refine zD ?_|refine zA ?_));exact BK161.out) hb);have n2_:=Aside0.mk (below_step (by repeat (first|(with_reducible first|exact HB.out|apply below_alloc|apply pw_below_drewN|apply below_drew1|refine below_set ?_ GE157.out|refine below_set ?_ GE161.out)|exact HB.out)) hb);clear BK157;clear BK161;clear HB;have BK157:=n0_;have BK161:=n1_;have HB:=n2_;clear n0_ n1_ n2_;(try clear hb);(try clear hb2);(try clear hk);(try clear hi)))
              go_ret
              exact ⟨by first|rfl|(simp [errW_none,errW_some]<;>rfl)|(simp [*,errW_none,errW_some]<;>rfl),by repeat (first|(with_reducible first|exact HB.out|apply below_alloc|apply pw_below_drewN|apply below_drew1|refine below_set ?_ GE157.out|refine below_set ?_ GE161.out)|exact HB.out)⟩
            ·rw [if_neg c44] at H
             exact absurd H (by simp)
           ·rw [if_neg c43] at H
            exact absurd H (by simp)
          ·rw [if_neg c42] at H
           have c42b0:decide (x66_3<(l0_1.length:Int))=false:=decide_eq_false c42
           clear c42
           obtain rfl:=Option.some.inj H
           go_wp2
           go_ret
           exact ⟨by first|rfl|(simp [errW_none,errW_some]<;>rfl)|(simp [*,errW_none,errW_some]<;>rfl),by repeat (first|(with_reducible first|exact HB.out|apply below_alloc|apply pw_below_drewN|apply below_drew1|refine below_set ?_ GE157.out)|exact HB.out)⟩

end Go.Proofs.YtdfjjimmnbijmaaGreatDoor.ZQ

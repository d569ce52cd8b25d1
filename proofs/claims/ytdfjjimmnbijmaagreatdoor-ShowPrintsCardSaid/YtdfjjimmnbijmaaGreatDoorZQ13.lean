-- Written for this claim by myprint.py over the kit's print (functions of this session supplied)
import Derived.Test.YtdfjjimmnbijmaaGreatDoorZQ0
import Derived.Test.YtdfjjimmnbijmaaGreatDoorZQ1
import Derived.Test.YtdfjjimmnbijmaaGreatDoorZQ4
import Derived.Test.YtdfjjimmnbijmaaGreatDoorZQ12
namespace Go.Proofs.YtdfjjimmnbijmaaGreatDoor.ZQ
open Go.RowKit Go.Proofs.YtdfjjimmnbijmaaGreatDoorW.PrintWords Go.Proofs.YtdfjjimmnbijmaaGreatDoorW.PrintLast Go.Proofs.YtdfjjimmnbijmaaGreatDoorW.PrintMore Go.Proofs.YtdfjjimmnbijmaaGreatDoor.Base
attribute [local go_sem] max2_int min2_int max_two min_two max_three min_three max_four min_four   -- for this text's walks alone
set_option linter.unusedVariables false
set_option linter.unusedSimpArgs false

/-! ### doorwardref16_Right: function 13 -/
def doorwardref16_Right.f (k:Nat) (a0_0:Int) (l0_1:List (S28)) (a0_2:Int) (a0_3:Int) (a0_4:ByteArray) (a0_5:Int):Option (Bool):=(doorwardref15_Many.f a0_0 l0_1 a0_2 a0_3 a0_4 a0_5 100).bind fun t164 => (if t164≤100 then ((doorwardref16_fits.f k a0_0 l0_1 a0_2 a0_3 a0_4 a0_5).bind fun t165 => (some t165)) else (some false))
theorem doorwardref16_Right.mono:∀ a0 a1 a2 a3 a4 a5 k,LeO (doorwardref16_Right.f k a0 a1 a2 a3 a4 a5) (doorwardref16_Right.f (k+1) a0 a1 a2 a3 a4 a5):=by
 intro a0 a1 a2 a3 a4 a5 k
 unfold doorwardref16_Right.f
 repeat' first
   |  (with_reducible exact doorwardref16_fits.mono _ _ _ _ _ _ _)
   |  (with_reducible exact LeO.refl _)
   |  (with_reducible exact LeO.none _)
   |  (with_reducible refine LeO.ite ?_ ?_)
   |  (with_reducible refine LeO.bind ?_ (fun _ => ?_))
   |  exact doorwardref16_fits.mono _ _ _ _ _ _ _
   |  exact LeO.none _
   |  refine LeO.ite ?_ ?_
   |  refine LeO.bind ?_ (fun _ => ?_)
set_option maxHeartbeats 8000000 in
set_option maxRecDepth 100000 in
theorem doorwardref16_Right.calls (k:Nat) (a0_0:Int) (A0_1:Option Addr) (c0_1:Nat) (l0_1:List (S28)) (a0_2:Int) (a0_3:Int) (a0_4:ByteArray) (a0_5:Int) (r:Bool) (w:World) (hr0_1:Kd.C k28 w A0_1 l0_1.length l0_1) (hc0_1:l0_1.length≤c0_1) (hLd:LaidAt w) (h:doorwardref16_Right.f k a0_0 l0_1 a0_2 a0_3 a0_4 a0_5=some r) :
  Calls Tryz.prog 13 #[.agg #[.int .i64 a0_0,.slice A0_1 l0_1.length c0_1,.int .i64 a0_2,.int .u64 a0_3,.string a0_4,.int .u64 a0_5]] w fun e w' => e=.returned (.bool r)∧Below w.heap.size w w':=by
 have hu28:=Tryz.underlying28
 have HLD:=Aside0.mk hLd
 clear hLd
 have HR0_1:=Aside0.mk hr0_1
 have HC0_1:=Aside0.mk hc0_1
 clear hr0_1 hc0_1
 have HB:=Aside0.mk (Below.refl w.heap.size w)
 have H:((doorwardref15_Many.f a0_0 l0_1 a0_2 a0_3 a0_4 a0_5 100).bind fun t164 => (if t164≤100 then ((doorwardref16_fits.f k a0_0 l0_1 a0_2 a0_3 a0_4 a0_5).bind fun t165 => (some t165)) else (some false)))=some r:=h
 clear h
 replace H:=Option.bind_eq_some_iff.mp H
 obtain ⟨t164,A20,H⟩:=H
 replace H:(if t164≤100 then ((doorwardref16_fits.f k a0_0 l0_1 a0_2 a0_3 a0_4 a0_5).bind fun t165 => (some t165)) else (some false))=some r:=H
 have A2:=Aside0.mk A20
 clear A20
 by_cases c3:t164≤100
 ·rw [if_pos c3] at H
  have c3b0:decide (t164≤100)=true:=decide_eq_true c3
  clear c3
  replace H:=Option.bind_eq_some_iff.mp H
  obtain ⟨t165,A40,H⟩:=H
  replace H:(some t165)=some r:=H
  have A4:=Aside0.mk A40
  clear A40
  obtain rfl:=Option.some.inj H
  go_enter Tryz.func13,Tryz.ntmps13
  go_wp2_with (first|((with_reducible refine gate_dst (N:=1) rfl ?_);refine box_event ?hg (N:=1) ?hd (cs:=#[.int .i64 a0_0,.slice A0_1 l0_1.length c0_1,.int .i64 a0_2,.int .u64 a0_3,.string a0_4,.int .u64 a0_5]) (t:=28) ?hr ?_;(case hd => rfl);(case hg => rfl);(case hr => first|(go_simp;done)|(go_simp;rfl));intro gb163 hg w5 hbox hb;have n0_:=Aside0.mk (below_step (by repeat (with_reducible first|exact HB.out|apply below_alloc|apply pw_below_drewN|apply below_drew1)) hb);have n1_:=Aside0.mk (hbox);have n2_:=Aside0.mk ((by rw [hg];exact (below_size (by repeat (with_reducible first|exact HB.out|apply below_alloc|apply pw_below_drewN|apply below_drew1))):w.heap.size≤gb163));have n3_:=Aside0.mk ((by rw [hg];exact (below_size (by repeat (with_reducible first|exact HB.out|apply below_alloc|apply pw_below_drewN|apply below_drew1))):w.heap.size≤gb163));clear HB;have HB:=n0_;have BK163:=n1_;have GW163:=n2_;have GE163:=n3_;clear n0_ n1_ n2_ n3_;clear hb hbox hg;have hcz6_0:w5.cell? ⟨gb163,0,none⟩=some (.int .i64 a0_0):=(blk_cell BK163.out 0).trans rfl;have hcz6_1:w5.cell? ⟨gb163,1,none⟩=some (.slice A0_1 l0_1.length c0_1):=(blk_cell BK163.out 1).trans rfl;have hcz6_2:w5.cell? ⟨gb163,2,none⟩=some (.int .i64 a0_2):=(blk_cell BK163.out 2).trans rfl;have hcz6_3:w5.cell? ⟨gb163,3,none⟩=some (.int .u64 a0_3):=(blk_cell BK163.out 3).trans rfl;have hcz6_4:w5.cell? ⟨gb163,4,none⟩=some (.string a0_4):=(blk_cell BK163.out 4).trans rfl;have hcz6_5:w5.cell? ⟨gb163,5,none⟩=some (.int .u64 a0_5):=(blk_cell BK163.out 5).trans rfl;have hfz6_0:=blk_frozen BK163.out 0;have hfz6_1:=blk_frozen BK163.out 1;have hfz6_2:=blk_frozen BK163.out 2;have hfz6_3:=blk_frozen BK163.out 3;have hfz6_4:=blk_frozen BK163.out 4;have hfz6_5:=blk_frozen BK163.out 5)|((with_reducible refine gate_callee (f:=7) rfl ?_);refine goesL_ (some 4) rfl rfl Tryz.func7 (by kernel_rfl) rfl #[.agg #[.int .i64 a0_0,.slice A0_1 l0_1.length c0_1,.int .i64 a0_2,.int .u64 a0_3,.string a0_4,.int .u64 a0_5],.int .i64 100] rfl (by (try simp only [List.map_toArray,List.map_cons,List.map_nil]);first|done|rfl|(simp only [List.length_drop,List.length_take];rfl)) ?_;(with_reducible refine (doorwardref15_Many.calls a0_0 _ _ l0_1 a0_2 a0_3 a0_4 a0_5 100 t164 _ ?side1 ?side2 ?side3 A2.out).mono ?_);(case side1 => repeat (first|exact (Kd.C_below HR0_1.out HB.out)|(with_reducible refine Kd.C_alloc ?_ _)|(with_reducible refine Kd.C_drewN ?_ _)|(with_reducible refine Kd.C_drew ?_)));(case side2 => exact HC0_1.out);(case side3 => exact LaidAt.of HLD.out (by repeat (first|(with_reducible first|exact HB.out|apply below_alloc|apply pw_below_drewN|apply below_drew1|refine below_set ?_ GE163.out)|exact HB.out)));rintro e w7 ⟨rfl,hb⟩;refine ⟨_,rfl,?_⟩;have n0_:=Aside0.mk (blk_below (g:=gb163) (o:=.cells #[.int .i64 a0_0,.slice A0_1 l0_1.length c0_1,.int .i64 a0_2,.int .u64 a0_3,.string a0_4,.int .u64 a0_5] 28 (0,0)) (by (with_reducible repeat (first|refine zN ?_|refine zD ?_|refine zA ?_));exact BK163.out) hb);have n1_:=Aside0.mk (below_step (by repeat (first|(with_reducible first|exact HB.out|apply below_alloc|apply pw_below_drewN|apply below_drew1|refine below_set ?_ GE163.out)|exact HB.out)) hb);clear BK163;clear HB;have BK163:=n0_;have HB:=n1_;clear n0_ n1_;(try clear hb);(try clear hb2);(try clear hk);(try clear hi);have hcz8_0:w7.cell? ⟨gb163,0,none⟩=some (.int .i64 a0_0):=(blk_cell BK163.out 0).trans rfl;have hcz8_1:w7.cell? ⟨gb163,1,none⟩=some (.slice A0_1 l0_1.length c0_1):=(blk_cell BK163.out 1).trans rfl;have hcz8_2:w7.cell? ⟨gb163,2,none⟩=some (.int .i64 a0_2):=(blk_cell BK163.out 2).trans rfl;have hcz8_3:w7.cell? ⟨gb163,3,none⟩=some (.int .u64 a0_3):=(blk_cell BK163.out 3).trans rfl;have hcz8_4:w7.cell? ⟨gb163,4,none⟩=some (.string a0_4):=(blk_cell BK163.out 4).trans rfl;have hcz8_5:w7.cell? ⟨gb163,5,none⟩=some (.int .u64 a0_5):=(blk_cell BK163.out 5).trans rfl;have hfz8_0:=blk_frozen BK163.out 0;have hfz8_1:=blk_frozen BK163.out 1;have hfz8_2:=blk_frozen BK163.out 2;have hfz8_3:=blk_frozen BK163.out 3;have hfz8_4:=blk_frozen BK163.out 4;have hfz8_5:=blk_frozen BK163.out 5)|(go_at_call 24;(with_reducible refine (doorwardref16_fits.calls k a0_0 _ _ l0_1 a0_2 a0_3 a0_4 a0_5 t165 _ ?side1 ?side2 ?side3 A4.out).mono ?_);(case side1 => repeat (first|exact (Kd.C_below HR0_1.out HB.out)|(with_reducible refine Kd.C_alloc ?_ _)|(with_reducible refine Kd.C_drewN ?_ _)|(with_reducible refine Kd.C_drew ?_)));(case side2 => exact HC0_1.out);(case side3 => exact LaidAt.of HLD.out (by repeat (first|(with_reducible first|exact HB.out|apply below_alloc|apply pw_below_drewN|apply below_drew1|refine below_set ?_ GE163.out)|exact HB.out)));rintro e w9 ⟨rfl,hb⟩;have n0_:=Aside0.mk (blk_below (g:=gb163) (o:=.cells #[.int .i64 a0_0,.slice A0_1 l0_1.length c0_1,.int .i64 a0_2,.int .u64 a0_3,.string a0_4,.int .u64 a0_5] 28 (0,0)) (by (with_reducible repeat (first|refine zN ?_|refine zD ?_|refine zA ?_));exact BK163.out) hb);have n1_:=Aside0.mk (below_step (by repeat (first|(with_reducible first|exact HB.out|apply below_alloc|apply pw_below_drewN|apply below_drew1|refine below_set ?_ GE163.out)|exact HB.out)) hb);clear BK163;clear HB;have BK163:=n0_;have HB:=n1_;clear n0_ n1_;(try clear hb);(try clear hb2);(try clear hk);(try clear hi)))
  go_ret
  exact ⟨by first|rfl|(simp [errW_none,errW_some]<;>rfl)|(simp [*,errW_none,errW_some]<;>rfl),by repeat (first|(with_reducible first|exact HB.out|apply below_alloc|apply pw_below_drewN|apply below_drew1|refine below_set ?_ GE163.out)|exact HB.out)⟩
 ·rw [if_neg c3] at H
  have c3b0:decide (t164≤100)=false:=decide_eq_false c3
  clear c3
  obtain rfl:=Option.some.inj H
  go_enter Tryz.func13,Tryz.ntmps13
  go_wp2_with (first|((with_reducible refine gate_dst (N:=1) rfl ?_);refine box_event ?hg (N:=1) ?hd (cs:=#[.int .i64 a0_0,.slice A0_1 l0_1.length c0_1,.int .i64 a0_2,.int .u64 a0_3,.string a0_4,.int .u64 a0_5]) (t:=28) ?hr ?_;(case hd => rfl);(case hg => rfl);(case hr => first|(go_simp;done)|(go_simp;rfl));intro gb163 hg w10 hbox hb;have n0_:=Aside0.mk (below_step (by repeat (with_reducible first|exact HB.out|apply below_alloc|apply pw_below_drewN|apply below_drew1)) hb);have n1_:=Aside0.mk (hbox);have n2_:=Aside0.mk ((by rw [hg];exact (below_size (by repeat (with_reducible first|exact HB.out|apply below_alloc|apply pw_below_drewN|apply below_drew1))):w.heap.size≤gb163));have n3_:=Aside0.mk ((by rw [hg];exact (below_size (by repeat (with_reducible first|exact HB.out|apply below_alloc|apply pw_below_drewN|apply below_drew1))):w.heap.size≤gb163));clear HB;have HB:=n0_;have BK163:=n1_;have GW163:=n2_;have GE163:=n3_;clear n0_ n1_ n2_ n3_;clear hb hbox hg;have hcz11_0:w10.cell? ⟨gb163,0,none⟩=some (.int .i64 a0_0):=(blk_cell BK163.out 0).trans rfl;have hcz11_1:w10.cell? ⟨gb163,1,none⟩=some (.slice A0_1 l0_1.length c0_1):=(blk_cell BK163.out 1).trans rfl;have hcz11_2:w10.cell? ⟨gb163,2,none⟩=some (.int .i64 a0_2):=(blk_cell BK163.out 2).trans rfl;have hcz11_3:w10.cell? ⟨gb163,3,none⟩=some (.int .u64 a0_3):=(blk_cell BK163.out 3).trans rfl;have hcz11_4:w10.cell? ⟨gb163,4,none⟩=some (.string a0_4):=(blk_cell BK163.out 4).trans rfl;have hcz11_5:w10.cell? ⟨gb163,5,none⟩=some (.int .u64 a0_5):=(blk_cell BK163.out 5).trans rfl;have hfz11_0:=blk_frozen BK163.out 0;have hfz11_1:=blk_frozen BK163.out 1;have hfz11_2:=blk_frozen BK163.out 2;have hfz11_3:=blk_frozen BK163.out 3;have hfz11_4:=blk_frozen BK163.out 4;have hfz11_5:=blk_frozen BK163.out 5)|((with_reducible refine gate_callee (f:=7) rfl ?_);refine goesL_ (some 4) rfl rfl Tryz.func7 (by kernel_rfl) rfl #[.agg #[.int .i64 a0_0,.slice A0_1 l0_1.length c0_1,.int .i64 a0_2,.int .u64 a0_3,.string a0_4,.int .u64 a0_5],.int .i64 100] rfl (by (try simp only [List.map_toArray,List.map_cons,List.map_nil]);first|done|rfl|(simp only [List.length_drop,List.length_take];rfl)) ?_;(with_reducible refine (doorwardref15_Many.calls a0_0 _ _ l0_1 a0_2 a0_3 a0_4 a0_5 100 t164 _ ?side1 ?side2 ?side3 A2.out).mono ?_);(case side1 => repeat (first|exact (Kd.C_below HR0_1.out HB.out)|(with_reducible refine Kd.C_alloc ?_ _)|(with_reducible refine Kd.C_drewN ?_ _)|(with_reducible refine Kd.C_drew ?_)));(case side2 => exact HC0_1.out);(case side3 => exact LaidAt.of HLD.out (by repeat (first|(with_reducible first|exact HB.out|apply below_alloc|apply pw_below_drewN|apply below_drew1|refine below_set ?_ GE163.out)|exact HB.out)));rintro e w12 ⟨rfl,hb⟩;refine ⟨_,rfl,?_⟩;have n0_:=Aside0.mk (blk_below (g:=gb163) (o:=.cells #[.int .i64 a0_0,.slice A0_1 l0_1.length c0_1,.int .i64 a0_2,.int .u64 a0_3,.string a0_4,.int .u64 a0_5] 28 (0,0)) (by (with_reducible repeat (first|refine zN ?_|refine zD ?_|refine zA ?_));exact BK163.out) hb);have n1_:=Aside0.mk (below_step (by repeat (first|(with_reducible first|exact HB.out|apply below_alloc|apply pw_below_drewN|apply below_drew1|refine below_set ?_ GE163.out)|exact HB.out)) hb);clear BK163;clear HB;have BK163:=n0_;have HB:=n1_;clear n0_ n1_;(try clear hb);(try clear hb2);(try clear hk);(try clear hi)))
  go_ret
  exact ⟨by first|rfl|(simp [errW_none,errW_some]<;>rfl)|(simp [*,errW_none,errW_some]<;>rfl),by repeat (first|(with_reducible first|exact HB.out|apply below_alloc|apply pw_below_drewN|apply below_drew1|refine below_set ?_ GE163.out)|exact HB.out)⟩

/-! ### doorwardref17_number: function 26 -/
def doorwardref17_number.f (a0:Int):Option (ByteArray):=(strconv_FormatUint.f a0 10).bind fun t166 => (some t166)
set_option maxHeartbeats 8000000 in
set_option maxRecDepth 100000 in
theorem doorwardref17_number.calls (a0:Int) (r:ByteArray) (w:World) (hLd:LaidAt w) (h:doorwardref17_number.f a0=some r) :
  Calls Tryz.prog 26 #[.int .u64 a0] w fun e w' => e=.returned (.string r)∧Below w.heap.size w w':=by
 have HLD:=Aside0.mk hLd
 clear hLd
 have HB:=Aside0.mk (Below.refl w.heap.size w)
 have H:((strconv_FormatUint.f a0 10).bind fun t166 => (some t166))=some r:=h
 clear h
 replace H:=Option.bind_eq_some_iff.mp H
 obtain ⟨t166,A20,H⟩:=H
 replace H:(some t166)=some r:=H
 have A2:=Aside0.mk A20
 clear A20
 obtain rfl:=Option.some.inj H
 go_enter Tryz.func26,Tryz.ntmps26
 go_wp2_with (first|((with_reducible refine gate_callee (f:=44) rfl ?_);refine goesL_ (some 4) rfl rfl Tryz.func44 (by kernel_rfl) rfl #[.int .u64 a0,.int .i64 10] rfl (by (try simp only [List.map_toArray,List.map_cons,List.map_nil]);first|done|rfl|(simp only [List.length_drop,List.length_take];rfl)) ?_;(with_reducible refine (strconv_FormatUint.calls a0 10 t166 _ ?side1 A2.out).mono ?_);(case side1 => exact LaidAt.of HLD.out (by repeat (with_reducible first|exact HB.out|apply below_alloc|apply pw_below_drewN|apply below_drew1)));rintro e w3 ⟨rfl,hb⟩;refine ⟨_,rfl,?_⟩;have n0_:=Aside0.mk (below_step (by repeat (with_reducible first|exact HB.out|apply below_alloc|apply pw_below_drewN|apply below_drew1)) hb);clear HB;have HB:=n0_;clear n0_;(try clear hb);(try clear hb2);(try clear hk);(try clear hi)))
 go_ret
 exact ⟨by first|rfl|(simp [errW_none,errW_some]<;>rfl)|(simp [*,errW_none,errW_some]<;>rfl),by repeat (with_reducible first|exact HB.out|apply below_alloc|apply pw_below_drewN|apply below_drew1)⟩

/-! ### doorwardref17_closed: function 27 -/
def doorwardref17_closed.f (a0:Int) (a1_0:Int) (l1_1:List (S28)) (a1_2:Int) (a1_3:Int) (a1_4:ByteArray) (a1_5:Int):Option (Bool):=if a1_0=2 then (some true) else (if a1_0=1 then (some (a0 != 2)) else (some false))
set_option maxHeartbeats 8000000 in
set_option maxRecDepth 100000 in
theorem doorwardref17_closed.calls (a0:Int) (a1_0:Int) (A1_1:Option Addr) (c1_1:Nat) (l1_1:List (S28)) (a1_2:Int) (a1_3:Int) (a1_4:ByteArray) (a1_5:Int) (r:Bool) (w:World) (hr1_1:Kd.C k28 w A1_1 l1_1.length l1_1) (hc1_1:l1_1.length≤c1_1) (hLd:LaidAt w) (h:doorwardref17_closed.f a0 a1_0 l1_1 a1_2 a1_3 a1_4 a1_5=some r) :
  Calls Tryz.prog 27 #[.int .i64 a0,.agg #[.int .i64 a1_0,.slice A1_1 l1_1.length c1_1,.int .i64 a1_2,.int .u64 a1_3,.string a1_4,.int .u64 a1_5]] w fun e w' => e=.returned (.bool r)∧Below w.heap.size w w':=by
 have hu28:=Tryz.underlying28
 have HLD:=Aside0.mk hLd
 clear hLd
 have HR1_1:=Aside0.mk hr1_1
 have HC1_1:=Aside0.mk hc1_1
 clear hr1_1 hc1_1
 have HB:=Aside0.mk (Below.refl w.heap.size w)
 have H:(if a1_0=2 then (some true) else (if a1_0=1 then (some (a0 != 2)) else (some false)))=some r:=h
 clear h
 by_cases c3:a1_0=2
 ·rw [if_pos c3] at H
  have c3b0:(a1_0==2)=true:=beq_iff_eq.mpr c3
  have c3b1:(a1_0 != 2)=false:=bne_eq_false_iff_eq.mpr c3
  clear c3
  obtain rfl:=Option.some.inj H
  go_enter Tryz.func27,Tryz.ntmps27
  go_wp2_with (first|((with_reducible refine gate_dst (N:=3) rfl ?_);refine box_event ?hg (N:=3) ?hd (cs:=#[.int .i64 a1_0,.slice A1_1 l1_1.length c1_1,.int .i64 a1_2,.int .u64 a1_3,.string a1_4,.int .u64 a1_5]) (t:=28) ?hr ?_;(case hd => rfl);(case hg => rfl);(case hr => first|(go_simp;done)|(go_simp;rfl));intro gb167 hg w4 hbox hb;have n0_:=Aside0.mk (below_step (by repeat (with_reducible first|exact HB.out|apply below_alloc|apply pw_below_drewN|apply below_drew1)) hb);have n1_:=Aside0.mk (hbox);have n2_:=Aside0.mk ((by rw [hg];exact (below_size (by repeat (with_reducible first|exact HB.out|apply below_alloc|apply pw_below_drewN|apply below_drew1))):w.heap.size≤gb167));have n3_:=Aside0.mk ((by rw [hg];exact (below_size (by repeat (with_reducible first|exact HB.out|apply below_alloc|apply pw_below_drewN|apply below_drew1))):w.heap.size≤gb167));clear HB;have HB:=n0_;have BK167:=n1_;have GW167:=n2_;have GE167:=n3_;clear n0_ n1_ n2_ n3_;clear hb hbox hg;have hcz5_0:w4.cell? ⟨gb167,0,none⟩=some (.int .i64 a1_0):=(blk_cell BK167.out 0).trans rfl;have hcz5_1:w4.cell? ⟨gb167,1,none⟩=some (.slice A1_1 l1_1.length c1_1):=(blk_cell BK167.out 1).trans rfl;have hcz5_2:w4.cell? ⟨gb167,2,none⟩=some (.int .i64 a1_2):=(blk_cell BK167.out 2).trans rfl;have hcz5_3:w4.cell? ⟨gb167,3,none⟩=some (.int .u64 a1_3):=(blk_cell BK167.out 3).trans rfl;have hcz5_4:w4.cell? ⟨gb167,4,none⟩=some (.string a1_4):=(blk_cell BK167.out 4).trans rfl;have hcz5_5:w4.cell? ⟨gb167,5,none⟩=some (.int .u64 a1_5):=(blk_cell BK167.out 5).trans rfl;have hfz5_0:=blk_frozen BK167.out 0;have hfz5_1:=blk_frozen BK167.out 1;have hfz5_2:=blk_frozen BK167.out 2;have hfz5_3:=blk_frozen BK167.out 3;have hfz5_4:=blk_frozen BK167.out 4;have hfz5_5:=blk_frozen BK167.out 5))
  go_ret
  exact ⟨by first|rfl|(simp [errW_none,errW_some]<;>rfl)|(simp [*,errW_none,errW_some]<;>rfl),by repeat (first|(with_reducible first|exact HB.out|apply below_alloc|apply pw_below_drewN|apply below_drew1|refine below_set ?_ GE167.out)|exact HB.out)⟩
 ·rw [if_neg c3] at H
  have c3b0:(a1_0==2)=false:=beq_eq_false_iff_ne.mpr c3
  have c3b1:(a1_0 != 2)=true:=bne_iff_ne.mpr c3
  by_cases c6:a1_0=1
  ·rw [if_pos c6] at H
   have c6b0:(a1_0==1)=true:=beq_iff_eq.mpr c6
   have c6b1:(a1_0 != 1)=false:=bne_eq_false_iff_eq.mpr c6
   clear c6
   obtain rfl:=Option.some.inj H
   go_enter Tryz.func27,Tryz.ntmps27
   go_wp2_with (first|((with_reducible refine gate_dst (N:=3) rfl ?_);refine box_event ?hg (N:=3) ?hd (cs:=#[.int .i64 a1_0,.slice A1_1 l1_1.length c1_1,.int .i64 a1_2,.int .u64 a1_3,.string a1_4,.int .u64 a1_5]) (t:=28) ?hr ?_;(case hd => rfl);(case hg => rfl);(case hr => first|(go_simp;done)|(go_simp;rfl));intro gb167 hg w7 hbox hb;have n0_:=Aside0.mk (below_step (by repeat (with_reducible first|exact HB.out|apply below_alloc|apply pw_below_drewN|apply below_drew1)) hb);have n1_:=Aside0.mk (hbox);have n2_:=Aside0.mk ((by rw [hg];exact (below_size (by repeat (with_reducible first|exact HB.out|apply below_alloc|apply pw_below_drewN|apply below_drew1))):w.heap.size≤gb167));have n3_:=Aside0.mk ((by rw [hg];exact (below_size (by repeat (with_reducible first|exact HB.out|apply below_alloc|apply pw_below_drewN|apply below_drew1))):w.heap.size≤gb167));clear HB;have HB:=n0_;have BK167:=n1_;have GW167:=n2_;have GE167:=n3_;clear n0_ n1_ n2_ n3_;clear hb hbox hg;have hcz8_0:w7.cell? ⟨gb167,0,none⟩=some (.int .i64 a1_0):=(blk_cell BK167.out 0).trans rfl;have hcz8_1:w7.cell? ⟨gb167,1,none⟩=some (.slice A1_1 l1_1.length c1_1):=(blk_cell BK167.out 1).trans rfl;have hcz8_2:w7.cell? ⟨gb167,2,none⟩=some (.int .i64 a1_2):=(blk_cell BK167.out 2).trans rfl;have hcz8_3:w7.cell? ⟨gb167,3,none⟩=some (.int .u64 a1_3):=(blk_cell BK167.out 3).trans rfl;have hcz8_4:w7.cell? ⟨gb167,4,none⟩=some (.string a1_4):=(blk_cell BK167.out 4).trans rfl;have hcz8_5:w7.cell? ⟨gb167,5,none⟩=some (.int .u64 a1_5):=(blk_cell BK167.out 5).trans rfl;have hfz8_0:=blk_frozen BK167.out 0;have hfz8_1:=blk_frozen BK167.out 1;have hfz8_2:=blk_frozen BK167.out 2;have hfz8_3:=blk_frozen BK167.out 3;have hfz8_4:=blk_frozen BK167.out 4;have hfz8_5:=blk_frozen BK167.out 5))
   go_ret
   exact ⟨by first|rfl|(simp [errW_none,errW_some]<;>rfl)|(simp [*,errW_none,errW_some]<;>rfl),by repeat (first|(with_reducible first|exact HB.out|apply below_alloc|apply pw_below_drewN|apply below_drew1|refine below_set ?_ GE167.out)|exact HB.out)⟩
  ·rw [if_neg c6] at H
   have c6b0:(a1_0==1)=false:=beq_eq_false_iff_ne.mpr c6
   have c6b1:(a1_0 != 1)=true:=bne_iff_ne.mpr c6
   obtain rfl:=Option.some.inj H
   go_enter Tryz.func27,Tryz.ntmps27
   go_wp2_with (first|((with_reducible refine gate_dst (N:=3) rfl ?_);refine box_event ?hg (N:=3) ?hd (cs:=#[.int .i64 a1_0,.slice A1_1 l1_1.length c1_1,.int .i64 a1_2,.int .u64 a1_3,.string a1_4,.int .u64 a1_5]) (t:=28) ?hr ?_;(case hd => rfl);(case hg => rfl);(case hr => first|(go_simp;done)|(go_simp;rfl));intro gb167 hg w9 hbox hb;have n0_:=Aside0.mk (below_step (by repeat (with_reducible first|exact HB.out|apply below_alloc|apply pw_below_drewN|apply below_drew1)) hb);have n1_:=Aside0.mk (hbox);have n2_:=Aside0.mk ((by rw [hg];exact (below_size (by repeat (with_reducible first|exact HB.out|apply below_alloc|apply pw_below_drewN|apply below_drew1))):w.heap.size≤gb167));have n3_:=Aside0.mk ((by rw [hg];exact (below_size (by repeat (with_reducible first|exact HB.out|apply below_alloc|apply pw_below_drewN|apply below_drew1))):w.heap.size≤gb167));clear HB;have HB:=n0_;have BK167:=n1_;have GW167:=n2_;have GE167:=n3_;clear n0_ n1_ n2_ n3_;clear hb hbox hg;have hcz10_0:w9.cell? ⟨gb167,0,none⟩=some (.int .i64 a1_0):=(blk_cell BK167.out 0).trans rfl;have hcz10_1:w9.cell? ⟨gb167,1,none⟩=some (.slice A1_1 l1_1.length c1_1):=(blk_cell BK167.out 1).trans rfl;have hcz10_2:w9.cell? ⟨gb167,2,none⟩=some (.int .i64 a1_2):=(blk_cell BK167.out 2).trans rfl;have hcz10_3:w9.cell? ⟨gb167,3,none⟩=some (.int .u64 a1_3):=(blk_cell BK167.out 3).trans rfl;have hcz10_4:w9.cell? ⟨gb167,4,none⟩=some (.string a1_4):=(blk_cell BK167.out 4).trans rfl;have hcz10_5:w9.cell? ⟨gb167,5,none⟩=some (.int .u64 a1_5):=(blk_cell BK167.out 5).trans rfl;have hfz10_0:=blk_frozen BK167.out 0;have hfz10_1:=blk_frozen BK167.out 1;have hfz10_2:=blk_frozen BK167.out 2;have hfz10_3:=blk_frozen BK167.out 3;have hfz10_4:=blk_frozen BK167.out 4;have hfz10_5:=blk_frozen BK167.out 5))
   go_ret
   exact ⟨by first|rfl|(simp [errW_none,errW_some]<;>rfl)|(simp [*,errW_none,errW_some]<;>rfl),by repeat (first|(with_reducible first|exact HB.out|apply below_alloc|apply pw_below_drewN|apply below_drew1|refine below_set ?_ GE167.out)|exact HB.out)⟩

end Go.Proofs.YtdfjjimmnbijmaaGreatDoor.ZQ

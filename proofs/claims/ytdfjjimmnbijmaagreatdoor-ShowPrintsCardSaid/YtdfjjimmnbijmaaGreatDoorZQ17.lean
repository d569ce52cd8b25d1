-- Written for this claim by myprint.py over the kit's print (functions of this session supplied)
import Derived.Test.YtdfjjimmnbijmaaGreatDoorZQ0
import Derived.Test.YtdfjjimmnbijmaaGreatDoorZQ3
import Derived.Test.YtdfjjimmnbijmaaGreatDoorZQ11
import Derived.Test.YtdfjjimmnbijmaaGreatDoorZQ13
namespace Go.Proofs.YtdfjjimmnbijmaaGreatDoor.ZQ
open Go.RowKit Go.Proofs.YtdfjjimmnbijmaaGreatDoorW.PrintWords Go.Proofs.YtdfjjimmnbijmaaGreatDoorW.PrintLast Go.Proofs.YtdfjjimmnbijmaaGreatDoorW.PrintMore Go.Proofs.YtdfjjimmnbijmaaGreatDoor.Base
attribute [local go_sem] max2_int min2_int max_two min_two max_three min_three max_four min_four   -- for this text's walks alone
set_option linter.unusedVariables false
set_option linter.unusedSimpArgs false

/-! ### doorwardref17_action: function 19 -/
def doorwardref17_action.f (a0:ByteArray) (a1:Int):Option (ByteArray):=if a1>0 then (if a0.size+1≤9223372036854775807 then ((doorwardref17_number.f a1).bind fun t182 => (if (a0++(⟨#[32]⟩:ByteArray)).size+t182.size≤9223372036854775807 then (some ((a0++(⟨#[32]⟩:ByteArray))++t182)) else (none))) else (none)) else (some a0)
set_option maxHeartbeats 8000000 in
set_option maxRecDepth 100000 in
theorem doorwardref17_action.calls (a0:ByteArray) (a1:Int) (r:ByteArray) (w:World) (hLd:LaidAt w) (h:doorwardref17_action.f a0 a1=some r) :
  Calls Tryz.prog 19 #[.string a0,.int .u64 a1] w fun e w' => e=.returned (.string r)∧Below w.heap.size w w':=by
 have HLD:=Aside0.mk hLd
 clear hLd
 have HB:=Aside0.mk (Below.refl w.heap.size w)
 have H:(if a1>0 then (if a0.size+1≤9223372036854775807 then ((doorwardref17_number.f a1).bind fun t182 => (if (a0++(⟨#[32]⟩:ByteArray)).size+t182.size≤9223372036854775807 then (some ((a0++(⟨#[32]⟩:ByteArray))++t182)) else (none))) else (none)) else (some a0))=some r:=h
 clear h
 by_cases c3:a1>0
 ·rw [if_pos c3] at H
  have c3b0:decide (0<a1)=true:=decide_eq_true c3
  clear c3
  by_cases c4:a0.size+1≤9223372036854775807
  ·rw [if_pos c4] at H
   have c4b0:=eq_true c4
   have c4b1:decide (a0.size+1≤9223372036854775807)=true:=decide_eq_true c4
   try have c4b2:(9223372036854775807<a0.size+1)=False:=eq_false (Nat.not_lt.2 c4)
   replace H:=Option.bind_eq_some_iff.mp H
   obtain ⟨t182,A50,H⟩:=H
   replace H:(if (a0++(⟨#[32]⟩:ByteArray)).size+t182.size≤9223372036854775807 then (some ((a0++(⟨#[32]⟩:ByteArray))++t182)) else (none))=some r:=H
   have A5:=Aside0.mk A50
   clear A50
   by_cases c6:(a0++(⟨#[32]⟩:ByteArray)).size+t182.size≤9223372036854775807
   ·rw [if_pos c6] at H
    have c6b0:=eq_true c6
    have c6b1:decide ((a0++(⟨#[32]⟩:ByteArray)).size+t182.size≤9223372036854775807)=true:=decide_eq_true c6
    try have c6b2:(9223372036854775807<(a0++(⟨#[32]⟩:ByteArray)).size+t182.size)=False:=eq_false (Nat.not_lt.2 c6)
    try have c6b3:(9223372036854775807<a0.size+1+t182.size)=False:=eq_false (by have h_:=c6;simp only [ByteArray.size_append] at h_;have e0_:(⟨#[32]⟩:ByteArray).size=1:=rfl;omega)
    obtain rfl:=Option.some.inj H
    go_enter Tryz.func19,Tryz.ntmps19
    go_wp2_with (first|((with_reducible refine gate_callee (f:=26) rfl ?_);refine goesL_ (some 10) rfl rfl Tryz.func26 (by kernel_rfl) rfl #[.int .u64 a1] rfl (by (try simp only [List.map_toArray,List.map_cons,List.map_nil]);first|done|rfl|(simp only [List.length_drop,List.length_take];rfl)) ?_;(with_reducible refine (doorwardref17_number.calls a1 t182 _ ?side1 A5.out).mono ?_);(case side1 => exact LaidAt.of HLD.out (by repeat (with_reducible first|exact HB.out|apply below_alloc|apply pw_below_drewN|apply below_drew1)));rintro e w7 ⟨rfl,hb⟩;refine ⟨_,rfl,?_⟩;have n0_:=Aside0.mk (below_step (by repeat (with_reducible first|exact HB.out|apply below_alloc|apply pw_below_drewN|apply below_drew1)) hb);clear HB;have HB:=n0_;clear n0_;(try clear hb);(try clear hb2);(try clear hk);(try clear hi)))
    go_ret
    exact ⟨by first|rfl|(simp [errW_none,errW_some]<;>rfl)|(simp [*,errW_none,errW_some]<;>rfl),by repeat (with_reducible first|exact HB.out|apply below_alloc|apply pw_below_drewN|apply below_drew1)⟩
   ·rw [if_neg c6] at H
    exact absurd H (by simp)
  ·rw [if_neg c4] at H
   exact absurd H (by simp)
 ·rw [if_neg c3] at H
  have c3b0:decide (0<a1)=false:=decide_eq_false c3
  clear c3
  obtain rfl:=Option.some.inj H
  go_enter Tryz.func19,Tryz.ntmps19
  go_wp2
  go_ret
  exact ⟨by first|rfl|(simp [errW_none,errW_some]<;>rfl)|(simp [*,errW_none,errW_some]<;>rfl),by repeat (with_reducible first|exact HB.out|apply below_alloc|apply pw_below_drewN|apply below_drew1)⟩

/-! ### doorwardref16_None: function 20 -/
def doorwardref16_None.f (a0_0:Int) (l0_1:List (S28)) (a0_2:Int) (a0_3:Int) (a0_4:ByteArray) (a0_5:Int):Option (Bool):=if a0_0=0 then ((doorwardref16_bare.f a0_0 l0_1 a0_2 a0_3 a0_4 a0_5).bind fun t184 => (if t184=true then (some ((l0_1.length:Int)==0)) else (some false))) else (some false)
set_option maxHeartbeats 8000000 in
set_option maxRecDepth 100000 in
theorem doorwardref16_None.calls (a0_0:Int) (A0_1:Option Addr) (c0_1:Nat) (l0_1:List (S28)) (a0_2:Int) (a0_3:Int) (a0_4:ByteArray) (a0_5:Int) (r:Bool) (w:World) (hr0_1:Kd.C k28 w A0_1 l0_1.length l0_1) (hc0_1:l0_1.length≤c0_1) (hLd:LaidAt w) (h:doorwardref16_None.f a0_0 l0_1 a0_2 a0_3 a0_4 a0_5=some r) :
  Calls Tryz.prog 20 #[.agg #[.int .i64 a0_0,.slice A0_1 l0_1.length c0_1,.int .i64 a0_2,.int .u64 a0_3,.string a0_4,.int .u64 a0_5]] w fun e w' => e=.returned (.bool r)∧Below w.heap.size w w':=by
 have hu28:=Tryz.underlying28
 have HLD:=Aside0.mk hLd
 clear hLd
 have HR0_1:=Aside0.mk hr0_1
 have HC0_1:=Aside0.mk hc0_1
 clear hr0_1 hc0_1
 have HB:=Aside0.mk (Below.refl w.heap.size w)
 have H:(if a0_0=0 then ((doorwardref16_bare.f a0_0 l0_1 a0_2 a0_3 a0_4 a0_5).bind fun t184 => (if t184=true then (some ((l0_1.length:Int)==0)) else (some false))) else (some false))=some r:=h
 clear h
 by_cases c2:a0_0=0
 ·rw [if_pos c2] at H
  have c2b0:(a0_0==0)=true:=beq_iff_eq.mpr c2
  have c2b1:(a0_0 != 0)=false:=bne_eq_false_iff_eq.mpr c2
  clear c2
  replace H:=Option.bind_eq_some_iff.mp H
  obtain ⟨t184,A30,H⟩:=H
  replace H:(if t184=true then (some ((l0_1.length:Int)==0)) else (some false))=some r:=H
  have A3:=Aside0.mk A30
  clear A30
  by_cases c4:t184=true
  ·subst c4
   have H1:(some ((l0_1.length:Int)==0))=some r:=by rw [if_pos rfl] at H;exact H
   clear H
   have H:=H1
   clear H1
   obtain rfl:=Option.some.inj H
   go_enter Tryz.func20,Tryz.ntmps20
   go_wp2_with (first|((with_reducible refine gate_dst (N:=1) rfl ?_);(try (refine gate_guard (by rfl) ?_;dsimp only));refine box_event ?hg (N:=1) ?hd (cs:=#[.int .i64 a0_0,.slice A0_1 l0_1.length c0_1,.int .i64 a0_2,.int .u64 a0_3,.string a0_4,.int .u64 a0_5]) (t:=28) ?hr ?_;(case hd => rfl);(case hg => rfl);(case hr => first|(go_simp;done)|(go_simp;rfl));intro gb183 hg w5 hbox hb;have n0_:=Aside0.mk (below_step (by repeat (with_reducible first|exact HB.out|apply below_alloc|apply pw_below_drewN|apply below_drew1)) hb);have n1_:=Aside0.mk (hbox);have n2_:=Aside0.mk ((by rw [hg];exact (below_size (by repeat (with_reducible first|exact HB.out|apply below_alloc|apply pw_below_drewN|apply below_drew1))):w.heap.size≤gb183));have n3_:=Aside0.mk ((by rw [hg];exact (below_size (by repeat (with_reducible first|exact HB.out|apply below_alloc|apply pw_below_drewN|apply below_drew1))):w.heap.size≤gb183));clear HB;have HB:=n0_;have BK183:=n1_;have GW183:=n2_;have GE183:=n3_;clear n0_ n1_ n2_ n3_;clear hb hbox hg;have hcz6_0:w5.cell? ⟨gb183,0,none⟩=some (.int .i64 a0_0):=(blk_cell BK183.out 0).trans rfl;have hcz6_1:w5.cell? ⟨gb183,1,none⟩=some (.slice A0_1 l0_1.length c0_1):=(blk_cell BK183.out 1).trans rfl;have hcz6_2:w5.cell? ⟨gb183,2,none⟩=some (.int .i64 a0_2):=(blk_cell BK183.out 2).trans rfl;have hcz6_3:w5.cell? ⟨gb183,3,none⟩=some (.int .u64 a0_3):=(blk_cell BK183.out 3).trans rfl;have hcz6_4:w5.cell? ⟨gb183,4,none⟩=some (.string a0_4):=(blk_cell BK183.out 4).trans rfl;have hcz6_5:w5.cell? ⟨gb183,5,none⟩=some (.int .u64 a0_5):=(blk_cell BK183.out 5).trans rfl;have hfz6_0:=blk_frozen BK183.out 0;have hfz6_1:=blk_frozen BK183.out 1;have hfz6_2:=blk_frozen BK183.out 2;have hfz6_3:=blk_frozen BK183.out 3;have hfz6_4:=blk_frozen BK183.out 4;have hfz6_5:=blk_frozen BK183.out 5)|(go_at_call 38;(with_reducible refine (doorwardref16_bare.calls a0_0 _ _ l0_1 a0_2 a0_3 a0_4 a0_5 true _ ?side1 ?side2 ?side3 A3.out).mono ?_);(case side1 => repeat (first|exact (Kd.C_below HR0_1.out HB.out)|(with_reducible refine Kd.C_alloc ?_ _)|(with_reducible refine Kd.C_drewN ?_ _)|(with_reducible refine Kd.C_drew ?_)));(case side2 => exact HC0_1.out);(case side3 => exact LaidAt.of HLD.out (by repeat (first|(with_reducible first|exact HB.out|apply below_alloc|apply pw_below_drewN|apply below_drew1|refine below_set ?_ GE183.out)|exact HB.out)));rintro e w7 ⟨rfl,hb⟩;have n0_:=Aside0.mk (blk_below (g:=gb183) (o:=.cells #[.int .i64 a0_0,.slice A0_1 l0_1.length c0_1,.int .i64 a0_2,.int .u64 a0_3,.string a0_4,.int .u64 a0_5] 28 (0,0)) (by (with_reducible repeat (first|refine zN ?_|refine zD ?_|refine zA ?_));exact BK183.out) hb);have n1_:=Aside0.mk (below_step (by repeat (first|(with_reducible first|exact HB.out|apply below_alloc|apply pw_below_drewN|apply below_drew1|refine below_set ?_ GE183.out)|exact HB.out)) hb);clear BK183;clear HB;have BK183:=n0_;have HB:=n1_;clear n0_ n1_;(try clear hb);(try clear hb2);(try clear hk);(try clear hi);have hcz8_0:w7.cell? ⟨gb183,0,none⟩=some (.int .i64 a0_0):=(blk_cell BK183.out 0).trans rfl;have hcz8_1:w7.cell? ⟨gb183,1,none⟩=some (.slice A0_1 l0_1.length c0_1):=(blk_cell BK183.out 1).trans rfl;have hcz8_2:w7.cell? ⟨gb183,2,none⟩=some (.int .i64 a0_2):=(blk_cell BK183.out 2).trans rfl;have hcz8_3:w7.cell? ⟨gb183,3,none⟩=some (.int .u64 a0_3):=(blk_cell BK183.out 3).trans rfl;have hcz8_4:w7.cell? ⟨gb183,4,none⟩=some (.string a0_4):=(blk_cell BK183.out 4).trans rfl;have hcz8_5:w7.cell? ⟨gb183,5,none⟩=some (.int .u64 a0_5):=(blk_cell BK183.out 5).trans rfl;have hfz8_0:=blk_frozen BK183.out 0;have hfz8_1:=blk_frozen BK183.out 1;have hfz8_2:=blk_frozen BK183.out 2;have hfz8_3:=blk_frozen BK183.out 3;have hfz8_4:=blk_frozen BK183.out 4;have hfz8_5:=blk_frozen BK183.out 5))
   go_ret
   exact ⟨by first|rfl|(simp [errW_none,errW_some]<;>rfl)|(simp [*,errW_none,errW_some]<;>rfl),by repeat (first|(with_reducible first|exact HB.out|apply below_alloc|apply pw_below_drewN|apply below_drew1|refine below_set ?_ GE183.out)|exact HB.out)⟩
  ·replace c4:=Bool.eq_false_iff.mpr c4
   subst c4
   have H1:(some false)=some r:=by rw [if_neg (show ¬ (false=true) by decide)] at H;exact H
   clear H
   have H:=H1
   clear H1
   obtain rfl:=Option.some.inj H
   go_enter Tryz.func20,Tryz.ntmps20
   go_wp2_with (first|((with_reducible refine gate_dst (N:=1) rfl ?_);(try (refine gate_guard (by rfl) ?_;dsimp only));refine box_event ?hg (N:=1) ?hd (cs:=#[.int .i64 a0_0,.slice A0_1 l0_1.length c0_1,.int .i64 a0_2,.int .u64 a0_3,.string a0_4,.int .u64 a0_5]) (t:=28) ?hr ?_;(case hd => rfl);(case hg => rfl);(case hr => first|(go_simp;done)|(go_simp;rfl));intro gb183 hg w9 hbox hb;have n0_:=Aside0.mk (below_step (by repeat (with_reducible first|exact HB.out|apply below_alloc|apply pw_below_drewN|apply below_drew1)) hb);have n1_:=Aside0.mk (hbox);have n2_:=Aside0.mk ((by rw [hg];exact (below_size (by repeat (with_reducible first|exact HB.out|apply below_alloc|apply pw_below_drewN|apply below_drew1))):w.heap.size≤gb183));have n3_:=Aside0.mk ((by rw [hg];exact (below_size (by repeat (with_reducible first|exact HB.out|apply below_alloc|apply pw_below_drewN|apply below_drew1))):w.heap.size≤gb183));clear HB;have HB:=n0_;have BK183:=n1_;have GW183:=n2_;have GE183:=n3_;clear n0_ n1_ n2_ n3_;clear hb hbox hg;have hcz10_0:w9.cell? ⟨gb183,0,none⟩=some (.int .i64 a0_0):=(blk_cell BK183.out 0).trans rfl;have hcz10_1:w9.cell? ⟨gb183,1,none⟩=some (.slice A0_1 l0_1.length c0_1):=(blk_cell BK183.out 1).trans rfl;have hcz10_2:w9.cell? ⟨gb183,2,none⟩=some (.int .i64 a0_2):=(blk_cell BK183.out 2).trans rfl;have hcz10_3:w9.cell? ⟨gb183,3,none⟩=some (.int .u64 a0_3):=(blk_cell BK183.out 3).trans rfl;have hcz10_4:w9.cell? ⟨gb183,4,none⟩=some (.string a0_4):=(blk_cell BK183.out 4).trans rfl;have hcz10_5:w9.cell? ⟨gb183,5,none⟩=some (.int .u64 a0_5):=(blk_cell BK183.out 5).trans rfl;have hfz10_0:=blk_frozen BK183.out 0;have hfz10_1:=blk_frozen BK183.out 1;have hfz10_2:=blk_frozen BK183.out 2;have hfz10_3:=blk_frozen BK183.out 3;have hfz10_4:=blk_frozen BK183.out 4;have hfz10_5:=blk_frozen BK183.out 5)|(go_at_call 38;(with_reducible refine (doorwardref16_bare.calls a0_0 _ _ l0_1 a0_2 a0_3 a0_4 a0_5 false _ ?side1 ?side2 ?side3 A3.out).mono ?_);(case side1 => repeat (first|exact (Kd.C_below HR0_1.out HB.out)|(with_reducible refine Kd.C_alloc ?_ _)|(with_reducible refine Kd.C_drewN ?_ _)|(with_reducible refine Kd.C_drew ?_)));(case side2 => exact HC0_1.out);(case side3 => exact LaidAt.of HLD.out (by repeat (first|(with_reducible first|exact HB.out|apply below_alloc|apply pw_below_drewN|apply below_drew1|refine below_set ?_ GE183.out)|exact HB.out)));rintro e w11 ⟨rfl,hb⟩;have n0_:=Aside0.mk (blk_below (g:=gb183) (o:=.cells #[.int .i64 a0_0,.slice A0_1 l0_1.length c0_1,.int .i64 a0_2,.int .u64 a0_3,.string a0_4,.int .u64 a0_5] 28 (0,0)) (by (with_reducible repeat (first|refine zN ?_|refine zD ?_|refine zA ?_));exact BK183.out) hb);have n1_:=Aside0.mk (below_step (by repeat (first|(with_reducible first|exact HB.out|apply below_alloc|apply pw_below_drewN|apply below_drew1|refine below_set ?_ GE183.out)|exact HB.out)) hb);clear BK183;clear HB;have BK183:=n0_;have HB:=n1_;clear n0_ n1_;(try clear hb);(try clear hb2);(try clear hk);(try clear hi)))
   go_ret
   exact ⟨by first|rfl|(simp [errW_none,errW_some]<;>rfl)|(simp [*,errW_none,errW_some]<;>rfl),by repeat (first|(with_reducible first|exact HB.out|apply below_alloc|apply pw_below_drewN|apply below_drew1|refine below_set ?_ GE183.out)|exact HB.out)⟩
 ·rw [if_neg c2] at H
  have c2b0:(a0_0==0)=false:=beq_eq_false_iff_ne.mpr c2
  have c2b1:(a0_0 != 0)=true:=bne_iff_ne.mpr c2
  obtain rfl:=Option.some.inj H
  go_enter Tryz.func20,Tryz.ntmps20
  go_wp2_with (first|((with_reducible refine gate_dst (N:=1) rfl ?_);(try (refine gate_guard (by rfl) ?_;dsimp only));refine box_event ?hg (N:=1) ?hd (cs:=#[.int .i64 a0_0,.slice A0_1 l0_1.length c0_1,.int .i64 a0_2,.int .u64 a0_3,.string a0_4,.int .u64 a0_5]) (t:=28) ?hr ?_;(case hd => rfl);(case hg => rfl);(case hr => first|(go_simp;done)|(go_simp;rfl));intro gb183 hg w12 hbox hb;have n0_:=Aside0.mk (below_step (by repeat (with_reducible first|exact HB.out|apply below_alloc|apply pw_below_drewN|apply below_drew1)) hb);have n1_:=Aside0.mk (hbox);have n2_:=Aside0.mk ((by rw [hg];exact (below_size (by repeat (with_reducible first|exact HB.out|apply below_alloc|apply pw_below_drewN|apply below_drew1))):w.heap.size≤gb183));have n3_:=Aside0.mk ((by rw [hg];exact (below_size (by repeat (with_reducible first|exact HB.out|apply below_alloc|apply pw_below_drewN|apply below_drew1))):w.heap.size≤gb183));clear HB;have HB:=n0_;have BK183:=n1_;have GW183:=n2_;have GE183:=n3_;clear n0_ n1_ n2_ n3_;clear hb hbox hg;have hcz13_0:w12.cell? ⟨gb183,0,none⟩=some (.int .i64 a0_0):=(blk_cell BK183.out 0).trans rfl;have hcz13_1:w12.cell? ⟨gb183,1,none⟩=some (.slice A0_1 l0_1.length c0_1):=(blk_cell BK183.out 1).trans rfl;have hcz13_2:w12.cell? ⟨gb183,2,none⟩=some (.int .i64 a0_2):=(blk_cell BK183.out 2).trans rfl;have hcz13_3:w12.cell? ⟨gb183,3,none⟩=some (.int .u64 a0_3):=(blk_cell BK183.out 3).trans rfl;have hcz13_4:w12.cell? ⟨gb183,4,none⟩=some (.string a0_4):=(blk_cell BK183.out 4).trans rfl;have hcz13_5:w12.cell? ⟨gb183,5,none⟩=some (.int .u64 a0_5):=(blk_cell BK183.out 5).trans rfl;have hfz13_0:=blk_frozen BK183.out 0;have hfz13_1:=blk_frozen BK183.out 1;have hfz13_2:=blk_frozen BK183.out 2;have hfz13_3:=blk_frozen BK183.out 3;have hfz13_4:=blk_frozen BK183.out 4;have hfz13_5:=blk_frozen BK183.out 5))
  go_ret
  exact ⟨by first|rfl|(simp [errW_none,errW_some]<;>rfl)|(simp [*,errW_none,errW_some]<;>rfl),by repeat (first|(with_reducible first|exact HB.out|apply below_alloc|apply pw_below_drewN|apply below_drew1|refine below_set ?_ GE183.out)|exact HB.out)⟩

/-! ### doorwardref17_Depth: function 21 -/
mutual
def doorwardref17_Depth.l0:Nat→Int→List (S28)→Int→Int→Int→List (S28)→Int→Int→ByteArray→Int→Option (Int)
 |  0,_,_,_,_,_,_,_,_,_,_ => none
 |  k+1,x3,x8,x9,x10,x186000,x186001,x186002,x186003,x186004,x186005 => if x10<x9 then (if 0≤x10 then (if x10<(x8.length:Int) then ((doorwardref17_Depth.f k ((rd_T28 x8 x10).f0) ((rd_T28 x8 x10).f1) ((rd_T28 x8 x10).f2) ((rd_T28 x8 x10).f3) ((rd_T28 x8 x10).f4) ((rd_T28 x8 x10).f5)).bind fun t188 => ((doorwardref17_closed.f x186000 ((rd_T28 x8 x10).f0) ((rd_T28 x8 x10).f1) ((rd_T28 x8 x10).f2) ((rd_T28 x8 x10).f3) ((rd_T28 x8 x10).f4) ((rd_T28 x8 x10).f5)).bind fun t189 => (if t189=true then (doorwardref17_Depth.j1 k x3 (wrap64 (t188+1)) x8 x9 x10 x186000 x186001 x186002 x186003 x186004 x186005) else (doorwardref17_Depth.j1 k x3 t188 x8 x9 x10 x186000 x186001 x186002 x186003 x186004 x186005)))) else (none)) else (none)) else (some x3)
def doorwardref17_Depth.j1:Nat→Int→Int→List (S28)→Int→Int→Int→List (S28)→Int→Int→ByteArray→Int→Option (Int)
 |  0,_,_,_,_,_,_,_,_,_,_,_ => none
 |  k+1,x3,x6,x8,x9,x10,x186000,x186001,x186002,x186003,x186004,x186005 => if x186000=3 then (if (wrap64 (x6+1))>x3 then (doorwardref17_Depth.l0 k (wrap64 (x6+1)) x8 x9 (wrap64 (x10+1)) x186000 x186001 x186002 x186003 x186004 x186005) else (doorwardref17_Depth.l0 k x3 x8 x9 (wrap64 (x10+1)) x186000 x186001 x186002 x186003 x186004 x186005)) else (if x6>x3 then (doorwardref17_Depth.l0 k x6 x8 x9 (wrap64 (x10+1)) x186000 x186001 x186002 x186003 x186004 x186005) else (doorwardref17_Depth.l0 k x3 x8 x9 (wrap64 (x10+1)) x186000 x186001 x186002 x186003 x186004 x186005))
def doorwardref17_Depth.f:Nat→Int→List (S28)→Int→Int→ByteArray→Int→Option (Int)
 |  0,_,_,_,_,_,_ => none
 |  k+1,a0_0,l0_1,a0_2,a0_3,a0_4,a0_5 => doorwardref17_Depth.l0 k 0 l0_1 (l0_1.length:Int) 0 a0_0 l0_1 a0_2 a0_3 a0_4 a0_5
end
theorem doorwardref17_Depth.mono_l:∀ k,(∀ y0 y1 y2 y3 y4 y5,LeO (doorwardref17_Depth.f k y0 y1 y2 y3 y4 y5) (doorwardref17_Depth.f (k+1) y0 y1 y2 y3 y4 y5))∧(∀ y0 y1 y2 y3 y4 y5 y6 y7 y8 y9,LeO (doorwardref17_Depth.l0 k y0 y1 y2 y3 y4 y5 y6 y7 y8 y9) (doorwardref17_Depth.l0 (k+1) y0 y1 y2 y3 y4 y5 y6 y7 y8 y9))∧(∀ y0 y1 y2 y3 y4 y5 y6 y7 y8 y9 y10,LeO (doorwardref17_Depth.j1 k y0 y1 y2 y3 y4 y5 y6 y7 y8 y9 y10) (doorwardref17_Depth.j1 (k+1) y0 y1 y2 y3 y4 y5 y6 y7 y8 y9 y10))
 |  0 => ⟨fun _ _ _ _ _ _ r h => by simp [doorwardref17_Depth.f] at h,fun _ _ _ _ _ _ _ _ _ _ r h => by simp [doorwardref17_Depth.l0] at h,fun _ _ _ _ _ _ _ _ _ _ _ r h => by simp [doorwardref17_Depth.j1] at h⟩
 |  k+1 => by
  obtain ⟨ih0,ih1,ih2⟩:=doorwardref17_Depth.mono_l k
  refine ⟨?_,?_,?_⟩
  ·intro y0 y1 y2 y3 y4 y5
   unfold doorwardref17_Depth.f
   repeat' first
   |  (with_reducible exact ih0 _ _ _ _ _ _)
   |  (with_reducible exact ih1 _ _ _ _ _ _ _ _ _ _)
   |  (with_reducible exact ih2 _ _ _ _ _ _ _ _ _ _ _)
   |  (with_reducible exact LeO.refl _)
   |  (with_reducible exact LeO.none _)
   |  (with_reducible refine LeO.ite ?_ ?_)
   |  (with_reducible refine LeO.bind ?_ (fun _ => ?_))
   |  exact ih0 _ _ _ _ _ _
   |  exact ih1 _ _ _ _ _ _ _ _ _ _
   |  exact ih2 _ _ _ _ _ _ _ _ _ _ _
   |  exact LeO.none _
   |  refine LeO.ite ?_ ?_
   |  refine LeO.bind ?_ (fun _ => ?_)
  ·intro y0 y1 y2 y3 y4 y5 y6 y7 y8 y9
   unfold doorwardref17_Depth.l0
   repeat' first
   |  (with_reducible exact ih0 _ _ _ _ _ _)
   |  (with_reducible exact ih1 _ _ _ _ _ _ _ _ _ _)
   |  (with_reducible exact ih2 _ _ _ _ _ _ _ _ _ _ _)
   |  (with_reducible exact LeO.refl _)
   |  (with_reducible exact LeO.none _)
   |  (with_reducible refine LeO.ite ?_ ?_)
   |  (with_reducible refine LeO.bind ?_ (fun _ => ?_))
   |  exact ih0 _ _ _ _ _ _
   |  exact ih1 _ _ _ _ _ _ _ _ _ _
   |  exact ih2 _ _ _ _ _ _ _ _ _ _ _
   |  exact LeO.none _
   |  refine LeO.ite ?_ ?_
   |  refine LeO.bind ?_ (fun _ => ?_)
  ·intro y0 y1 y2 y3 y4 y5 y6 y7 y8 y9 y10
   unfold doorwardref17_Depth.j1
   repeat' first
   |  (with_reducible exact ih0 _ _ _ _ _ _)
   |  (with_reducible exact ih1 _ _ _ _ _ _ _ _ _ _)
   |  (with_reducible exact ih2 _ _ _ _ _ _ _ _ _ _ _)
   |  (with_reducible exact LeO.refl _)
   |  (with_reducible exact LeO.none _)
   |  (with_reducible refine LeO.ite ?_ ?_)
   |  (with_reducible refine LeO.bind ?_ (fun _ => ?_))
   |  exact ih0 _ _ _ _ _ _
   |  exact ih1 _ _ _ _ _ _ _ _ _ _
   |  exact ih2 _ _ _ _ _ _ _ _ _ _ _
   |  exact LeO.none _
   |  refine LeO.ite ?_ ?_
   |  refine LeO.bind ?_ (fun _ => ?_)
theorem doorwardref17_Depth.mono:∀ a0 a1 a2 a3 a4 a5 k,LeO (doorwardref17_Depth.f k a0 a1 a2 a3 a4 a5) (doorwardref17_Depth.f (k+1) a0 a1 a2 a3 a4 a5):=by
 intro a0 a1 a2 a3 a4 a5 k
 obtain ⟨ih0,ih1,ih2⟩:=doorwardref17_Depth.mono_l k
 exact ih0 a0 a1 a2 a3 a4 a5
set_option maxHeartbeats 8000000 in
set_option maxRecDepth 100000 in
theorem doorwardref17_Depth.calls (k:Nat):∀ (a0_0:Int) (A0_1:Option Addr) (c0_1:Nat) (l0_1:List (S28)) (a0_2:Int) (a0_3:Int) (a0_4:ByteArray) (a0_5:Int) (r:Int) (w:World) (hr0_1:Kd.C k28 w A0_1 l0_1.length l0_1) (hc0_1:l0_1.length≤c0_1) (hLd:LaidAt w) (h:doorwardref17_Depth.f k a0_0 l0_1 a0_2 a0_3 a0_4 a0_5=some r),
  Calls Tryz.prog 21 #[.agg #[.int .i64 a0_0,.slice A0_1 l0_1.length c0_1,.int .i64 a0_2,.int .u64 a0_3,.string a0_4,.int .u64 a0_5]] w fun e w' => e=.returned (.int .i64 r)∧Below w.heap.size w w':=by
 induction k using Nat.strongRecOn with
 |  _ k ih =>
 intro a0_0 A0_1 c0_1 l0_1 a0_2 a0_3 a0_4 a0_5 r w hr0_1 hc0_1 hLd h
 cases k with
 |  zero => exact absurd h (by simp [doorwardref17_Depth.f])
 |  succ k =>
 simp only [doorwardref17_Depth.f] at h
 have hu28:=Tryz.underlying28
 have HLD:=Aside0.mk hLd
 clear hLd
 have HR0_1:=Aside0.mk hr0_1
 have HC0_1:=Aside0.mk hc0_1
 clear hr0_1 hc0_1
 have HB:=Aside0.mk (Below.refl w.heap.size w)
 have H:(doorwardref17_Depth.l0 k 0 l0_1 (l0_1.length:Int) 0 a0_0 l0_1 a0_2 a0_3 a0_4 a0_5)=some r:=h
 clear h
 have H':=Aside0.mk H
 clear H
 go_enter Tryz.func21,Tryz.ntmps21
 go_wp2_with (first|((with_reducible refine gate_dst (N:=1) rfl ?_);refine box_event ?hg (N:=1) ?hd (cs:=#[.int .i64 a0_0,.slice A0_1 l0_1.length c0_1,.int .i64 a0_2,.int .u64 a0_3,.string a0_4,.int .u64 a0_5]) (t:=28) ?hr ?_;(case hd => rfl);(case hg => rfl);(case hr => first|(go_simp;done)|(go_simp;rfl));intro gb185 hg w2 hbox hb;have n0_:=Aside0.mk (below_step (by repeat (with_reducible first|exact HB.out|apply below_alloc|apply pw_below_drewN|apply below_drew1)) hb);have n1_:=Aside0.mk (hbox);have n2_:=Aside0.mk ((by rw [hg];exact (below_size (by repeat (with_reducible first|exact HB.out|apply below_alloc|apply pw_below_drewN|apply below_drew1))):w.heap.size≤gb185));have n3_:=Aside0.mk ((by rw [hg];exact (below_size (by repeat (with_reducible first|exact HB.out|apply below_alloc|apply pw_below_drewN|apply below_drew1))):w.heap.size≤gb185));clear HB;have HB:=n0_;have BK185:=n1_;have GW185:=n2_;have GE185:=n3_;clear n0_ n1_ n2_ n3_;clear hb hbox hg;have hcz3_0:w2.cell? ⟨gb185,0,none⟩=some (.int .i64 a0_0):=(blk_cell BK185.out 0).trans rfl;have hcz3_1:w2.cell? ⟨gb185,1,none⟩=some (.slice A0_1 l0_1.length c0_1):=(blk_cell BK185.out 1).trans rfl;have hcz3_2:w2.cell? ⟨gb185,2,none⟩=some (.int .i64 a0_2):=(blk_cell BK185.out 2).trans rfl;have hcz3_3:w2.cell? ⟨gb185,3,none⟩=some (.int .u64 a0_3):=(blk_cell BK185.out 3).trans rfl;have hcz3_4:w2.cell? ⟨gb185,4,none⟩=some (.string a0_4):=(blk_cell BK185.out 4).trans rfl;have hcz3_5:w2.cell? ⟨gb185,5,none⟩=some (.int .u64 a0_5):=(blk_cell BK185.out 5).trans rfl;have hfz3_0:=blk_frozen BK185.out 0;have hfz3_1:=blk_frozen BK185.out 1;have hfz3_2:=blk_frozen BK185.out 2;have hfz3_3:=blk_frozen BK185.out 3;have hfz3_4:=blk_frozen BK185.out 4;have hfz3_5:=blk_frozen BK185.out 5))
 go_loopg [3,10] k (fun kq v3 v10 w' =>∃(x3_1:Int) (x10_1:Int),v3=.int .i64 x3_1∧v10=.int .i64 x10_1∧Aside0 (doorwardref17_Depth.l0 kq x3_1 l0_1 (l0_1.length:Int) x10_1 a0_0 l0_1 a0_2 a0_3 a0_4 a0_5=some r)∧Aside0 (kq≤k)∧Aside0 (w'.heap[gb185]?=some (.cells #[.int .i64 a0_0,(.slice A0_1 l0_1.length c0_1),.int .i64 a0_2,.int .u64 a0_3,.string a0_4,.int .u64 a0_5] 28 (0,0)))∧Aside0 (Below w.heap.size w w'))
 case atStart => exact ⟨(0),(0),(by first|rfl|(simp;done)|(simp [*];done)),(by first|rfl|(simp;done)|(simp [*];done)),H',⟨Nat.le_refl _⟩,⟨by (with_reducible repeat (first|refine zN ?_|refine zD ?_|refine zA ?_));exact BK185.out⟩,⟨by repeat (first|(with_reducible first|exact HB.out|apply below_alloc|apply pw_below_drewN|apply below_drew1|refine below_set ?_ GE185.out)|exact HB.out)⟩⟩
 case round =>
  clear H'
  obtain ⟨x3_1,x10_1,rfl,rfl,HA,HK1,BK185,HB⟩:=hrel
  cases gk with
  |  zero => exact absurd HA.out (by simp [doorwardref17_Depth.l0])
  |  succ k1 =>
   have H:=HA.out
   clear HA
   simp only [doorwardref17_Depth.l0] at H
   by_cases c4:x10_1<(l0_1.length:Int)
   ·rw [if_pos c4] at H
    have c4b0:decide (x10_1<(l0_1.length:Int))=true:=decide_eq_true c4
    clear c4
    by_cases c5:0≤x10_1
    ·rw [if_pos c5] at H
     have c5b0:decide (0≤x10_1)=true:=decide_eq_true c5
     clear c5
     by_cases c6:x10_1<(l0_1.length:Int)
     ·rw [if_pos c6] at H
      have c6b0:decide (x10_1<(l0_1.length:Int))=true:=decide_eq_true c6
      clear c6
      replace H:=Option.bind_eq_some_iff.mp H
      obtain ⟨t188,A70,H⟩:=H
      replace H:((doorwardref17_closed.f a0_0 ((rd_T28 l0_1 x10_1).f0) ((rd_T28 l0_1 x10_1).f1) ((rd_T28 l0_1 x10_1).f2) ((rd_T28 l0_1 x10_1).f3) ((rd_T28 l0_1 x10_1).f4) ((rd_T28 l0_1 x10_1).f5)).bind fun t189 => (if t189=true then (doorwardref17_Depth.j1 k1 x3_1 (wrap64 (t188+1)) l0_1 (l0_1.length:Int) x10_1 a0_0 l0_1 a0_2 a0_3 a0_4 a0_5) else (doorwardref17_Depth.j1 k1 x3_1 t188 l0_1 (l0_1.length:Int) x10_1 a0_0 l0_1 a0_2 a0_3 a0_4 a0_5)))=some r:=H
      have A7:=Aside0.mk A70
      clear A70
      replace H:=Option.bind_eq_some_iff.mp H
      obtain ⟨t189,A80,H⟩:=H
      replace H:(if t189=true then (doorwardref17_Depth.j1 k1 x3_1 (wrap64 (t188+1)) l0_1 (l0_1.length:Int) x10_1 a0_0 l0_1 a0_2 a0_3 a0_4 a0_5) else (doorwardref17_Depth.j1 k1 x3_1 t188 l0_1 (l0_1.length:Int) x10_1 a0_0 l0_1 a0_2 a0_3 a0_4 a0_5))=some r:=H
      have A8:=Aside0.mk A80
      clear A80
      have HC9:=Aside0.mk H
      clear H
      have p186:0≤(x10_1:Int):=of_decide_eq_true (by first|(with_reducible assumption)|assumption)
      have q186:x10_1<(l0_1.length:Int):=of_decide_eq_true (by first|(with_reducible assumption)|assumption)
      obtain ⟨ad186,A186_1,c186_1,e186,hx186_0,hx186_1,hx186_2,hx186_3,hx186_4,hx186_5,hl186_1,hi186_1⟩:=at_T28 HR0_1.out x10_1 p186 q186
      cases e186
      replace hx186_0:=(HB.out.cell (World.block_lt_of_cell? w _ hx186_0)).trans hx186_0
      replace hx186_1:=(HB.out.cell (World.block_lt_of_cell? w _ hx186_1)).trans hx186_1
      replace hx186_2:=(HB.out.cell (World.block_lt_of_cell? w _ hx186_2)).trans hx186_2
      replace hx186_3:=(HB.out.cell (World.block_lt_of_cell? w _ hx186_3)).trans hx186_3
      replace hx186_4:=(HB.out.cell (World.block_lt_of_cell? w _ hx186_4)).trans hx186_4
      replace hx186_5:=(HB.out.cell (World.block_lt_of_cell? w _ hx186_5)).trans hx186_5
      have HR186_1:=Aside0.mk hi186_1
      have HC186_1:=Aside0.mk hl186_1
      clear hi186_1 hl186_1
      replace p186:=eq_true p186
      replace q186:=eq_true q186
      go_upto_if 19 with (first|((with_reducible refine gate_dst (N:=5) rfl ?_);refine box_event ?hg (N:=5) ?hd (cs:=#[.int .i64 0,.slice none 0 0,.int .i64 0,.int .u64 0,.string ⟨#[]⟩,.int .u64 0]) (t:=28) ?hr ?_;(case hd => rfl);(case hg => rfl);(case hr => first|(go_simp;done)|(go_simp;rfl));intro gb187 hg w10 hbox hb;have n0_:=Aside0.mk (blk_below (g:=gb185) (o:=.cells #[.int .i64 a0_0,.slice (some ad186) l0_1.length c0_1,.int .i64 a0_2,.int .u64 a0_3,.string a0_4,.int .u64 a0_5] 28 (0,0)) (by (with_reducible repeat (first|refine zN ?_|refine zD ?_|refine zA ?_));exact BK185.out) hb);have n1_:=Aside0.mk (below_step (by repeat (first|(with_reducible first|exact HB.out|apply below_alloc|apply pw_below_drewN|apply below_drew1|refine below_set ?_ GE185.out)|exact HB.out)) hb);have n2_:=Aside0.mk (hbox);have n3_:=Aside0.mk ((by rw [hg];exact (below_size (by repeat (first|(with_reducible first|exact HB.out|apply below_alloc|apply pw_below_drewN|apply below_drew1|refine below_set ?_ GE185.out)|exact HB.out))):w.heap.size≤gb187));have n4_:=Aside0.mk ((by rw [hg];exact (below_size (by repeat (first|(with_reducible first|exact HB.out|apply below_alloc|apply pw_below_drewN|apply below_drew1|refine below_set ?_ GE185.out)|exact HB.out))):w.heap.size≤gb187));have n5_:=Aside0.mk ((by rw [hg];exact Nat.ne_of_lt (blk_lt (g:=gb185) (o:=.cells #[.int .i64 a0_0,.slice (some ad186) l0_1.length c0_1,.int .i64 a0_2,.int .u64 a0_3,.string a0_4,.int .u64 a0_5] 28 (0,0)) (by (with_reducible repeat (first|refine zN ?_|refine zD ?_|refine zA ?_));exact BK185.out)):gb185 ≠ gb187));have n6_:=Aside0.mk ((by rw [hg];exact Nat.ne_of_gt (blk_lt (g:=gb185) (o:=.cells #[.int .i64 a0_0,.slice (some ad186) l0_1.length c0_1,.int .i64 a0_2,.int .u64 a0_3,.string a0_4,.int .u64 a0_5] 28 (0,0)) (by (with_reducible repeat (first|refine zN ?_|refine zD ?_|refine zA ?_));exact BK185.out)):gb187 ≠ gb185));clear BK185;clear HB;have BK185:=n0_;have HB:=n1_;have BK187:=n2_;have GW187:=n3_;have GE187:=n4_;have NB185_187:=n5_;have NB187_185:=n6_;clear n0_ n1_ n2_ n3_ n4_ n5_ n6_;clear hb hbox hg;have hnb11:=NB187_185.out;have hnc11:=NB185_187.out;have hcz12_0:w10.cell? ⟨gb187,0,none⟩=some (.int .i64 0):=(blk_cell BK187.out 0).trans rfl;have hcz12_1:w10.cell? ⟨gb187,1,none⟩=some (.slice none 0 0):=(blk_cell BK187.out 1).trans rfl;have hcz12_2:w10.cell? ⟨gb187,2,none⟩=some (.int .i64 0):=(blk_cell BK187.out 2).trans rfl;have hcz12_3:w10.cell? ⟨gb187,3,none⟩=some (.int .u64 0):=(blk_cell BK187.out 3).trans rfl;have hcz12_4:w10.cell? ⟨gb187,4,none⟩=some (.string ⟨#[]⟩):=(blk_cell BK187.out 4).trans rfl;have hcz12_5:w10.cell? ⟨gb187,5,none⟩=some (.int .u64 0):=(blk_cell BK187.out 5).trans rfl;have hfz12_0:=blk_frozen BK187.out 0;have hfz12_1:=blk_frozen BK187.out 1;have hfz12_2:=blk_frozen BK187.out 2;have hfz12_3:=blk_frozen BK187.out 3;have hfz12_4:=blk_frozen BK187.out 4;have hfz12_5:=blk_frozen BK187.out 5)|((with_reducible refine gate_callee (f:=21) rfl ?_);refine goesL_ (some 15) rfl rfl Tryz.func21 (by kernel_rfl) rfl #[.agg #[.int .i64 ((rd_T28 l0_1 x10_1).f0),.slice A186_1 ((rd_T28 l0_1 x10_1).f1).length c186_1,.int .i64 ((rd_T28 l0_1 x10_1).f2),.int .u64 ((rd_T28 l0_1 x10_1).f3),.string ((rd_T28 l0_1 x10_1).f4),.int .u64 ((rd_T28 l0_1 x10_1).f5)]] rfl (by (try simp only [List.map_toArray,List.map_cons,List.map_nil]);first|done|rfl|(simp only [List.length_drop,List.length_take];rfl)) ?_;(with_reducible refine (ih k1 (by have:=HK1.out;omega) ((rd_T28 l0_1 x10_1).f0) _ _ ((rd_T28 l0_1 x10_1).f1) ((rd_T28 l0_1 x10_1).f2) ((rd_T28 l0_1 x10_1).f3) ((rd_T28 l0_1 x10_1).f4) ((rd_T28 l0_1 x10_1).f5) t188 _ ?side1 ?side2 ?side3 A7.out).mono ?_);(case side1 => exact Kd.C_below HR186_1.out (by repeat (first|(with_reducible first|exact HB.out|apply below_alloc|apply pw_below_drewN|apply below_drew1|refine below_set ?_ GE185.out|refine below_set ?_ GE187.out)|exact HB.out)));(case side2 => exact HC186_1.out);(case side3 => exact LaidAt.of HLD.out (by repeat (first|(with_reducible first|exact HB.out|apply below_alloc|apply pw_below_drewN|apply below_drew1|refine below_set ?_ GE185.out|refine below_set ?_ GE187.out)|exact HB.out)));rintro e w13 ⟨rfl,hb⟩;refine ⟨_,rfl,?_⟩;have n0_:=Aside0.mk (blk_below (g:=gb185) (o:=.cells #[.int .i64 a0_0,.slice (some ad186) l0_1.length c0_1,.int .i64 a0_2,.int .u64 a0_3,.string a0_4,.int .u64 a0_5] 28 (0,0)) (by (with_reducible repeat (first|refine zN ?_|refine zD ?_|refine zA ?_));refine blk_far ?_ NB185_187.out _;(with_reducible repeat (first|refine zN ?_|refine zD ?_|refine zA ?_));refine blk_far ?_ NB185_187.out _;(with_reducible repeat (first|refine zN ?_|refine zD ?_|refine zA ?_));refine blk_far ?_ NB185_187.out _;(with_reducible repeat (first|refine zN ?_|refine zD ?_|refine zA ?_));refine blk_far ?_ NB185_187.out _;(with_reducible repeat (first|refine zN ?_|refine zD ?_|refine zA ?_));refine blk_far ?_ NB185_187.out _;(with_reducible repeat (first|refine zN ?_|refine zD ?_|refine zA ?_));refine blk_far ?_ NB185_187.out _;(with_reducible repeat (first|refine zN ?_|refine zD ?_|refine zA ?_));exact BK185.out) hb);have n1_:=Aside0.mk (blk_below (g:=gb187) (o:=.cells #[.int .i64 ((rd_T28 l0_1 x10_1).f0),.slice A186_1 ((rd_T28 l0_1 x10_1).f1).length c186_1,.int .i64 ((rd_T28 l0_1 x10_1).f2),.int .u64 ((rd_T28 l0_1 x10_1).f3),.string ((rd_T28 l0_1 x10_1).f4),.int .u64 ((rd_T28 l0_1 x10_1).f5)] 28 (0,0)) (by (with_reducible repeat (first|refine zN ?_|refine zD ?_|refine zA ?_));refine blk_put (cs:=#[.int .i64 ((rd_T28 l0_1 x10_1).f0),.slice A186_1 ((rd_T28 l0_1 x10_1).f1).length c186_1,.int .i64 ((rd_T28 l0_1 x10_1).f2),.int .u64 ((rd_T28 l0_1 x10_1).f3),.string ((rd_T28 l0_1 x10_1).f4),.int .u64 0]) ?_ 5 _ rfl;(with_reducible repeat (first|refine zN ?_|refine zD ?_|refine zA ?_));refine blk_put (cs:=#[.int .i64 ((rd_T28 l0_1 x10_1).f0),.slice A186_1 ((rd_T28 l0_1 x10_1).f1).length c186_1,.int .i64 ((rd_T28 l0_1 x10_1).f2),.int .u64 ((rd_T28 l0_1 x10_1).f3),.string ⟨#[]⟩,.int .u64 0]) ?_ 4 _ rfl;(with_reducible repeat (first|refine zN ?_|refine zD ?_|refine zA ?_));refine blk_put (cs:=#[.int .i64 ((rd_T28 l0_1 x10_1).f0),.slice A186_1 ((rd_T28 l0_1 x10_1).f1).length c186_1,.int .i64 ((rd_T28 l0_1 x10_1).f2),.int .u64 0,.string ⟨#[]⟩,.int .u64 0]) ?_ 3 _ rfl;(with_reducible repeat (first|refine zN ?_|refine zD ?_|refine zA ?_));refine blk_put (cs:=#[.int .i64 ((rd_T28 l0_1 x10_1).f0),.slice A186_1 ((rd_T28 l0_1 x10_1).f1).length c186_1,.int .i64 0,.int .u64 0,.string ⟨#[]⟩,.int .u64 0]) ?_ 2 _ rfl;(with_reducible repeat (first|refine zN ?_|refine zD ?_|refine zA ?_));refine blk_put (cs:=#[.int .i64 ((rd_T28 l0_1 x10_1).f0),.slice none 0 0,.int .i64 0,.int .u64 0,.string ⟨#[]⟩,.int .u64 0]) ?_ 1 _ rfl;(with_reducible repeat (first|refine zN ?_|refine zD ?_|refine zA ?_));refine blk_put (cs:=#[.int .i64 0,.slice none 0 0,.int .i64 0,.int .u64 0,.string ⟨#[]⟩,.int .u64 0]) ?_ 0 _ rfl;(with_reducible repeat (first|refine zN ?_|refine zD ?_|refine zA ?_));exact BK187.out) hb);have n2_:=Aside0.mk (below_step (by repeat (first|(with_reducible first|exact HB.out|apply below_alloc|apply pw_below_drewN|apply below_drew1|refine below_set ?_ GE185.out|refine below_set ?_ GE187.out)|exact HB.out)) hb);clear BK185;clear BK187;clear HB;have BK185:=n0_;have BK187:=n1_;have HB:=n2_;clear n0_ n1_ n2_;(try clear hb);(try clear hb2);(try clear hk);(try clear hi);have hcz14_0:w13.cell? ⟨gb185,0,none⟩=some (.int .i64 a0_0):=(blk_cell BK185.out 0).trans rfl;have hcz14_1:w13.cell? ⟨gb185,1,none⟩=some (.slice (some ad186) l0_1.length c0_1):=(blk_cell BK185.out 1).trans rfl;have hcz14_2:w13.cell? ⟨gb185,2,none⟩=some (.int .i64 a0_2):=(blk_cell BK185.out 2).trans rfl;have hcz14_3:w13.cell? ⟨gb185,3,none⟩=some (.int .u64 a0_3):=(blk_cell BK185.out 3).trans rfl;have hcz14_4:w13.cell? ⟨gb185,4,none⟩=some (.string a0_4):=(blk_cell BK185.out 4).trans rfl;have hcz14_5:w13.cell? ⟨gb185,5,none⟩=some (.int .u64 a0_5):=(blk_cell BK185.out 5).trans rfl;have hfz14_0:=blk_frozen BK185.out 0;have hfz14_1:=blk_frozen BK185.out 1;have hfz14_2:=blk_frozen BK185.out 2;have hfz14_3:=blk_frozen BK185.out 3;have hfz14_4:=blk_frozen BK185.out 4;have hfz14_5:=blk_frozen BK185.out 5;have hcz15_0:w13.cell? ⟨gb187,0,none⟩=some (.int .i64 ((rd_T28 l0_1 x10_1).f0)):=(blk_cell BK187.out 0).trans rfl;have hcz15_1:w13.cell? ⟨gb187,1,none⟩=some (.slice A186_1 ((rd_T28 l0_1 x10_1).f1).length c186_1):=(blk_cell BK187.out 1).trans rfl;have hcz15_2:w13.cell? ⟨gb187,2,none⟩=some (.int .i64 ((rd_T28 l0_1 x10_1).f2)):=(blk_cell BK187.out 2).trans rfl;have hcz15_3:w13.cell? ⟨gb187,3,none⟩=some (.int .u64 ((rd_T28 l0_1 x10_1).f3)):=(blk_cell BK187.out 3).trans rfl;have hcz15_4:w13.cell? ⟨gb187,4,none⟩=some (.string ((rd_T28 l0_1 x10_1).f4)):=(blk_cell BK187.out 4).trans rfl;have hcz15_5:w13.cell? ⟨gb187,5,none⟩=some (.int .u64 ((rd_T28 l0_1 x10_1).f5)):=(blk_cell BK187.out 5).trans rfl;have hfz15_0:=blk_frozen BK187.out 0;have hfz15_1:=blk_frozen BK187.out 1;have hfz15_2:=blk_frozen BK187.out 2;have hfz15_3:=blk_frozen BK187.out 3;have hfz15_4:=blk_frozen BK187.out 4;have hfz15_5:=blk_frozen BK187.out 5)|((with_reducible refine gate_callee (f:=27) rfl ?_);refine goesL_ (some 19) rfl rfl Tryz.func27 (by kernel_rfl) rfl #[.int .i64 a0_0,.agg #[.int .i64 ((rd_T28 l0_1 x10_1).f0),.slice A186_1 ((rd_T28 l0_1 x10_1).f1).length c186_1,.int .i64 ((rd_T28 l0_1 x10_1).f2),.int .u64 ((rd_T28 l0_1 x10_1).f3),.string ((rd_T28 l0_1 x10_1).f4),.int .u64 ((rd_T28 l0_1 x10_1).f5)]] rfl (by (try simp only [List.map_toArray,List.map_cons,List.map_nil]);first|done|rfl|(simp only [List.length_drop,List.length_take];rfl)) ?_;(with_reducible refine (doorwardref17_closed.calls a0_0 ((rd_T28 l0_1 x10_1).f0) _ _ ((rd_T28 l0_1 x10_1).f1) ((rd_T28 l0_1 x10_1).f2) ((rd_T28 l0_1 x10_1).f3) ((rd_T28 l0_1 x10_1).f4) ((rd_T28 l0_1 x10_1).f5) t189 _ ?side1 ?side2 ?side3 A8.out).mono ?_);(case side1 => repeat (first|exact (Kd.C_below HR186_1.out HB.out)|(with_reducible refine Kd.C_alloc ?_ _)|(with_reducible refine Kd.C_drewN ?_ _)|(with_reducible refine Kd.C_drew ?_)));(case side2 => exact HC186_1.out);(case side3 => exact LaidAt.of HLD.out (by repeat (first|(with_reducible first|exact HB.out|apply below_alloc|apply pw_below_drewN|apply below_drew1|refine below_set ?_ GE185.out|refine below_set ?_ GE187.out)|exact HB.out)));rintro e w16 ⟨rfl,hb⟩;refine ⟨_,rfl,?_⟩;have n0_:=Aside0.mk (blk_below (g:=gb185) (o:=.cells #[.int .i64 a0_0,.slice (some ad186) l0_1.length c0_1,.int .i64 a0_2,.int .u64 a0_3,.string a0_4,.int .u64 a0_5] 28 (0,0)) (by (with_reducible repeat (first|refine zN ?_|refine zD ?_|refine zA ?_));exact BK185.out) hb);have n1_:=Aside0.mk (blk_below (g:=gb187) (o:=.cells #[.int .i64 ((rd_T28 l0_1 x10_1).f0),.slice A186_1 ((rd_T28 l0_1 x10_1).f1).length c186_1,.int .i64 ((rd_T28 l0_1 x10_1).f2),.int .u64 ((rd_T28 l0_1 x10_1).f3),.string ((rd_T28 l0_1 x10_1).f4),.int .u64 ((rd_T28 l0_1 x10_1).f5)] 28 (0,0)) (by (with_reducible repeat (first|refine zN ?_|refine zD ?_|refine zA ?_));exact BK187.out) hb);have n2_:=Aside0.mk (below_step (by repeat (first|(with_reducible first|exact HB.out|apply below_alloc|apply pw_below_drewN|apply below_drew1|refine below_set ?_ GE185.out|refine below_set ?_ GE187.out)|exact HB.out)) hb);clear BK185;clear BK187;clear HB;have BK185:=n0_;have BK187:=n1_;have HB:=n2_;clear n0_ n1_ n2_;(try clear hb);(try clear hb2);(try clear hk);(try clear hi)))
      (try simp only [Act.put,List.setIfInBounds_toArray,List.set_cons_zero,List.set_cons_succ])
      go_cut [6] (fun v6 wc =>∃(kq:Nat) (x6_8:Int),v6=.int .i64 x6_8∧Aside0 (doorwardref17_Depth.j1 kq x3_1 x6_8 l0_1 (l0_1.length:Int) x10_1 a0_0 l0_1 a0_2 a0_3 a0_4 a0_5=some r)∧Aside0 (kq≤k1)∧Aside0 (wc.heap[gb185]?=some (.cells #[.int .i64 a0_0,(.slice (some ad186) l0_1.length c0_1),.int .i64 a0_2,.int .u64 a0_3,.string a0_4,.int .u64 a0_5] 28 (0,0)))∧Aside0 (wc.heap[gb187]?=some (.cells #[.int .i64 ((rd_T28 l0_1 x10_1).f0),(.slice A186_1 ((rd_T28 l0_1 x10_1).f1).length c186_1),.int .i64 ((rd_T28 l0_1 x10_1).f2),.int .u64 ((rd_T28 l0_1 x10_1).f3),.string ((rd_T28 l0_1 x10_1).f4),.int .u64 ((rd_T28 l0_1 x10_1).f5)] 28 (0,0)))∧Aside0 (Below w.heap.size w wc))
      case first =>
       have H:=HC9.out
       clear HC9
       by_cases c17:t189=true
       ·subst c17
        have H1:(doorwardref17_Depth.j1 k1 x3_1 (wrap64 (t188+1)) l0_1 (l0_1.length:Int) x10_1 a0_0 l0_1 a0_2 a0_3 a0_4 a0_5)=some r:=by rw [if_pos rfl] at H;exact H
        clear H
        have H:=H1
        clear H1
        have H':=Aside0.mk H
        clear H
        go_wp2
        go_meet
        case rel => exact ⟨_,(wrap64 (t188+1)),(by first|rfl|(simp;done)|(simp [*];done)),H',⟨by have:=HK1.out;first|omega|exact Nat.le_refl _⟩,⟨by (with_reducible repeat (first|refine zN ?_|refine zD ?_|refine zA ?_));exact BK185.out⟩,⟨by (with_reducible repeat (first|refine zN ?_|refine zD ?_|refine zA ?_));exact BK187.out⟩,⟨by repeat (first|(with_reducible first|exact HB.out|apply below_alloc|apply pw_below_drewN|apply below_drew1|refine below_set ?_ GE185.out|refine below_set ?_ GE187.out)|exact HB.out)⟩⟩
       ·replace c17:=Bool.eq_false_iff.mpr c17
        subst c17
        have H1:(doorwardref17_Depth.j1 k1 x3_1 t188 l0_1 (l0_1.length:Int) x10_1 a0_0 l0_1 a0_2 a0_3 a0_4 a0_5)=some r:=by rw [if_neg (show ¬ (false=true) by decide)] at H;exact H
        clear H
        have H:=H1
        clear H1
        have H':=Aside0.mk H
        clear H
        go_wp2
        go_meet
        case rel => exact ⟨_,(t188),(by first|rfl|(simp;done)|(simp [*];done)),H',⟨by have:=HK1.out;first|omega|exact Nat.le_refl _⟩,⟨by (with_reducible repeat (first|refine zN ?_|refine zD ?_|refine zA ?_));exact BK185.out⟩,⟨by (with_reducible repeat (first|refine zN ?_|refine zD ?_|refine zA ?_));exact BK187.out⟩,⟨by repeat (first|(with_reducible first|exact HB.out|apply below_alloc|apply pw_below_drewN|apply below_drew1|refine below_set ?_ GE185.out|refine below_set ?_ GE187.out)|exact HB.out)⟩⟩
      case rest =>
       clear HC9
       obtain ⟨kq,x6_8,rfl,HA,HJ8,BK185,BK187,HB⟩:=hcut
       cases kq with
       |  zero => exact absurd HA.out (by simp [doorwardref17_Depth.j1])
       |  succ kj8 =>
        have H:=HA.out
        clear HA
        simp only [doorwardref17_Depth.j1] at H
        by_cases c18:a0_0=3
        ·rw [if_pos c18] at H
         have c18b0:(a0_0==3)=true:=beq_iff_eq.mpr c18
         have c18b1:(a0_0 != 3)=false:=bne_eq_false_iff_eq.mpr c18
         clear c18
         by_cases c19:(wrap64 (x6_8+1))>x3_1
         ·rw [if_pos c19] at H
          have c19b0:decide (x3_1<(wrap64 (x6_8+1)))=true:=decide_eq_true c19
          clear c19
          have H':=Aside0.mk H
          clear H
          have hnb20:=NB185_187.out
          have hnc20:=NB187_185.out
          have hcz21_0:wc.cell? ⟨gb185,0,none⟩=some (.int .i64 a0_0):=(blk_cell BK185.out 0).trans rfl
          have hcz21_1:wc.cell? ⟨gb185,1,none⟩=some (.slice (some ad186) l0_1.length c0_1):=(blk_cell BK185.out 1).trans rfl
          have hcz21_2:wc.cell? ⟨gb185,2,none⟩=some (.int .i64 a0_2):=(blk_cell BK185.out 2).trans rfl
          have hcz21_3:wc.cell? ⟨gb185,3,none⟩=some (.int .u64 a0_3):=(blk_cell BK185.out 3).trans rfl
          have hcz21_4:wc.cell? ⟨gb185,4,none⟩=some (.string a0_4):=(blk_cell BK185.out 4).trans rfl
          have hcz21_5:wc.cell? ⟨gb185,5,none⟩=some (.int .u64 a0_5):=(blk_cell BK185.out 5).trans rfl
          have hfz21_0:=blk_frozen BK185.out 0
          have hfz21_1:=blk_frozen BK185.out 1
          have hfz21_2:=blk_frozen BK185.out 2
          have hfz21_3:=blk_frozen BK185.out 3
          have hfz21_4:=blk_frozen BK185.out 4
          have hfz21_5:=blk_frozen BK185.out 5
          go_wp2
          go_roundg kj8
          case measure => have:=HK1.out;have:=HJ8.out;omega
          case rel => exact ⟨(wrap64 (x6_8+1)),(wrap64 (x10_1+1)),(by first|rfl|(simp;done)|(simp [*];done)),(by first|rfl|(simp;done)|(simp [*];done)),H',⟨by have:=HK1.out;have:=HJ8.out;omega⟩,⟨by (with_reducible repeat (first|refine zN ?_|refine zD ?_|refine zA ?_));exact BK185.out⟩,⟨by repeat (first|(with_reducible first|exact HB.out|apply below_alloc|apply pw_below_drewN|apply below_drew1|refine below_set ?_ GE185.out|refine below_set ?_ GE187.out)|exact HB.out)⟩⟩
         ·rw [if_neg c19] at H
          have c19b0:decide (x3_1<(wrap64 (x6_8+1)))=false:=decide_eq_false c19
          clear c19
          have H':=Aside0.mk H
          clear H
          have hnb22:=NB185_187.out
          have hnc22:=NB187_185.out
          have hcz23_0:wc.cell? ⟨gb185,0,none⟩=some (.int .i64 a0_0):=(blk_cell BK185.out 0).trans rfl
          have hcz23_1:wc.cell? ⟨gb185,1,none⟩=some (.slice (some ad186) l0_1.length c0_1):=(blk_cell BK185.out 1).trans rfl
          have hcz23_2:wc.cell? ⟨gb185,2,none⟩=some (.int .i64 a0_2):=(blk_cell BK185.out 2).trans rfl
          have hcz23_3:wc.cell? ⟨gb185,3,none⟩=some (.int .u64 a0_3):=(blk_cell BK185.out 3).trans rfl
          have hcz23_4:wc.cell? ⟨gb185,4,none⟩=some (.string a0_4):=(blk_cell BK185.out 4).trans rfl
          have hcz23_5:wc.cell? ⟨gb185,5,none⟩=some (.int .u64 a0_5):=(blk_cell BK185.out 5).trans rfl
          have hfz23_0:=blk_frozen BK185.out 0
          have hfz23_1:=blk_frozen BK185.out 1
          have hfz23_2:=blk_frozen BK185.out 2
          have hfz23_3:=blk_frozen BK185.out 3
          have hfz23_4:=blk_frozen BK185.out 4
          have hfz23_5:=blk_frozen BK185.out 5
          go_wp2
          go_roundg kj8
          case measure => have:=HK1.out;have:=HJ8.out;omega
          case rel => exact ⟨(x3_1),(wrap64 (x10_1+1)),(by first|rfl|(simp;done)|(simp [*];done)),(by first|rfl|(simp;done)|(simp [*];done)),H',⟨by have:=HK1.out;have:=HJ8.out;omega⟩,⟨by (with_reducible repeat (first|refine zN ?_|refine zD ?_|refine zA ?_));exact BK185.out⟩,⟨by repeat (first|(with_reducible first|exact HB.out|apply below_alloc|apply pw_below_drewN|apply below_drew1|refine below_set ?_ GE185.out|refine below_set ?_ GE187.out)|exact HB.out)⟩⟩
        ·rw [if_neg c18] at H
         have c18b0:(a0_0==3)=false:=beq_eq_false_iff_ne.mpr c18
         have c18b1:(a0_0 != 3)=true:=bne_iff_ne.mpr c18
         by_cases c24:x6_8>x3_1
         ·rw [if_pos c24] at H
          have c24b0:decide (x3_1<x6_8)=true:=decide_eq_true c24
          clear c24
          have H':=Aside0.mk H
          clear H
          have hnb25:=NB185_187.out
          have hnc25:=NB187_185.out
          have hcz26_0:wc.cell? ⟨gb185,0,none⟩=some (.int .i64 a0_0):=(blk_cell BK185.out 0).trans rfl
          have hcz26_1:wc.cell? ⟨gb185,1,none⟩=some (.slice (some ad186) l0_1.length c0_1):=(blk_cell BK185.out 1).trans rfl
          have hcz26_2:wc.cell? ⟨gb185,2,none⟩=some (.int .i64 a0_2):=(blk_cell BK185.out 2).trans rfl
          have hcz26_3:wc.cell? ⟨gb185,3,none⟩=some (.int .u64 a0_3):=(blk_cell BK185.out 3).trans rfl
          have hcz26_4:wc.cell? ⟨gb185,4,none⟩=some (.string a0_4):=(blk_cell BK185.out 4).trans rfl
          have hcz26_5:wc.cell? ⟨gb185,5,none⟩=some (.int .u64 a0_5):=(blk_cell BK185.out 5).trans rfl
          have hfz26_0:=blk_frozen BK185.out 0
          have hfz26_1:=blk_frozen BK185.out 1
          have hfz26_2:=blk_frozen BK185.out 2
          have hfz26_3:=blk_frozen BK185.out 3
          have hfz26_4:=blk_frozen BK185.out 4
          have hfz26_5:=blk_frozen BK185.out 5
          go_wp2
          go_roundg kj8
          case measure => have:=HK1.out;have:=HJ8.out;omega
          case rel => exact ⟨(x6_8),(wrap64 (x10_1+1)),(by first|rfl|(simp;done)|(simp [*];done)),(by first|rfl|(simp;done)|(simp [*];done)),H',⟨by have:=HK1.out;have:=HJ8.out;omega⟩,⟨by (with_reducible repeat (first|refine zN ?_|refine zD ?_|refine zA ?_));exact BK185.out⟩,⟨by repeat (first|(with_reducible first|exact HB.out|apply below_alloc|apply pw_below_drewN|apply below_drew1|refine below_set ?_ GE185.out|refine below_set ?_ GE187.out)|exact HB.out)⟩⟩
         ·rw [if_neg c24] at H
          have c24b0:decide (x3_1<x6_8)=false:=decide_eq_false c24
          clear c24
          have H':=Aside0.mk H
          clear H
          have hnb27:=NB185_187.out
          have hnc27:=NB187_185.out
          have hcz28_0:wc.cell? ⟨gb185,0,none⟩=some (.int .i64 a0_0):=(blk_cell BK185.out 0).trans rfl
          have hcz28_1:wc.cell? ⟨gb185,1,none⟩=some (.slice (some ad186) l0_1.length c0_1):=(blk_cell BK185.out 1).trans rfl
          have hcz28_2:wc.cell? ⟨gb185,2,none⟩=some (.int .i64 a0_2):=(blk_cell BK185.out 2).trans rfl
          have hcz28_3:wc.cell? ⟨gb185,3,none⟩=some (.int .u64 a0_3):=(blk_cell BK185.out 3).trans rfl
          have hcz28_4:wc.cell? ⟨gb185,4,none⟩=some (.string a0_4):=(blk_cell BK185.out 4).trans rfl
          have hcz28_5:wc.cell? ⟨gb185,5,none⟩=some (.int .u64 a0_5):=(blk_cell BK185.out 5).trans rfl
          have hfz28_0:=blk_frozen BK185.out 0
          have hfz28_1:=blk_frozen BK185.out 1
          have hfz28_2:=blk_frozen BK185.out 2
          have hfz28_3:=blk_frozen BK185.out 3
          have hfz28_4:=blk_frozen BK185.out 4
          have hfz28_5:=blk_frozen BK185.out 5
          go_wp2
          go_roundg kj8
          case measure => have:=HK1.out;have:=HJ8.out;omega
          case rel => exact ⟨(x3_1),(wrap64 (x10_1+1)),(by first|rfl|(simp;done)|(simp [*];done)),(by first|rfl|(simp;done)|(simp [*];done)),H',⟨by have:=HK1.out;have:=HJ8.out;omega⟩,⟨by (with_reducible repeat (first|refine zN ?_|refine zD ?_|refine zA ?_));exact BK185.out⟩,⟨by repeat (first|(with_reducible first|exact HB.out|apply below_alloc|apply pw_below_drewN|apply below_drew1|refine below_set ?_ GE185.out|refine below_set ?_ GE187.out)|exact HB.out)⟩⟩
     ·rw [if_neg c6] at H
      exact absurd H (by simp)
    ·rw [if_neg c5] at H
     exact absurd H (by simp)
   ·rw [if_neg c4] at H
    have c4b0:decide (x10_1<(l0_1.length:Int))=false:=decide_eq_false c4
    clear c4
    obtain rfl:=Option.some.inj H
    go_wp2
    go_ret
    exact ⟨by first|rfl|(simp [errW_none,errW_some]<;>rfl)|(simp [*,errW_none,errW_some]<;>rfl),by repeat (first|(with_reducible first|exact HB.out|apply below_alloc|apply pw_below_drewN|apply below_drew1|refine below_set ?_ GE185.out)|exact HB.out)⟩

end Go.Proofs.YtdfjjimmnbijmaaGreatDoor.ZQ

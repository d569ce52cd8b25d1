-- Written for this claim by myprint.py over the kit's print (functions of this session supplied)
import Derived.Test.YtdfjjimmnbijmaaGreatDoorZQ0
import Derived.Test.YtdfjjimmnbijmaaGreatDoorZQ3
import Derived.Test.YtdfjjimmnbijmaaGreatDoorZQ5
namespace Go.Proofs.YtdfjjimmnbijmaaGreatDoor.ZQ
open Go.RowKit Go.Proofs.YtdfjjimmnbijmaaGreatDoorW.PrintWords Go.Proofs.YtdfjjimmnbijmaaGreatDoorW.PrintLast Go.Proofs.YtdfjjimmnbijmaaGreatDoorW.PrintMore Go.Proofs.YtdfjjimmnbijmaaGreatDoor.Base
attribute [local go_sem] max2_int min2_int max_two min_two max_three min_three max_four min_four   -- for this text's walks alone
set_option linter.unusedVariables false
set_option linter.unusedSimpArgs false

/-! ### show_Cond: function 12 -/
def show_Cond.f (a0_0:Int) (l0_1:List (S28)) (a0_2:Int) (a0_3:Int) (a0_4:ByteArray) (a0_5:Int):Option (ByteArray × Int):=(types_Right.f a0_0 l0_1 a0_2 a0_3 a0_4 a0_5).bind fun t116 => (if t116=true then ((show_write.f a0_0 l0_1 a0_2 a0_3 a0_4 a0_5).bind fun t117 => (some (t117,0))) else (some ((⟨#[]⟩:ByteArray),1)))
set_option maxHeartbeats 8000000 in
set_option maxRecDepth 100000 in
theorem show_Cond.calls (a0_0:Int) (A0_1:Option Addr) (c0_1:Nat) (l0_1:List (S28)) (a0_2:Int) (a0_3:Int) (a0_4:ByteArray) (a0_5:Int) (r1:ByteArray) (r2:Int) (w:World) (hr0_1:Kd.C k28 w A0_1 l0_1.length l0_1) (hc0_1:l0_1.length≤c0_1) (hLd:LaidAt w) (h:show_Cond.f a0_0 l0_1 a0_2 a0_3 a0_4 a0_5=some (r1,r2)) :
  Calls Tryz.prog 12 #[.agg #[.int .i64 a0_0,.slice A0_1 l0_1.length c0_1,.int .i64 a0_2,.int .u64 a0_3,.string a0_4,.int .u64 a0_5]] w fun e w' => e=.returned (.tuple #[.string r1,.int .i64 r2])∧Below w.heap.size w w':=by
 have hu28:=Tryz.underlying28
 have HLD:=Aside0.mk hLd
 clear hLd
 have HR0_1:=Aside0.mk hr0_1
 have HC0_1:=Aside0.mk hc0_1
 clear hr0_1 hc0_1
 have HB:=Aside0.mk (Below.refl w.heap.size w)
 have H:((types_Right.f a0_0 l0_1 a0_2 a0_3 a0_4 a0_5).bind fun t116 => (if t116=true then ((show_write.f a0_0 l0_1 a0_2 a0_3 a0_4 a0_5).bind fun t117 => (some (t117,0))) else (some ((⟨#[]⟩:ByteArray),1))))=some (r1,r2):=h
 clear h
 replace H:=Option.bind_eq_some_iff.mp H
 obtain ⟨t116,A20,H⟩:=H
 replace H:(if t116=true then ((show_write.f a0_0 l0_1 a0_2 a0_3 a0_4 a0_5).bind fun t117 => (some (t117,0))) else (some ((⟨#[]⟩:ByteArray),1)))=some (r1,r2):=H
 have A2:=Aside0.mk A20
 clear A20
 by_cases c3:t116=true
 ·subst c3
  have H1:((show_write.f a0_0 l0_1 a0_2 a0_3 a0_4 a0_5).bind fun t117 => (some (t117,0)))=some (r1,r2):=by rw [if_pos rfl] at H;exact H
  clear H
  have H:=H1
  clear H1
  replace H:=Option.bind_eq_some_iff.mp H
  obtain ⟨t117,A40,H⟩:=H
  replace H:(some (t117,0))=some (r1,r2):=H
  have A4:=Aside0.mk A40
  clear A40
  simp only [Option.some.injEq,Prod.mk.injEq] at H
  obtain ⟨rfl,rfl⟩:=H
  go_enter Tryz.func12,Tryz.ntmps12
  go_wp2_with (first|((with_reducible refine gate_dst (N:=1) rfl ?_);refine box_event ?hg (N:=1) ?hd (cs:=#[.int .i64 a0_0,.slice A0_1 l0_1.length c0_1,.int .i64 a0_2,.int .u64 a0_3,.string a0_4,.int .u64 a0_5]) (t:=28) ?hr ?_;(case hd => rfl);(case hg => rfl);(case hr => first|(go_simp;done)|(go_simp;rfl));intro gb115 hg w5 hbox hb;have n0_:=Aside0.mk (below_step (by repeat (with_reducible first|exact HB.out|apply below_alloc|apply pw_below_drewN|apply below_drew1)) hb);have n1_:=Aside0.mk (hbox);have n2_:=Aside0.mk ((by rw [hg];exact (below_size (by repeat (with_reducible first|exact HB.out|apply below_alloc|apply pw_below_drewN|apply below_drew1))):w.heap.size≤gb115));have n3_:=Aside0.mk ((by rw [hg];exact (below_size (by repeat (with_reducible first|exact HB.out|apply below_alloc|apply pw_below_drewN|apply below_drew1))):w.heap.size≤gb115));clear HB;have HB:=n0_;have BK115:=n1_;have GW115:=n2_;have GE115:=n3_;clear n0_ n1_ n2_ n3_;clear hb hbox hg;have hcz6_0:w5.cell? ⟨gb115,0,none⟩=some (.int .i64 a0_0):=(blk_cell BK115.out 0).trans rfl;have hcz6_1:w5.cell? ⟨gb115,1,none⟩=some (.slice A0_1 l0_1.length c0_1):=(blk_cell BK115.out 1).trans rfl;have hcz6_2:w5.cell? ⟨gb115,2,none⟩=some (.int .i64 a0_2):=(blk_cell BK115.out 2).trans rfl;have hcz6_3:w5.cell? ⟨gb115,3,none⟩=some (.int .u64 a0_3):=(blk_cell BK115.out 3).trans rfl;have hcz6_4:w5.cell? ⟨gb115,4,none⟩=some (.string a0_4):=(blk_cell BK115.out 4).trans rfl;have hcz6_5:w5.cell? ⟨gb115,5,none⟩=some (.int .u64 a0_5):=(blk_cell BK115.out 5).trans rfl;have hfz6_0:=blk_frozen BK115.out 0;have hfz6_1:=blk_frozen BK115.out 1;have hfz6_2:=blk_frozen BK115.out 2;have hfz6_3:=blk_frozen BK115.out 3;have hfz6_4:=blk_frozen BK115.out 4;have hfz6_5:=blk_frozen BK115.out 5)|((with_reducible refine gate_callee (f:=22) rfl ?_);refine goesL_ (some 5) rfl rfl Tryz.func22 (by kernel_rfl) rfl #[.agg #[.int .i64 a0_0,.slice A0_1 l0_1.length c0_1,.int .i64 a0_2,.int .u64 a0_3,.string a0_4,.int .u64 a0_5]] rfl (by (try simp only [List.map_toArray,List.map_cons,List.map_nil]);first|done|rfl|(simp only [List.length_drop,List.length_take];rfl)) ?_;(with_reducible refine (types_Right.calls a0_0 _ _ l0_1 a0_2 a0_3 a0_4 a0_5 true _ ?side1 ?side2 ?side3 A2.out).mono ?_);(case side1 => repeat (first|exact (Kd.C_below HR0_1.out HB.out)|(with_reducible refine Kd.C_alloc ?_ _)|(with_reducible refine Kd.C_drewN ?_ _)|(with_reducible refine Kd.C_drew ?_)));(case side2 => exact HC0_1.out);(case side3 => exact LaidAt.of HLD.out (by repeat (first|(with_reducible first|exact HB.out|apply below_alloc|apply pw_below_drewN|apply below_drew1|refine below_set ?_ GE115.out)|exact HB.out)));rintro e w7 ⟨rfl,hb⟩;refine ⟨_,rfl,?_⟩;have n0_:=Aside0.mk (blk_below (g:=gb115) (o:=.cells #[.int .i64 a0_0,.slice A0_1 l0_1.length c0_1,.int .i64 a0_2,.int .u64 a0_3,.string a0_4,.int .u64 a0_5] 28 (0,0)) (by (with_reducible repeat (first|refine zN ?_|refine zD ?_|refine zA ?_));exact BK115.out) hb);have n1_:=Aside0.mk (below_step (by repeat (first|(with_reducible first|exact HB.out|apply below_alloc|apply pw_below_drewN|apply below_drew1|refine below_set ?_ GE115.out)|exact HB.out)) hb);clear BK115;clear HB;have BK115:=n0_;have HB:=n1_;clear n0_ n1_;(try clear hb);(try clear hb2);(try clear hk);(try clear hi);have hcz8_0:w7.cell? ⟨gb115,0,none⟩=some (.int .i64 a0_0):=(blk_cell BK115.out 0).trans rfl;have hcz8_1:w7.cell? ⟨gb115,1,none⟩=some (.slice A0_1 l0_1.length c0_1):=(blk_cell BK115.out 1).trans rfl;have hcz8_2:w7.cell? ⟨gb115,2,none⟩=some (.int .i64 a0_2):=(blk_cell BK115.out 2).trans rfl;have hcz8_3:w7.cell? ⟨gb115,3,none⟩=some (.int .u64 a0_3):=(blk_cell BK115.out 3).trans rfl;have hcz8_4:w7.cell? ⟨gb115,4,none⟩=some (.string a0_4):=(blk_cell BK115.out 4).trans rfl;have hcz8_5:w7.cell? ⟨gb115,5,none⟩=some (.int .u64 a0_5):=(blk_cell BK115.out 5).trans rfl;have hfz8_0:=blk_frozen BK115.out 0;have hfz8_1:=blk_frozen BK115.out 1;have hfz8_2:=blk_frozen BK115.out 2;have hfz8_3:=blk_frozen BK115.out 3;have hfz8_4:=blk_frozen BK115.out 4;have hfz8_5:=blk_frozen BK115.out 5)|((with_reducible refine gate_callee (f:=23) rfl ?_);refine goesL_ (some 8) rfl rfl Tryz.func23 (by kernel_rfl) rfl #[.agg #[.int .i64 a0_0,.slice A0_1 l0_1.length c0_1,.int .i64 a0_2,.int .u64 a0_3,.string a0_4,.int .u64 a0_5]] rfl (by (try simp only [List.map_toArray,List.map_cons,List.map_nil]);first|done|rfl|(simp only [List.length_drop,List.length_take];rfl)) ?_;(with_reducible refine (show_write.calls a0_0 _ _ l0_1 a0_2 a0_3 a0_4 a0_5 t117 _ ?side1 ?side2 ?side3 A4.out).mono ?_);(case side1 => repeat (first|exact (Kd.C_below HR0_1.out HB.out)|(with_reducible refine Kd.C_alloc ?_ _)|(with_reducible refine Kd.C_drewN ?_ _)|(with_reducible refine Kd.C_drew ?_)));(case side2 => exact HC0_1.out);(case side3 => exact LaidAt.of HLD.out (by repeat (first|(with_reducible first|exact HB.out|apply below_alloc|apply pw_below_drewN|apply below_drew1|refine below_set ?_ GE115.out)|exact HB.out)));rintro e w9 ⟨rfl,hb⟩;refine ⟨_,rfl,?_⟩;have n0_:=Aside0.mk (blk_below (g:=gb115) (o:=.cells #[.int .i64 a0_0,.slice A0_1 l0_1.length c0_1,.int .i64 a0_2,.int .u64 a0_3,.string a0_4,.int .u64 a0_5] 28 (0,0)) (by (with_reducible repeat (first|refine zN ?_|refine zD ?_|refine zA ?_));exact BK115.out) hb);have n1_:=Aside0.mk (below_step (by repeat (first|(with_reducible first|exact HB.out|apply below_alloc|apply pw_below_drewN|apply below_drew1|refine below_set ?_ GE115.out)|exact HB.out)) hb);clear BK115;clear HB;have BK115:=n0_;have HB:=n1_;clear n0_ n1_;(try clear hb);(try clear hb2);(try clear hk);(try clear hi)))
  go_ret2
  exact ⟨by first|rfl|(simp [errW_none,errW_some]<;>rfl)|(simp [*,errW_none,errW_some]<;>rfl),by repeat (first|(with_reducible first|exact HB.out|apply below_alloc|apply pw_below_drewN|apply below_drew1|refine below_set ?_ GE115.out)|exact HB.out)⟩
 ·replace c3:=Bool.eq_false_iff.mpr c3
  subst c3
  have H1:(some ((⟨#[]⟩:ByteArray),1))=some (r1,r2):=by rw [if_neg (show ¬ (false=true) by decide)] at H;exact H
  clear H
  have H:=H1
  clear H1
  simp only [Option.some.injEq,Prod.mk.injEq] at H
  obtain ⟨rfl,rfl⟩:=H
  go_enter Tryz.func12,Tryz.ntmps12
  go_wp2_with (first|((with_reducible refine gate_dst (N:=1) rfl ?_);refine box_event ?hg (N:=1) ?hd (cs:=#[.int .i64 a0_0,.slice A0_1 l0_1.length c0_1,.int .i64 a0_2,.int .u64 a0_3,.string a0_4,.int .u64 a0_5]) (t:=28) ?hr ?_;(case hd => rfl);(case hg => rfl);(case hr => first|(go_simp;done)|(go_simp;rfl));intro gb115 hg w10 hbox hb;have n0_:=Aside0.mk (below_step (by repeat (with_reducible first|exact HB.out|apply below_alloc|apply pw_below_drewN|apply below_drew1)) hb);have n1_:=Aside0.mk (hbox);have n2_:=Aside0.mk ((by rw [hg];exact (below_size (by repeat (with_reducible first|exact HB.out|apply below_alloc|apply pw_below_drewN|apply below_drew1))):w.heap.size≤gb115));have n3_:=Aside0.mk ((by rw [hg];exact (below_size (by repeat (with_reducible first|exact HB.out|apply below_alloc|apply pw_below_drewN|apply below_drew1))):w.heap.size≤gb115));clear HB;have HB:=n0_;have BK115:=n1_;have GW115:=n2_;have GE115:=n3_;clear n0_ n1_ n2_ n3_;clear hb hbox hg;have hcz11_0:w10.cell? ⟨gb115,0,none⟩=some (.int .i64 a0_0):=(blk_cell BK115.out 0).trans rfl;have hcz11_1:w10.cell? ⟨gb115,1,none⟩=some (.slice A0_1 l0_1.length c0_1):=(blk_cell BK115.out 1).trans rfl;have hcz11_2:w10.cell? ⟨gb115,2,none⟩=some (.int .i64 a0_2):=(blk_cell BK115.out 2).trans rfl;have hcz11_3:w10.cell? ⟨gb115,3,none⟩=some (.int .u64 a0_3):=(blk_cell BK115.out 3).trans rfl;have hcz11_4:w10.cell? ⟨gb115,4,none⟩=some (.string a0_4):=(blk_cell BK115.out 4).trans rfl;have hcz11_5:w10.cell? ⟨gb115,5,none⟩=some (.int .u64 a0_5):=(blk_cell BK115.out 5).trans rfl;have hfz11_0:=blk_frozen BK115.out 0;have hfz11_1:=blk_frozen BK115.out 1;have hfz11_2:=blk_frozen BK115.out 2;have hfz11_3:=blk_frozen BK115.out 3;have hfz11_4:=blk_frozen BK115.out 4;have hfz11_5:=blk_frozen BK115.out 5)|((with_reducible refine gate_callee (f:=22) rfl ?_);refine goesL_ (some 5) rfl rfl Tryz.func22 (by kernel_rfl) rfl #[.agg #[.int .i64 a0_0,.slice A0_1 l0_1.length c0_1,.int .i64 a0_2,.int .u64 a0_3,.string a0_4,.int .u64 a0_5]] rfl (by (try simp only [List.map_toArray,List.map_cons,List.map_nil]);first|done|rfl|(simp only [List.length_drop,List.length_take];rfl)) ?_;(with_reducible refine (types_Right.calls a0_0 _ _ l0_1 a0_2 a0_3 a0_4 a0_5 false _ ?side1 ?side2 ?side3 A2.out).mono ?_);(case side1 => repeat (first|exact (Kd.C_below HR0_1.out HB.out)|(with_reducible refine Kd.C_alloc ?_ _)|(with_reducible refine Kd.C_drewN ?_ _)|(with_reducible refine Kd.C_drew ?_)));(case side2 => exact HC0_1.out);(case side3 => exact LaidAt.of HLD.out (by repeat (first|(with_reducible first|exact HB.out|apply below_alloc|apply pw_below_drewN|apply below_drew1|refine below_set ?_ GE115.out)|exact HB.out)));rintro e w12 ⟨rfl,hb⟩;refine ⟨_,rfl,?_⟩;have n0_:=Aside0.mk (blk_below (g:=gb115) (o:=.cells #[.int .i64 a0_0,.slice A0_1 l0_1.length c0_1,.int .i64 a0_2,.int .u64 a0_3,.string a0_4,.int .u64 a0_5] 28 (0,0)) (by (with_reducible repeat (first|refine zN ?_|refine zD ?_|refine zA ?_));exact BK115.out) hb);have n1_:=Aside0.mk (below_step (by repeat (first|(with_reducible first|exact HB.out|apply below_alloc|apply pw_below_drewN|apply below_drew1|refine below_set ?_ GE115.out)|exact HB.out)) hb);clear BK115;clear HB;have BK115:=n0_;have HB:=n1_;clear n0_ n1_;(try clear hb);(try clear hb2);(try clear hk);(try clear hi)))
  go_ret2
  exact ⟨by first|rfl|(simp [errW_none,errW_some]<;>rfl)|(simp [*,errW_none,errW_some]<;>rfl),by repeat (first|(with_reducible first|exact HB.out|apply below_alloc|apply pw_below_drewN|apply below_drew1|refine below_set ?_ GE115.out)|exact HB.out)⟩

/-! ### lex_letter: function 48 -/
def lex_letter.f (a0:Int):Option (Bool):=if a0 ≥ 97 then (if a0≤122 then (some true) else (some (a0==95))) else (some (a0==95))
set_option maxHeartbeats 8000000 in
set_option maxRecDepth 100000 in
theorem lex_letter.calls (a0:Int) (r:Bool) (w:World) (hLd:LaidAt w) (h:lex_letter.f a0=some r) :
  Calls Tryz.prog 48 #[.int .u8 a0] w fun e w' => e=.returned (.bool r)∧Drawn0 w w':=by
 have HLD:=Aside0.mk hLd
 clear hLd
 have H:(if a0 ≥ 97 then (if a0≤122 then (some true) else (some (a0==95))) else (some (a0==95)))=some r:=h
 clear h
 by_cases c2:a0 ≥ 97
 ·rw [if_pos c2] at H
  have c2b0:decide (97≤a0)=true:=decide_eq_true c2
  clear c2
  by_cases c3:a0≤122
  ·rw [if_pos c3] at H
   have c3b0:decide (a0≤122)=true:=decide_eq_true c3
   clear c3
   obtain rfl:=Option.some.inj H
   go_enter Tryz.func48,Tryz.ntmps48
   go_wp2
   go_ret
   exact ⟨by first|rfl|(simp;done)|(simp [*];done),by repeat (first|exact Drawn0.refl _|apply Drawn0.step)⟩
  ·rw [if_neg c3] at H
   have c3b0:decide (a0≤122)=false:=decide_eq_false c3
   clear c3
   obtain rfl:=Option.some.inj H
   go_enter Tryz.func48,Tryz.ntmps48
   go_wp2
   go_ret
   exact ⟨by first|rfl|(simp;done)|(simp [*];done),by repeat (first|exact Drawn0.refl _|apply Drawn0.step)⟩
 ·rw [if_neg c2] at H
  have c2b0:decide (97≤a0)=false:=decide_eq_false c2
  clear c2
  obtain rfl:=Option.some.inj H
  go_enter Tryz.func48,Tryz.ntmps48
  go_wp2
  go_ret
  exact ⟨by first|rfl|(simp;done)|(simp [*];done),by repeat (first|exact Drawn0.refl _|apply Drawn0.step)⟩

/-! ### lex_digit: function 50 -/
def lex_digit.f (a0:Int):Option (Bool):=if a0 ≥ 48 then (some (decide (a0≤57))) else (some false)
set_option maxHeartbeats 8000000 in
set_option maxRecDepth 100000 in
theorem lex_digit.calls (a0:Int) (r:Bool) (w:World) (hLd:LaidAt w) (h:lex_digit.f a0=some r) :
  Calls Tryz.prog 50 #[.int .u8 a0] w fun e w' => e=.returned (.bool r)∧Drawn0 w w':=by
 have HLD:=Aside0.mk hLd
 clear hLd
 have H:(if a0 ≥ 48 then (some (decide (a0≤57))) else (some false))=some r:=h
 clear h
 by_cases c2:a0 ≥ 48
 ·rw [if_pos c2] at H
  have c2b0:decide (48≤a0)=true:=decide_eq_true c2
  clear c2
  obtain rfl:=Option.some.inj H
  go_enter Tryz.func50,Tryz.ntmps50
  go_wp2
  go_ret
  exact ⟨by first|rfl|(simp;done)|(simp [*];done),by repeat (first|exact Drawn0.refl _|apply Drawn0.step)⟩
 ·rw [if_neg c2] at H
  have c2b0:decide (48≤a0)=false:=decide_eq_false c2
  clear c2
  obtain rfl:=Option.some.inj H
  go_enter Tryz.func50,Tryz.ntmps50
  go_wp2
  go_ret
  exact ⟨by first|rfl|(simp;done)|(simp [*];done),by repeat (first|exact Drawn0.refl _|apply Drawn0.step)⟩

/-! ### lex_either: function 49 -/
def lex_either.f (a0:Int):Option (Bool):=(lex_letter.f a0).bind fun t118 => (if t118=true then (some true) else ((lex_digit.f a0).bind fun t119 => (some t119)))
set_option maxHeartbeats 8000000 in
set_option maxRecDepth 100000 in
theorem lex_either.calls (a0:Int) (r:Bool) (w:World) (hLd:LaidAt w) (h:lex_either.f a0=some r) :
  Calls Tryz.prog 49 #[.int .u8 a0] w fun e w' => e=.returned (.bool r)∧Drawn0 w w':=by
 have HLD:=Aside0.mk hLd
 clear hLd
 have H:((lex_letter.f a0).bind fun t118 => (if t118=true then (some true) else ((lex_digit.f a0).bind fun t119 => (some t119))))=some r:=h
 clear h
 replace H:=Option.bind_eq_some_iff.mp H
 obtain ⟨t118,A20,H⟩:=H
 replace H:(if t118=true then (some true) else ((lex_digit.f a0).bind fun t119 => (some t119)))=some r:=H
 have A2:=Aside0.mk A20
 clear A20
 by_cases c3:t118=true
 ·subst c3
  have H1:(some true)=some r:=by rw [if_pos rfl] at H;exact H
  clear H
  have H:=H1
  clear H1
  obtain rfl:=Option.some.inj H
  go_enter Tryz.func49,Tryz.ntmps49
  go_wp2_with (first|((with_reducible refine gate_callee (f:=48) rfl ?_);refine goesL_ (some 4) rfl rfl Tryz.func48 (by kernel_rfl) rfl #[.int .u8 a0] rfl (by (try simp only [List.map_toArray,List.map_cons,List.map_nil]);first|done|rfl|(simp only [List.length_drop,List.length_take];rfl)) ?_;(with_reducible refine (lex_letter.calls a0 true _ ?side1 A2.out).mono ?_);(case side1 => (with_reducible repeat (first|exact HLD.out|apply LaidAt.drewN|apply LaidAt.drew|apply LaidAt.alloc)));rintro e w' ⟨rfl,⟨nd,rfl⟩⟩;refine ⟨_,rfl,?_⟩))
  go_ret
  exact ⟨by first|rfl|(simp;done)|(simp [*];done),by repeat (first|exact Drawn0.refl _|apply Drawn0.step)⟩
 ·replace c3:=Bool.eq_false_iff.mpr c3
  subst c3
  have H1:((lex_digit.f a0).bind fun t119 => (some t119))=some r:=by rw [if_neg (show ¬ (false=true) by decide)] at H;exact H
  clear H
  have H:=H1
  clear H1
  replace H:=Option.bind_eq_some_iff.mp H
  obtain ⟨t119,A40,H⟩:=H
  replace H:(some t119)=some r:=H
  have A4:=Aside0.mk A40
  clear A40
  obtain rfl:=Option.some.inj H
  go_enter Tryz.func49,Tryz.ntmps49
  go_wp2_with (first|((with_reducible refine gate_callee (f:=48) rfl ?_);refine goesL_ (some 4) rfl rfl Tryz.func48 (by kernel_rfl) rfl #[.int .u8 a0] rfl (by (try simp only [List.map_toArray,List.map_cons,List.map_nil]);first|done|rfl|(simp only [List.length_drop,List.length_take];rfl)) ?_;(with_reducible refine (lex_letter.calls a0 false _ ?side1 A2.out).mono ?_);(case side1 => (with_reducible repeat (first|exact HLD.out|apply LaidAt.drewN|apply LaidAt.drew|apply LaidAt.alloc)));rintro e w' ⟨rfl,⟨nd,rfl⟩⟩;refine ⟨_,rfl,?_⟩)|(go_at_call 50;(with_reducible refine (lex_digit.calls a0 t119 _ ?side1 A4.out).mono ?_);(case side1 => (with_reducible repeat (first|exact HLD.out|apply LaidAt.drewN|apply LaidAt.drew|apply LaidAt.alloc)));rintro e w' ⟨rfl,⟨nd,rfl⟩⟩))
  go_ret
  exact ⟨by first|rfl|(simp;done)|(simp [*];done),by repeat (first|exact Drawn0.refl _|apply Drawn0.step)⟩

/-! ### stringslite_HasPrefix: function 100 -/
def stringslite_HasPrefix.f (a0:ByteArray) (a1:ByteArray):Option (Bool):=if (a0.size:Int) ≥ (a1.size:Int) then (if 0≤(a1.size:Int) then (if (a1.size:Int)≤(a0.size:Int) then (some ((a0.extract 0 ((a1.size:Int):Int).toNat).toList==a1.toList)) else (none)) else (none)) else (some false)
set_option maxHeartbeats 8000000 in
set_option maxRecDepth 100000 in
theorem stringslite_HasPrefix.calls (a0:ByteArray) (a1:ByteArray) (r:Bool) (w:World) (hLd:LaidAt w) (h:stringslite_HasPrefix.f a0 a1=some r) :
  Calls Tryz.prog 100 #[.string a0,.string a1] w fun e w' => e=.returned (.bool r)∧Drawn0 w w':=by
 have HLD:=Aside0.mk hLd
 clear hLd
 have H:(if (a0.size:Int) ≥ (a1.size:Int) then (if 0≤(a1.size:Int) then (if (a1.size:Int)≤(a0.size:Int) then (some ((a0.extract 0 ((a1.size:Int):Int).toNat).toList==a1.toList)) else (none)) else (none)) else (some false))=some r:=h
 clear h
 by_cases c3:(a0.size:Int) ≥ (a1.size:Int)
 ·rw [if_pos c3] at H
  have c3b0:decide ((a1.size:Int)≤(a0.size:Int))=true:=decide_eq_true c3
  have c3b1:decide (a1.size≤a0.size)=true:=decide_eq_true (Int.ofNat_le.mp c3)
  clear c3
  by_cases c4:0≤(a1.size:Int)
  ·rw [if_pos c4] at H
   have c4b0:=eq_true c4
   have c4b1:decide (0≤(a1.size:Int))=true:=decide_eq_true c4
   clear c4
   by_cases c5:(a1.size:Int)≤(a0.size:Int)
   ·rw [if_pos c5] at H
    have c5b0:=eq_true c5
    have c5b1:decide ((a1.size:Int)≤(a0.size:Int))=true:=decide_eq_true c5
    clear c5
    obtain rfl:=Option.some.inj H
    go_enter Tryz.func100,Tryz.ntmps100
    go_wp2
    go_ret
    exact ⟨by first|rfl|(simp;done)|(simp [*];done),by repeat (first|exact Drawn0.refl _|apply Drawn0.step)⟩
   ·rw [if_neg c5] at H
    exact absurd H (by simp)
  ·rw [if_neg c4] at H
   exact absurd H (by simp)
 ·rw [if_neg c3] at H
  have c3b0:decide ((a1.size:Int)≤(a0.size:Int))=false:=decide_eq_false c3
  have c3b1:decide (a1.size≤a0.size)=false:=decide_eq_false (fun h => c3 (Int.ofNat_le.mpr h))
  clear c3
  obtain rfl:=Option.some.inj H
  go_enter Tryz.func100,Tryz.ntmps100
  go_wp2
  go_ret
  exact ⟨by first|rfl|(simp;done)|(simp [*];done),by repeat (first|exact Drawn0.refl _|apply Drawn0.step)⟩

/-! ### stringslite_CutPrefix: function 94 -/
def stringslite_CutPrefix.f (a0:ByteArray) (a1:ByteArray):Option (ByteArray × Bool):=(stringslite_HasPrefix.f a0 a1).bind fun t120 => (if t120=true then (if 0≤(a1.size:Int) then (if (a1.size:Int)≤(a0.size:Int) then (some (a0.extract ((a1.size:Int):Int).toNat a0.size,true)) else (none)) else (none)) else (some (a0,false)))
set_option maxHeartbeats 8000000 in
set_option maxRecDepth 100000 in
theorem stringslite_CutPrefix.calls (a0:ByteArray) (a1:ByteArray) (r1:ByteArray) (r2:Bool) (w:World) (hLd:LaidAt w) (h:stringslite_CutPrefix.f a0 a1=some (r1,r2)) :
  Calls Tryz.prog 94 #[.string a0,.string a1] w fun e w' => e=.returned (.tuple #[.string r1,.bool r2])∧Drawn0 w w':=by
 have HLD:=Aside0.mk hLd
 clear hLd
 have H:((stringslite_HasPrefix.f a0 a1).bind fun t120 => (if t120=true then (if 0≤(a1.size:Int) then (if (a1.size:Int)≤(a0.size:Int) then (some (a0.extract ((a1.size:Int):Int).toNat a0.size,true)) else (none)) else (none)) else (some (a0,false))))=some (r1,r2):=h
 clear h
 replace H:=Option.bind_eq_some_iff.mp H
 obtain ⟨t120,A30,H⟩:=H
 replace H:(if t120=true then (if 0≤(a1.size:Int) then (if (a1.size:Int)≤(a0.size:Int) then (some (a0.extract ((a1.size:Int):Int).toNat a0.size,true)) else (none)) else (none)) else (some (a0,false)))=some (r1,r2):=H
 have A3:=Aside0.mk A30
 clear A30
 by_cases c4:t120=true
 ·subst c4
  have H1:(if 0≤(a1.size:Int) then (if (a1.size:Int)≤(a0.size:Int) then (some (a0.extract ((a1.size:Int):Int).toNat a0.size,true)) else (none)) else (none))=some (r1,r2):=by rw [if_pos rfl] at H;exact H
  clear H
  have H:=H1
  clear H1
  by_cases c5:0≤(a1.size:Int)
  ·rw [if_pos c5] at H
   have c5b0:=eq_true c5
   have c5b1:decide (0≤(a1.size:Int))=true:=decide_eq_true c5
   clear c5
   by_cases c6:(a1.size:Int)≤(a0.size:Int)
   ·rw [if_pos c6] at H
    have c6b0:=eq_true c6
    have c6b1:decide ((a1.size:Int)≤(a0.size:Int))=true:=decide_eq_true c6
    clear c6
    simp only [Option.some.injEq,Prod.mk.injEq] at H
    obtain ⟨rfl,rfl⟩:=H
    go_enter Tryz.func94,Tryz.ntmps94
    go_wp2_with (first|((with_reducible refine gate_callee (f:=100) rfl ?_);refine goesL_ (some 8) rfl rfl Tryz.func100 (by kernel_rfl) rfl #[.string a0,.string a1] rfl (by (try simp only [List.map_toArray,List.map_cons,List.map_nil]);first|done|rfl|(simp only [List.length_drop,List.length_take];rfl)) ?_;(with_reducible refine (stringslite_HasPrefix.calls a0 a1 true _ ?side1 A3.out).mono ?_);(case side1 => (with_reducible repeat (first|exact HLD.out|apply LaidAt.drewN|apply LaidAt.drew|apply LaidAt.alloc)));rintro e w' ⟨rfl,⟨nd,rfl⟩⟩;refine ⟨_,rfl,?_⟩))
    go_ret2
    exact ⟨by first|rfl|(simp;done)|(simp [*];done),by repeat (first|exact Drawn0.refl _|apply Drawn0.step)⟩
   ·rw [if_neg c6] at H
    exact absurd H (by simp)
  ·rw [if_neg c5] at H
   exact absurd H (by simp)
 ·replace c4:=Bool.eq_false_iff.mpr c4
  subst c4
  have H1:(some (a0,false))=some (r1,r2):=by rw [if_neg (show ¬ (false=true) by decide)] at H;exact H
  clear H
  have H:=H1
  clear H1
  simp only [Option.some.injEq,Prod.mk.injEq] at H
  obtain ⟨rfl,rfl⟩:=H
  go_enter Tryz.func94,Tryz.ntmps94
  go_wp2_with (first|((with_reducible refine gate_callee (f:=100) rfl ?_);refine goesL_ (some 8) rfl rfl Tryz.func100 (by kernel_rfl) rfl #[.string a0,.string a1] rfl (by (try simp only [List.map_toArray,List.map_cons,List.map_nil]);first|done|rfl|(simp only [List.length_drop,List.length_take];rfl)) ?_;(with_reducible refine (stringslite_HasPrefix.calls a0 a1 false _ ?side1 A3.out).mono ?_);(case side1 => (with_reducible repeat (first|exact HLD.out|apply LaidAt.drewN|apply LaidAt.drew|apply LaidAt.alloc)));rintro e w' ⟨rfl,⟨nd,rfl⟩⟩;refine ⟨_,rfl,?_⟩))
  go_ret2
  exact ⟨by first|rfl|(simp;done)|(simp [*];done),by repeat (first|exact Drawn0.refl _|apply Drawn0.step)⟩

/-! ### strings_CutPrefix: function 75 -/
def strings_CutPrefix.f (a0:ByteArray) (a1:ByteArray):Option (ByteArray × Bool):=(stringslite_CutPrefix.f a0 a1).bind fun bt121 => (some (bt121.1,bt121.2))
set_option maxHeartbeats 8000000 in
set_option maxRecDepth 100000 in
theorem strings_CutPrefix.calls (a0:ByteArray) (a1:ByteArray) (r1:ByteArray) (r2:Bool) (w:World) (hLd:LaidAt w) (h:strings_CutPrefix.f a0 a1=some (r1,r2)) :
  Calls Tryz.prog 75 #[.string a0,.string a1] w fun e w' => e=.returned (.tuple #[.string r1,.bool r2])∧Drawn0 w w':=by
 have HLD:=Aside0.mk hLd
 clear hLd
 have H:((stringslite_CutPrefix.f a0 a1).bind fun bt121 => (some (bt121.1,bt121.2)))=some (r1,r2):=h
 clear h
 replace H:=Option.bind_eq_some_iff.mp H
 obtain ⟨⟨t121,t122⟩,A30,H⟩:=H
 replace H:(some (t121,t122))=some (r1,r2):=H
 have A3:=Aside0.mk A30
 clear A30
 simp only [Option.some.injEq,Prod.mk.injEq] at H
 obtain ⟨rfl,rfl⟩:=H
 go_enter Tryz.func75,Tryz.ntmps75
 go_wp2_with (first|((with_reducible refine gate_callee (f:=94) rfl ?_);refine goesL_ (some 8) rfl rfl Tryz.func94 (by kernel_rfl) rfl #[.string a0,.string a1] rfl (by (try simp only [List.map_toArray,List.map_cons,List.map_nil]);first|done|rfl|(simp only [List.length_drop,List.length_take];rfl)) ?_;(with_reducible refine (stringslite_CutPrefix.calls a0 a1 t121 t122 _ ?side1 A3.out).mono ?_);(case side1 => (with_reducible repeat (first|exact HLD.out|apply LaidAt.drewN|apply LaidAt.drew|apply LaidAt.alloc)));rintro e w' ⟨rfl,⟨nd,rfl⟩⟩;refine ⟨_,rfl,?_⟩))
 go_ret2
 exact ⟨by first|rfl|(simp;done)|(simp [*];done),by repeat (first|exact Drawn0.refl _|apply Drawn0.step)⟩

/-! ### strings_HasPrefix: function 78 -/
def strings_HasPrefix.f (a0:ByteArray) (a1:ByteArray):Option (Bool):=(stringslite_HasPrefix.f a0 a1).bind fun t123 => (some t123)
set_option maxHeartbeats 8000000 in
set_option maxRecDepth 100000 in
theorem strings_HasPrefix.calls (a0:ByteArray) (a1:ByteArray) (r:Bool) (w:World) (hLd:LaidAt w) (h:strings_HasPrefix.f a0 a1=some r) :
  Calls Tryz.prog 78 #[.string a0,.string a1] w fun e w' => e=.returned (.bool r)∧Drawn0 w w':=by
 have HLD:=Aside0.mk hLd
 clear hLd
 have H:((stringslite_HasPrefix.f a0 a1).bind fun t123 => (some t123))=some r:=h
 clear h
 replace H:=Option.bind_eq_some_iff.mp H
 obtain ⟨t123,A30,H⟩:=H
 replace H:(some t123)=some r:=H
 have A3:=Aside0.mk A30
 clear A30
 obtain rfl:=Option.some.inj H
 go_enter Tryz.func78,Tryz.ntmps78
 go_wp2_with (first|((with_reducible refine gate_callee (f:=100) rfl ?_);refine goesL_ (some 7) rfl rfl Tryz.func100 (by kernel_rfl) rfl #[.string a0,.string a1] rfl (by (try simp only [List.map_toArray,List.map_cons,List.map_nil]);first|done|rfl|(simp only [List.length_drop,List.length_take];rfl)) ?_;(with_reducible refine (stringslite_HasPrefix.calls a0 a1 t123 _ ?side1 A3.out).mono ?_);(case side1 => (with_reducible repeat (first|exact HLD.out|apply LaidAt.drewN|apply LaidAt.drew|apply LaidAt.alloc)));rintro e w' ⟨rfl,⟨nd,rfl⟩⟩;refine ⟨_,rfl,?_⟩))
 go_ret
 exact ⟨by first|rfl|(simp;done)|(simp [*];done),by repeat (first|exact Drawn0.refl _|apply Drawn0.step)⟩

end Go.Proofs.YtdfjjimmnbijmaaGreatDoor.ZQ

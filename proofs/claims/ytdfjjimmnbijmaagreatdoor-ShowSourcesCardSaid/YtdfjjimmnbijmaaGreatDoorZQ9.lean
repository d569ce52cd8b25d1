-- Written for this claim by myprint.py over the kit's print (functions of this session supplied)
import Derived.Test.YtdfjjimmnbijmaaGreatDoorZQ0
import Derived.Test.YtdfjjimmnbijmaaGreatDoorZQ3
namespace Go.Proofs.YtdfjjimmnbijmaaGreatDoor.ZQ
open Go.RowKit Go.Proofs.YtdfjjimmnbijmaaGreatDoorW.PrintWords Go.Proofs.YtdfjjimmnbijmaaGreatDoorW.PrintLast Go.Proofs.YtdfjjimmnbijmaaGreatDoorW.PrintMore Go.Proofs.YtdfjjimmnbijmaaGreatDoor.Base
attribute [local go_sem] max2_int min2_int max_two min_two max_three min_three max_four min_four   -- for this text's walks alone
set_option linter.unusedVariables false
set_option linter.unusedSimpArgs false

/-! ### show_none: function 64 -/
def show_none.f (a0_0:Int) (l0_1:List (S28)) (a0_2:Int) (a0_3:Int) (a0_4:ByteArray) (a0_5:Int):Option (Bool):=if a0_0=0 then (if a0_2=0 then (if a0_3=0 then (if a0_4.toList=([]:List UInt8) then (if a0_5=0 then (some ((l0_1.length:Int)==0)) else (some false)) else (some false)) else (some false)) else (some false)) else (some false)
set_option maxHeartbeats 8000000 in
set_option maxRecDepth 100000 in
theorem show_none.calls (a0_0:Int) (A0_1:Option Addr) (c0_1:Nat) (l0_1:List (S28)) (a0_2:Int) (a0_3:Int) (a0_4:ByteArray) (a0_5:Int) (r:Bool) (w:World) (hr0_1:Kd.C k28 w A0_1 l0_1.length l0_1) (hc0_1:l0_1.length≤c0_1) (hLd:LaidAt w) (h:show_none.f a0_0 l0_1 a0_2 a0_3 a0_4 a0_5=some r) :
  Calls Tryz.prog 64 #[.agg #[.int .i64 a0_0,.slice A0_1 l0_1.length c0_1,.int .i64 a0_2,.int .u64 a0_3,.string a0_4,.int .u64 a0_5]] w fun e w' => e=.returned (.bool r)∧Below w.heap.size w w':=by
 have hu28:=Tryz.underlying28
 have HLD:=Aside0.mk hLd
 clear hLd
 have HR0_1:=Aside0.mk hr0_1
 have HC0_1:=Aside0.mk hc0_1
 clear hr0_1 hc0_1
 have HB:=Aside0.mk (Below.refl w.heap.size w)
 have H:(if a0_0=0 then (if a0_2=0 then (if a0_3=0 then (if a0_4.toList=([]:List UInt8) then (if a0_5=0 then (some ((l0_1.length:Int)==0)) else (some false)) else (some false)) else (some false)) else (some false)) else (some false))=some r:=h
 clear h
 by_cases c2:a0_0=0
 ·rw [if_pos c2] at H
  have c2b0:(a0_0==0)=true:=beq_iff_eq.mpr c2
  have c2b1:(a0_0 != 0)=false:=bne_eq_false_iff_eq.mpr c2
  clear c2
  by_cases c3:a0_2=0
  ·rw [if_pos c3] at H
   have c3b0:(a0_2==0)=true:=beq_iff_eq.mpr c3
   have c3b1:(a0_2 != 0)=false:=bne_eq_false_iff_eq.mpr c3
   clear c3
   by_cases c4:a0_3=0
   ·rw [if_pos c4] at H
    have c4b0:(a0_3==0)=true:=beq_iff_eq.mpr c4
    have c4b1:(a0_3 != 0)=false:=bne_eq_false_iff_eq.mpr c4
    clear c4
    by_cases c5:a0_4.toList=([]:List UInt8)
    ·rw [if_pos c5] at H
     have c5b0:(a0_4.toList==([]:List UInt8))=true:=beq_iff_eq.mpr c5
     have c5b1:(a0_4.toList != ([]:List UInt8))=false:=bne_eq_false_iff_eq.mpr c5
     clear c5
     by_cases c6:a0_5=0
     ·rw [if_pos c6] at H
      have c6b0:(a0_5==0)=true:=beq_iff_eq.mpr c6
      have c6b1:(a0_5 != 0)=false:=bne_eq_false_iff_eq.mpr c6
      clear c6
      obtain rfl:=Option.some.inj H
      go_enter Tryz.func64,Tryz.ntmps64
      go_wp2_with (first|((with_reducible refine gate_dst (N:=1) rfl ?_);(try (refine gate_guard (by rfl) ?_;dsimp only));refine box_event ?hg (N:=1) ?hd (cs:=#[.int .i64 a0_0,.slice A0_1 l0_1.length c0_1,.int .i64 a0_2,.int .u64 a0_3,.string a0_4,.int .u64 a0_5]) (t:=28) ?hr ?_;(case hd => rfl);(case hg => rfl);(case hr => first|(go_simp;done)|(go_simp;rfl));intro gb141 hg w7 hbox hb;have n0_:=Aside0.mk (below_step (by repeat (with_reducible first|exact HB.out|apply below_alloc|apply pw_below_drewN|apply below_drew1)) hb);have n1_:=Aside0.mk (hbox);have n2_:=Aside0.mk ((by rw [hg];exact (below_size (by repeat (with_reducible first|exact HB.out|apply below_alloc|apply pw_below_drewN|apply below_drew1))):w.heap.size≤gb141));have n3_:=Aside0.mk ((by rw [hg];exact (below_size (by repeat (with_reducible first|exact HB.out|apply below_alloc|apply pw_below_drewN|apply below_drew1))):w.heap.size≤gb141));clear HB;have HB:=n0_;have BK141:=n1_;have GW141:=n2_;have GE141:=n3_;clear n0_ n1_ n2_ n3_;clear hb hbox hg;have hcz8_0:w7.cell? ⟨gb141,0,none⟩=some (.int .i64 a0_0):=(blk_cell BK141.out 0).trans rfl;have hcz8_1:w7.cell? ⟨gb141,1,none⟩=some (.slice A0_1 l0_1.length c0_1):=(blk_cell BK141.out 1).trans rfl;have hcz8_2:w7.cell? ⟨gb141,2,none⟩=some (.int .i64 a0_2):=(blk_cell BK141.out 2).trans rfl;have hcz8_3:w7.cell? ⟨gb141,3,none⟩=some (.int .u64 a0_3):=(blk_cell BK141.out 3).trans rfl;have hcz8_4:w7.cell? ⟨gb141,4,none⟩=some (.string a0_4):=(blk_cell BK141.out 4).trans rfl;have hcz8_5:w7.cell? ⟨gb141,5,none⟩=some (.int .u64 a0_5):=(blk_cell BK141.out 5).trans rfl;have hfz8_0:=blk_frozen BK141.out 0;have hfz8_1:=blk_frozen BK141.out 1;have hfz8_2:=blk_frozen BK141.out 2;have hfz8_3:=blk_frozen BK141.out 3;have hfz8_4:=blk_frozen BK141.out 4;have hfz8_5:=blk_frozen BK141.out 5))
      go_ret
      exact ⟨by first|rfl|(simp [errW_none,errW_some]<;>rfl)|(simp [*,errW_none,errW_some]<;>rfl),by repeat (first|(with_reducible first|exact HB.out|apply below_alloc|apply pw_below_drewN|apply below_drew1|refine below_set ?_ GE141.out)|exact HB.out)⟩
     ·rw [if_neg c6] at H
      have c6b0:(a0_5==0)=false:=beq_eq_false_iff_ne.mpr c6
      have c6b1:(a0_5 != 0)=true:=bne_iff_ne.mpr c6
      obtain rfl:=Option.some.inj H
      go_enter Tryz.func64,Tryz.ntmps64
      go_wp2_with (first|((with_reducible refine gate_dst (N:=1) rfl ?_);(try (refine gate_guard (by rfl) ?_;dsimp only));refine box_event ?hg (N:=1) ?hd (cs:=#[.int .i64 a0_0,.slice A0_1 l0_1.length c0_1,.int .i64 a0_2,.int .u64 a0_3,.string a0_4,.int .u64 a0_5]) (t:=28) ?hr ?_;(case hd => rfl);(case hg => rfl);(case hr => first|(go_simp;done)|(go_simp;rfl));intro gb141 hg w9 hbox hb;have n0_:=Aside0.mk (below_step (by repeat (with_reducible first|exact HB.out|apply below_alloc|apply pw_below_drewN|apply below_drew1)) hb);have n1_:=Aside0.mk (hbox);have n2_:=Aside0.mk ((by rw [hg];exact (below_size (by repeat (with_reducible first|exact HB.out|apply below_alloc|apply pw_below_drewN|apply below_drew1))):w.heap.size≤gb141));have n3_:=Aside0.mk ((by rw [hg];exact (below_size (by repeat (with_reducible first|exact HB.out|apply below_alloc|apply pw_below_drewN|apply below_drew1))):w.heap.size≤gb141));clear HB;have HB:=n0_;have BK141:=n1_;have GW141:=n2_;have GE141:=n3_;clear n0_ n1_ n2_ n3_;clear hb hbox hg;have hcz10_0:w9.cell? ⟨gb141,0,none⟩=some (.int .i64 a0_0):=(blk_cell BK141.out 0).trans rfl;have hcz10_1:w9.cell? ⟨gb141,1,none⟩=some (.slice A0_1 l0_1.length c0_1):=(blk_cell BK141.out 1).trans rfl;have hcz10_2:w9.cell? ⟨gb141,2,none⟩=some (.int .i64 a0_2):=(blk_cell BK141.out 2).trans rfl;have hcz10_3:w9.cell? ⟨gb141,3,none⟩=some (.int .u64 a0_3):=(blk_cell BK141.out 3).trans rfl;have hcz10_4:w9.cell? ⟨gb141,4,none⟩=some (.string a0_4):=(blk_cell BK141.out 4).trans rfl;have hcz10_5:w9.cell? ⟨gb141,5,none⟩=some (.int .u64 a0_5):=(blk_cell BK141.out 5).trans rfl;have hfz10_0:=blk_frozen BK141.out 0;have hfz10_1:=blk_frozen BK141.out 1;have hfz10_2:=blk_frozen BK141.out 2;have hfz10_3:=blk_frozen BK141.out 3;have hfz10_4:=blk_frozen BK141.out 4;have hfz10_5:=blk_frozen BK141.out 5))
      go_ret
      exact ⟨by first|rfl|(simp [errW_none,errW_some]<;>rfl)|(simp [*,errW_none,errW_some]<;>rfl),by repeat (first|(with_reducible first|exact HB.out|apply below_alloc|apply pw_below_drewN|apply below_drew1|refine below_set ?_ GE141.out)|exact HB.out)⟩
    ·rw [if_neg c5] at H
     have c5b0:(a0_4.toList==([]:List UInt8))=false:=beq_eq_false_iff_ne.mpr c5
     have c5b1:(a0_4.toList != ([]:List UInt8))=true:=bne_iff_ne.mpr c5
     obtain rfl:=Option.some.inj H
     go_enter Tryz.func64,Tryz.ntmps64
     go_wp2_with (first|((with_reducible refine gate_dst (N:=1) rfl ?_);(try (refine gate_guard (by rfl) ?_;dsimp only));refine box_event ?hg (N:=1) ?hd (cs:=#[.int .i64 a0_0,.slice A0_1 l0_1.length c0_1,.int .i64 a0_2,.int .u64 a0_3,.string a0_4,.int .u64 a0_5]) (t:=28) ?hr ?_;(case hd => rfl);(case hg => rfl);(case hr => first|(go_simp;done)|(go_simp;rfl));intro gb141 hg w11 hbox hb;have n0_:=Aside0.mk (below_step (by repeat (with_reducible first|exact HB.out|apply below_alloc|apply pw_below_drewN|apply below_drew1)) hb);have n1_:=Aside0.mk (hbox);have n2_:=Aside0.mk ((by rw [hg];exact (below_size (by repeat (with_reducible first|exact HB.out|apply below_alloc|apply pw_below_drewN|apply below_drew1))):w.heap.size≤gb141));have n3_:=Aside0.mk ((by rw [hg];exact (below_size (by repeat (with_reducible first|exact HB.out|apply below_alloc|apply pw_below_drewN|apply below_drew1))):w.heap.size≤gb141));clear HB;have HB:=n0_;have BK141:=n1_;have GW141:=n2_;have GE141:=n3_;clear n0_ n1_ n2_ n3_;clear hb hbox hg;have hcz12_0:w11.cell? ⟨gb141,0,none⟩=some (.int .i64 a0_0):=(blk_cell BK141.out 0).trans rfl;have hcz12_1:w11.cell? ⟨gb141,1,none⟩=some (.slice A0_1 l0_1.length c0_1):=(blk_cell BK141.out 1).trans rfl;have hcz12_2:w11.cell? ⟨gb141,2,none⟩=some (.int .i64 a0_2):=(blk_cell BK141.out 2).trans rfl;have hcz12_3:w11.cell? ⟨gb141,3,none⟩=some (.int .u64 a0_3):=(blk_cell BK141.out 3).trans rfl;have hcz12_4:w11.cell? ⟨gb141,4,none⟩=some (.string a0_4):=(blk_cell BK141.out 4).trans rfl;have hcz12_5:w11.cell? ⟨gb141,5,none⟩=some (.int .u64 a0_5):=(blk_cell BK141.out 5).trans rfl;have hfz12_0:=blk_frozen BK141.out 0;have hfz12_1:=blk_frozen BK141.out 1;have hfz12_2:=blk_frozen BK141.out 2;have hfz12_3:=blk_frozen BK141.out 3;have hfz12_4:=blk_frozen BK141.out 4;have hfz12_5:=blk_frozen BK141.out 5))
     go_ret
     exact ⟨by first|rfl|(simp [errW_none,errW_some]<;>rfl)|(simp [*,errW_none,errW_some]<;>rfl),by repeat (first|(with_reducible first|exact HB.out|apply below_alloc|apply pw_below_drewN|apply below_drew1|refine below_set ?_ GE141.out)|exact HB.out)⟩
   ·rw [if_neg c4] at H
    have c4b0:(a0_3==0)=false:=beq_eq_false_iff_ne.mpr c4
    have c4b1:(a0_3 != 0)=true:=bne_iff_ne.mpr c4
    obtain rfl:=Option.some.inj H
    go_enter Tryz.func64,Tryz.ntmps64
    go_wp2_with (first|((with_reducible refine gate_dst (N:=1) rfl ?_);(try (refine gate_guard (by rfl) ?_;dsimp only));refine box_event ?hg (N:=1) ?hd (cs:=#[.int .i64 a0_0,.slice A0_1 l0_1.length c0_1,.int .i64 a0_2,.int .u64 a0_3,.string a0_4,.int .u64 a0_5]) (t:=28) ?hr ?_;(case hd => rfl);(case hg => rfl);(case hr => first|(go_simp;done)|(go_simp;rfl));intro gb141 hg w13 hbox hb;have n0_:=Aside0.mk (below_step (by repeat (with_reducible first|exact HB.out|apply below_alloc|apply pw_below_drewN|apply below_drew1)) hb);have n1_:=Aside0.mk (hbox);have n2_:=Aside0.mk ((by rw [hg];exact (below_size (by repeat (with_reducible first|exact HB.out|apply below_alloc|apply pw_below_drewN|apply below_drew1))):w.heap.size≤gb141));have n3_:=Aside0.mk ((by rw [hg];exact (below_size (by repeat (with_reducible first|exact HB.out|apply below_alloc|apply pw_below_drewN|apply below_drew1))):w.heap.size≤gb141));clear HB;have HB:=n0_;have BK141:=n1_;have GW141:=n2_;have GE141:=n3_;clear n0_ n1_ n2_ n3_;clear hb hbox hg;have hcz14_0:w13.cell? ⟨gb141,0,none⟩=some (.int .i64 a0_0):=(blk_cell BK141.out 0).trans rfl;have hcz14_1:w13.cell? ⟨gb141,1,none⟩=some (.slice A0_1 l0_1.length c0_1):=(blk_cell BK141.out 1).trans rfl;have hcz14_2:w13.cell? ⟨gb141,2,none⟩=some (.int .i64 a0_2):=(blk_cell BK141.out 2).trans rfl;have hcz14_3:w13.cell? ⟨gb141,3,none⟩=some (.int .u64 a0_3):=(blk_cell BK141.out 3).trans rfl;have hcz14_4:w13.cell? ⟨gb141,4,none⟩=some (.string a0_4):=(blk_cell BK141.out 4).trans rfl;have hcz14_5:w13.cell? ⟨gb141,5,none⟩=some (.int .u64 a0_5):=(blk_cell BK141.out 5).trans rfl;have hfz14_0:=blk_frozen BK141.out 0;have hfz14_1:=blk_frozen BK141.out 1;have hfz14_2:=blk_frozen BK141.out 2;have hfz14_3:=blk_frozen BK141.out 3;have hfz14_4:=blk_frozen BK141.out 4;have hfz14_5:=blk_frozen BK141.out 5))
    go_ret
    exact ⟨by first|rfl|(simp [errW_none,errW_some]<;>rfl)|(simp [*,errW_none,errW_some]<;>rfl),by repeat (first|(with_reducible first|exact HB.out|apply below_alloc|apply pw_below_drewN|apply below_drew1|refine below_set ?_ GE141.out)|exact HB.out)⟩
  ·rw [if_neg c3] at H
   have c3b0:(a0_2==0)=false:=beq_eq_false_iff_ne.mpr c3
   have c3b1:(a0_2 != 0)=true:=bne_iff_ne.mpr c3
   obtain rfl:=Option.some.inj H
   go_enter Tryz.func64,Tryz.ntmps64
   go_wp2_with (first|((with_reducible refine gate_dst (N:=1) rfl ?_);(try (refine gate_guard (by rfl) ?_;dsimp only));refine box_event ?hg (N:=1) ?hd (cs:=#[.int .i64 a0_0,.slice A0_1 l0_1.length c0_1,.int .i64 a0_2,.int .u64 a0_3,.string a0_4,.int .u64 a0_5]) (t:=28) ?hr ?_;(case hd => rfl);(case hg => rfl);(case hr => first|(go_simp;done)|(go_simp;rfl));intro gb141 hg w15 hbox hb;have n0_:=Aside0.mk (below_step (by repeat (with_reducible first|exact HB.out|apply below_alloc|apply pw_below_drewN|apply below_drew1)) hb);have n1_:=Aside0.mk (hbox);have n2_:=Aside0.mk ((by rw [hg];exact (below_size (by repeat (with_reducible first|exact HB.out|apply below_alloc|apply pw_below_drewN|apply below_drew1))):w.heap.size≤gb141));have n3_:=Aside0.mk ((by rw [hg];exact (below_size (by repeat (with_reducible first|exact HB.out|apply below_alloc|apply pw_below_drewN|apply below_drew1))):w.heap.size≤gb141));clear HB;have HB:=n0_;have BK141:=n1_;have GW141:=n2_;have GE141:=n3_;clear n0_ n1_ n2_ n3_;clear hb hbox hg;have hcz16_0:w15.cell? ⟨gb141,0,none⟩=some (.int .i64 a0_0):=(blk_cell BK141.out 0).trans rfl;have hcz16_1:w15.cell? ⟨gb141,1,none⟩=some (.slice A0_1 l0_1.length c0_1):=(blk_cell BK141.out 1).trans rfl;have hcz16_2:w15.cell? ⟨gb141,2,none⟩=some (.int .i64 a0_2):=(blk_cell BK141.out 2).trans rfl;have hcz16_3:w15.cell? ⟨gb141,3,none⟩=some (.int .u64 a0_3):=(blk_cell BK141.out 3).trans rfl;have hcz16_4:w15.cell? ⟨gb141,4,none⟩=some (.string a0_4):=(blk_cell BK141.out 4).trans rfl;have hcz16_5:w15.cell? ⟨gb141,5,none⟩=some (.int .u64 a0_5):=(blk_cell BK141.out 5).trans rfl;have hfz16_0:=blk_frozen BK141.out 0;have hfz16_1:=blk_frozen BK141.out 1;have hfz16_2:=blk_frozen BK141.out 2;have hfz16_3:=blk_frozen BK141.out 3;have hfz16_4:=blk_frozen BK141.out 4;have hfz16_5:=blk_frozen BK141.out 5))
   go_ret
   exact ⟨by first|rfl|(simp [errW_none,errW_some]<;>rfl)|(simp [*,errW_none,errW_some]<;>rfl),by repeat (first|(with_reducible first|exact HB.out|apply below_alloc|apply pw_below_drewN|apply below_drew1|refine below_set ?_ GE141.out)|exact HB.out)⟩
 ·rw [if_neg c2] at H
  have c2b0:(a0_0==0)=false:=beq_eq_false_iff_ne.mpr c2
  have c2b1:(a0_0 != 0)=true:=bne_iff_ne.mpr c2
  obtain rfl:=Option.some.inj H
  go_enter Tryz.func64,Tryz.ntmps64
  go_wp2_with (first|((with_reducible refine gate_dst (N:=1) rfl ?_);(try (refine gate_guard (by rfl) ?_;dsimp only));refine box_event ?hg (N:=1) ?hd (cs:=#[.int .i64 a0_0,.slice A0_1 l0_1.length c0_1,.int .i64 a0_2,.int .u64 a0_3,.string a0_4,.int .u64 a0_5]) (t:=28) ?hr ?_;(case hd => rfl);(case hg => rfl);(case hr => first|(go_simp;done)|(go_simp;rfl));intro gb141 hg w17 hbox hb;have n0_:=Aside0.mk (below_step (by repeat (with_reducible first|exact HB.out|apply below_alloc|apply pw_below_drewN|apply below_drew1)) hb);have n1_:=Aside0.mk (hbox);have n2_:=Aside0.mk ((by rw [hg];exact (below_size (by repeat (with_reducible first|exact HB.out|apply below_alloc|apply pw_below_drewN|apply below_drew1))):w.heap.size≤gb141));have n3_:=Aside0.mk ((by rw [hg];exact (below_size (by repeat (with_reducible first|exact HB.out|apply below_alloc|apply pw_below_drewN|apply below_drew1))):w.heap.size≤gb141));clear HB;have HB:=n0_;have BK141:=n1_;have GW141:=n2_;have GE141:=n3_;clear n0_ n1_ n2_ n3_;clear hb hbox hg;have hcz18_0:w17.cell? ⟨gb141,0,none⟩=some (.int .i64 a0_0):=(blk_cell BK141.out 0).trans rfl;have hcz18_1:w17.cell? ⟨gb141,1,none⟩=some (.slice A0_1 l0_1.length c0_1):=(blk_cell BK141.out 1).trans rfl;have hcz18_2:w17.cell? ⟨gb141,2,none⟩=some (.int .i64 a0_2):=(blk_cell BK141.out 2).trans rfl;have hcz18_3:w17.cell? ⟨gb141,3,none⟩=some (.int .u64 a0_3):=(blk_cell BK141.out 3).trans rfl;have hcz18_4:w17.cell? ⟨gb141,4,none⟩=some (.string a0_4):=(blk_cell BK141.out 4).trans rfl;have hcz18_5:w17.cell? ⟨gb141,5,none⟩=some (.int .u64 a0_5):=(blk_cell BK141.out 5).trans rfl;have hfz18_0:=blk_frozen BK141.out 0;have hfz18_1:=blk_frozen BK141.out 1;have hfz18_2:=blk_frozen BK141.out 2;have hfz18_3:=blk_frozen BK141.out 3;have hfz18_4:=blk_frozen BK141.out 4;have hfz18_5:=blk_frozen BK141.out 5))
  go_ret
  exact ⟨by first|rfl|(simp [errW_none,errW_some]<;>rfl)|(simp [*,errW_none,errW_some]<;>rfl),by repeat (first|(with_reducible first|exact HB.out|apply below_alloc|apply pw_below_drewN|apply below_drew1|refine below_set ?_ GE141.out)|exact HB.out)⟩

/-! ### show_depth: function 65 -/
mutual
def show_depth.l0:Nat→Int→List (S28)→Int→Int→Int→List (S28)→Int→Int→ByteArray→Int→Option (Int)
 |  0,_,_,_,_,_,_,_,_,_,_ => none
 |  k+1,x3,x9,x10,x11,x143000,x143001,x143002,x143003,x143004,x143005 => if x11<x10 then (if 0≤x11 then (if x11<(x9.length:Int) then ((show_depth.f k ((rd_T28 x9 x11).f0) ((rd_T28 x9 x11).f1) ((rd_T28 x9 x11).f2) ((rd_T28 x9 x11).f3) ((rd_T28 x9 x11).f4) ((rd_T28 x9 x11).f5)).bind fun t145 => (if ((rd_T28 x9 x11).f0)=1 then (show_depth.j1 k x3 t145 true x9 x10 x11 x143000 x143001 x143002 x143003 x143004 x143005 ((rd_T28 x9 x11).f0) ((rd_T28 x9 x11).f1) ((rd_T28 x9 x11).f2) ((rd_T28 x9 x11).f3) ((rd_T28 x9 x11).f4) ((rd_T28 x9 x11).f5)) else (show_depth.j1 k x3 t145 (((rd_T28 x9 x11).f0)==2) x9 x10 x11 x143000 x143001 x143002 x143003 x143004 x143005 ((rd_T28 x9 x11).f0) ((rd_T28 x9 x11).f1) ((rd_T28 x9 x11).f2) ((rd_T28 x9 x11).f3) ((rd_T28 x9 x11).f4) ((rd_T28 x9 x11).f5)))) else (none)) else (none)) else (some x3)
def show_depth.j1:Nat→Int→Int→Bool→List (S28)→Int→Int→Int→List (S28)→Int→Int→ByteArray→Int→Int→List (S28)→Int→Int→ByteArray→Int→Option (Int)
 |  0,_,_,_,_,_,_,_,_,_,_,_,_,_,_,_,_,_,_ => none
 |  k+1,x3,x6,x7,x9,x10,x11,x143000,x143001,x143002,x143003,x143004,x143005,x145000,x145001,x145002,x145003,x145004,x145005 => if x143000=3 then (if x7=true then (if x143000=2 then (if x145000=1 then (show_depth.l0 k (mx x3 (wrap64 (x6+1))) x9 x10 (wrap64 (x11+1)) x143000 x143001 x143002 x143003 x143004 x143005) else (show_depth.l0 k (mx x3 (wrap64 ((wrap64 (x6+1))+1))) x9 x10 (wrap64 (x11+1)) x143000 x143001 x143002 x143003 x143004 x143005)) else (show_depth.l0 k (mx x3 (wrap64 ((wrap64 (x6+1))+1))) x9 x10 (wrap64 (x11+1)) x143000 x143001 x143002 x143003 x143004 x143005)) else (show_depth.l0 k (mx x3 (wrap64 (x6+1))) x9 x10 (wrap64 (x11+1)) x143000 x143001 x143002 x143003 x143004 x143005)) else (if x7=true then (if x143000=2 then (if x145000=1 then (show_depth.l0 k (mx x3 x6) x9 x10 (wrap64 (x11+1)) x143000 x143001 x143002 x143003 x143004 x143005) else (show_depth.l0 k (mx x3 (wrap64 (x6+1))) x9 x10 (wrap64 (x11+1)) x143000 x143001 x143002 x143003 x143004 x143005)) else (show_depth.l0 k (mx x3 (wrap64 (x6+1))) x9 x10 (wrap64 (x11+1)) x143000 x143001 x143002 x143003 x143004 x143005)) else (show_depth.l0 k (mx x3 x6) x9 x10 (wrap64 (x11+1)) x143000 x143001 x143002 x143003 x143004 x143005))
def show_depth.f:Nat→Int→List (S28)→Int→Int→ByteArray→Int→Option (Int)
 |  0,_,_,_,_,_,_ => none
 |  k+1,a0_0,l0_1,a0_2,a0_3,a0_4,a0_5 => show_depth.l0 k 0 l0_1 (l0_1.length:Int) 0 a0_0 l0_1 a0_2 a0_3 a0_4 a0_5
end
theorem show_depth.mono_l:∀ k,(∀ y0 y1 y2 y3 y4 y5,LeO (show_depth.f k y0 y1 y2 y3 y4 y5) (show_depth.f (k+1) y0 y1 y2 y3 y4 y5))∧(∀ y0 y1 y2 y3 y4 y5 y6 y7 y8 y9,LeO (show_depth.l0 k y0 y1 y2 y3 y4 y5 y6 y7 y8 y9) (show_depth.l0 (k+1) y0 y1 y2 y3 y4 y5 y6 y7 y8 y9))∧(∀ y0 y1 y2 y3 y4 y5 y6 y7 y8 y9 y10 y11 y12 y13 y14 y15 y16 y17,LeO (show_depth.j1 k y0 y1 y2 y3 y4 y5 y6 y7 y8 y9 y10 y11 y12 y13 y14 y15 y16 y17) (show_depth.j1 (k+1) y0 y1 y2 y3 y4 y5 y6 y7 y8 y9 y10 y11 y12 y13 y14 y15 y16 y17))
 |  0 => ⟨fun _ _ _ _ _ _ r h => by simp [show_depth.f] at h,fun _ _ _ _ _ _ _ _ _ _ r h => by simp [show_depth.l0] at h,fun _ _ _ _ _ _ _ _ _ _ _ _ _ _ _ _ _ _ r h => by simp [show_depth.j1] at h⟩
 |  k+1 => by
  obtain ⟨ih0,ih1,ih2⟩:=show_depth.mono_l k
  refine ⟨?_,?_,?_⟩
  ·intro y0 y1 y2 y3 y4 y5
   unfold show_depth.f
   repeat' first
   |  (with_reducible exact ih0 _ _ _ _ _ _)
   |  (with_reducible exact ih1 _ _ _ _ _ _ _ _ _ _)
   |  (with_reducible exact ih2 _ _ _ _ _ _ _ _ _ _ _ _ _ _ _ _ _ _)
   |  (with_reducible exact LeO.refl _)
   |  (with_reducible exact LeO.none _)
   |  (with_reducible refine LeO.ite ?_ ?_)
   |  (with_reducible refine LeO.bind ?_ (fun _ => ?_))
   |  exact ih0 _ _ _ _ _ _
   |  exact ih1 _ _ _ _ _ _ _ _ _ _
   |  exact ih2 _ _ _ _ _ _ _ _ _ _ _ _ _ _ _ _ _ _
   |  exact LeO.none _
   |  refine LeO.ite ?_ ?_
   |  refine LeO.bind ?_ (fun _ => ?_)
  ·intro y0 y1 y2 y3 y4 y5 y6 y7 y8 y9
   unfold show_depth.l0
   repeat' first
   |  (with_reducible exact ih0 _ _ _ _ _ _)
   |  (with_reducible exact ih1 _ _ _ _ _ _ _ _ _ _)
   |  (with_reducible exact ih2 _ _ _ _ _ _ _ _ _ _ _ _ _ _ _ _ _ _)
   |  (with_reducible exact LeO.refl _)
   |  (with_reducible exact LeO.none _)
   |  (with_reducible refine LeO.ite ?_ ?_)
   |  (with_reducible refine LeO.bind ?_ (fun _ => ?_))
   |  exact ih0 _ _ _ _ _ _
   |  exact ih1 _ _ _ _ _ _ _ _ _ _
   |  exact ih2 _ _ _ _ _ _ _ _ _ _ _ _ _ _ _ _ _ _
   |  exact LeO.none _
   |  refine LeO.ite ?_ ?_
   |  refine LeO.bind ?_ (fun _ => ?_)
  ·intro y0 y1 y2 y3 y4 y5 y6 y7 y8 y9 y10 y11 y12 y13 y14 y15 y16 y17
   unfold show_depth.j1
   repeat' first
   |  (with_reducible exact ih0 _ _ _ _ _ _)
   |  (with_reducible exact ih1 _ _ _ _ _ _ _ _ _ _)
   |  (with_reducible exact ih2 _ _ _ _ _ _ _ _ _ _ _ _ _ _ _ _ _ _)
   |  (with_reducible exact LeO.refl _)
   |  (with_reducible exact LeO.none _)
   |  (with_reducible refine LeO.ite ?_ ?_)
   |  (with_reducible refine LeO.bind ?_ (fun _ => ?_))
   |  exact ih0 _ _ _ _ _ _
   |  exact ih1 _ _ _ _ _ _ _ _ _ _
   |  exact ih2 _ _ _ _ _ _ _ _ _ _ _ _ _ _ _ _ _ _
   |  exact LeO.none _
   |  refine LeO.ite ?_ ?_
   |  refine LeO.bind ?_ (fun _ => ?_)
theorem show_depth.mono:∀ a0 a1 a2 a3 a4 a5 k,LeO (show_depth.f k a0 a1 a2 a3 a4 a5) (show_depth.f (k+1) a0 a1 a2 a3 a4 a5):=by
 intro a0 a1 a2 a3 a4 a5 k
 obtain ⟨ih0,ih1,ih2⟩:=show_depth.mono_l k
 exact ih0 a0 a1 a2 a3 a4 a5
set_option maxHeartbeats 8000000 in
set_option maxRecDepth 100000 in
theorem show_depth.calls (k:Nat):∀ (a0_0:Int) (A0_1:Option Addr) (c0_1:Nat) (l0_1:List (S28)) (a0_2:Int) (a0_3:Int) (a0_4:ByteArray) (a0_5:Int) (r:Int) (w:World) (hr0_1:Kd.C k28 w A0_1 l0_1.length l0_1) (hc0_1:l0_1.length≤c0_1) (hLd:LaidAt w) (h:show_depth.f k a0_0 l0_1 a0_2 a0_3 a0_4 a0_5=some r),
  Calls Tryz.prog 65 #[.agg #[.int .i64 a0_0,.slice A0_1 l0_1.length c0_1,.int .i64 a0_2,.int .u64 a0_3,.string a0_4,.int .u64 a0_5]] w fun e w' => e=.returned (.int .i64 r)∧Below w.heap.size w w':=by
 induction k using Nat.strongRecOn with
 |  _ k ih =>
 intro a0_0 A0_1 c0_1 l0_1 a0_2 a0_3 a0_4 a0_5 r w hr0_1 hc0_1 hLd h
 cases k with
 |  zero => exact absurd h (by simp [show_depth.f])
 |  succ k =>
 simp only [show_depth.f] at h
 have hu28:=Tryz.underlying28
 have HLD:=Aside0.mk hLd
 clear hLd
 have HR0_1:=Aside0.mk hr0_1
 have HC0_1:=Aside0.mk hc0_1
 clear hr0_1 hc0_1
 have HB:=Aside0.mk (Below.refl w.heap.size w)
 have H:(show_depth.l0 k 0 l0_1 (l0_1.length:Int) 0 a0_0 l0_1 a0_2 a0_3 a0_4 a0_5)=some r:=h
 clear h
 have H':=Aside0.mk H
 clear H
 go_enter Tryz.func65,Tryz.ntmps65
 go_wp2_with (first|((with_reducible refine gate_dst (N:=1) rfl ?_);refine box_event ?hg (N:=1) ?hd (cs:=#[.int .i64 a0_0,.slice A0_1 l0_1.length c0_1,.int .i64 a0_2,.int .u64 a0_3,.string a0_4,.int .u64 a0_5]) (t:=28) ?hr ?_;(case hd => rfl);(case hg => rfl);(case hr => first|(go_simp;done)|(go_simp;rfl));intro gb142 hg w2 hbox hb;have n0_:=Aside0.mk (below_step (by repeat (with_reducible first|exact HB.out|apply below_alloc|apply pw_below_drewN|apply below_drew1)) hb);have n1_:=Aside0.mk (hbox);have n2_:=Aside0.mk ((by rw [hg];exact (below_size (by repeat (with_reducible first|exact HB.out|apply below_alloc|apply pw_below_drewN|apply below_drew1))):w.heap.size≤gb142));have n3_:=Aside0.mk ((by rw [hg];exact (below_size (by repeat (with_reducible first|exact HB.out|apply below_alloc|apply pw_below_drewN|apply below_drew1))):w.heap.size≤gb142));clear HB;have HB:=n0_;have BK142:=n1_;have GW142:=n2_;have GE142:=n3_;clear n0_ n1_ n2_ n3_;clear hb hbox hg;have hcz3_0:w2.cell? ⟨gb142,0,none⟩=some (.int .i64 a0_0):=(blk_cell BK142.out 0).trans rfl;have hcz3_1:w2.cell? ⟨gb142,1,none⟩=some (.slice A0_1 l0_1.length c0_1):=(blk_cell BK142.out 1).trans rfl;have hcz3_2:w2.cell? ⟨gb142,2,none⟩=some (.int .i64 a0_2):=(blk_cell BK142.out 2).trans rfl;have hcz3_3:w2.cell? ⟨gb142,3,none⟩=some (.int .u64 a0_3):=(blk_cell BK142.out 3).trans rfl;have hcz3_4:w2.cell? ⟨gb142,4,none⟩=some (.string a0_4):=(blk_cell BK142.out 4).trans rfl;have hcz3_5:w2.cell? ⟨gb142,5,none⟩=some (.int .u64 a0_5):=(blk_cell BK142.out 5).trans rfl;have hfz3_0:=blk_frozen BK142.out 0;have hfz3_1:=blk_frozen BK142.out 1;have hfz3_2:=blk_frozen BK142.out 2;have hfz3_3:=blk_frozen BK142.out 3;have hfz3_4:=blk_frozen BK142.out 4;have hfz3_5:=blk_frozen BK142.out 5))
 go_loopg [3,11] k (fun kq v3 v11 w' =>∃(x3_1:Int) (x11_1:Int),v3=.int .i64 x3_1∧v11=.int .i64 x11_1∧Aside0 (show_depth.l0 kq x3_1 l0_1 (l0_1.length:Int) x11_1 a0_0 l0_1 a0_2 a0_3 a0_4 a0_5=some r)∧Aside0 (kq≤k)∧Aside0 (w'.heap[gb142]?=some (.cells #[.int .i64 a0_0,(.slice A0_1 l0_1.length c0_1),.int .i64 a0_2,.int .u64 a0_3,.string a0_4,.int .u64 a0_5] 28 (0,0)))∧Aside0 (Below w.heap.size w w'))
 case atStart => exact ⟨(0),(0),(by first|rfl|(simp;done)|(simp [*];done)),(by first|rfl|(simp;done)|(simp [*];done)),H',⟨Nat.le_refl _⟩,⟨by (with_reducible repeat (first|refine zN ?_|refine zD ?_|refine zA ?_));exact BK142.out⟩,⟨by repeat (first|(with_reducible first|exact HB.out|apply below_alloc|apply pw_below_drewN|apply below_drew1|refine below_set ?_ GE142.out)|exact HB.out)⟩⟩
 case round =>
  clear H'
  obtain ⟨x3_1,x11_1,rfl,rfl,HA,HK1,BK142,HB⟩:=hrel
  cases gk with
  |  zero => exact absurd HA.out (by simp [show_depth.l0])
  |  succ k1 =>
   have H:=HA.out
   clear HA
   simp only [show_depth.l0] at H
   by_cases c4:x11_1<(l0_1.length:Int)
   ·rw [if_pos c4] at H
    have c4b0:decide (x11_1<(l0_1.length:Int))=true:=decide_eq_true c4
    clear c4
    by_cases c5:0≤x11_1
    ·rw [if_pos c5] at H
     have c5b0:decide (0≤x11_1)=true:=decide_eq_true c5
     clear c5
     by_cases c6:x11_1<(l0_1.length:Int)
     ·rw [if_pos c6] at H
      have c6b0:decide (x11_1<(l0_1.length:Int))=true:=decide_eq_true c6
      clear c6
      replace H:=Option.bind_eq_some_iff.mp H
      obtain ⟨t145,A70,H⟩:=H
      replace H:(if ((rd_T28 l0_1 x11_1).f0)=1 then (show_depth.j1 k1 x3_1 t145 true l0_1 (l0_1.length:Int) x11_1 a0_0 l0_1 a0_2 a0_3 a0_4 a0_5 ((rd_T28 l0_1 x11_1).f0) ((rd_T28 l0_1 x11_1).f1) ((rd_T28 l0_1 x11_1).f2) ((rd_T28 l0_1 x11_1).f3) ((rd_T28 l0_1 x11_1).f4) ((rd_T28 l0_1 x11_1).f5)) else (show_depth.j1 k1 x3_1 t145 (((rd_T28 l0_1 x11_1).f0)==2) l0_1 (l0_1.length:Int) x11_1 a0_0 l0_1 a0_2 a0_3 a0_4 a0_5 ((rd_T28 l0_1 x11_1).f0) ((rd_T28 l0_1 x11_1).f1) ((rd_T28 l0_1 x11_1).f2) ((rd_T28 l0_1 x11_1).f3) ((rd_T28 l0_1 x11_1).f4) ((rd_T28 l0_1 x11_1).f5)))=some r:=H
      have A7:=Aside0.mk A70
      clear A70
      have HC8:=Aside0.mk H
      clear H
      have p143:0≤(x11_1:Int):=of_decide_eq_true (by first|(with_reducible assumption)|assumption)
      have q143:x11_1<(l0_1.length:Int):=of_decide_eq_true (by first|(with_reducible assumption)|assumption)
      obtain ⟨ad143,A143_1,c143_1,e143,hx143_0,hx143_1,hx143_2,hx143_3,hx143_4,hx143_5,hl143_1,hi143_1⟩:=at_T28 HR0_1.out x11_1 p143 q143
      cases e143
      replace hx143_0:=(HB.out.cell (World.block_lt_of_cell? w _ hx143_0)).trans hx143_0
      replace hx143_1:=(HB.out.cell (World.block_lt_of_cell? w _ hx143_1)).trans hx143_1
      replace hx143_2:=(HB.out.cell (World.block_lt_of_cell? w _ hx143_2)).trans hx143_2
      replace hx143_3:=(HB.out.cell (World.block_lt_of_cell? w _ hx143_3)).trans hx143_3
      replace hx143_4:=(HB.out.cell (World.block_lt_of_cell? w _ hx143_4)).trans hx143_4
      replace hx143_5:=(HB.out.cell (World.block_lt_of_cell? w _ hx143_5)).trans hx143_5
      have HR143_1:=Aside0.mk hi143_1
      have HC143_1:=Aside0.mk hl143_1
      clear hi143_1 hl143_1
      replace p143:=eq_true p143
      replace q143:=eq_true q143
      go_upto_region 6 with (first|((with_reducible refine gate_dst (N:=5) rfl ?_);refine box_event ?hg (N:=5) ?hd (cs:=#[.int .i64 0,.slice none 0 0,.int .i64 0,.int .u64 0,.string ⟨#[]⟩,.int .u64 0]) (t:=28) ?hr ?_;(case hd => rfl);(case hg => rfl);(case hr => first|(go_simp;done)|(go_simp;rfl));intro gb144 hg w9 hbox hb;have n0_:=Aside0.mk (blk_below (g:=gb142) (o:=.cells #[.int .i64 a0_0,.slice (some ad143) l0_1.length c0_1,.int .i64 a0_2,.int .u64 a0_3,.string a0_4,.int .u64 a0_5] 28 (0,0)) (by (with_reducible repeat (first|refine zN ?_|refine zD ?_|refine zA ?_));exact BK142.out) hb);have n1_:=Aside0.mk (below_step (by repeat (first|(with_reducible first|exact HB.out|apply below_alloc|apply pw_below_drewN|apply below_drew1|refine below_set ?_ GE142.out)|exact HB.out)) hb);have n2_:=Aside0.mk (hbox);have n3_:=Aside0.mk ((by rw [hg];exact (below_size (by repeat (first|(with_reducible first|exact HB.out|apply below_alloc|apply pw_below_drewN|apply below_drew1|refine below_set ?_ GE142.out)|exact HB.out))):w.heap.size≤gb144));have n4_:=Aside0.mk ((by rw [hg];exact (below_size (by repeat (first|(with_reducible first|exact HB.out|apply below_alloc|apply pw_below_drewN|apply below_drew1|refine below_set ?_ GE142.out)|exact HB.out))):w.heap.size≤gb144));have n5_:=Aside0.mk ((by rw [hg];exact Nat.ne_of_lt (blk_lt (g:=gb142) (o:=.cells #[.int .i64 a0_0,.slice (some ad143) l0_1.length c0_1,.int .i64 a0_2,.int .u64 a0_3,.string a0_4,.int .u64 a0_5] 28 (0,0)) (by (with_reducible repeat (first|refine zN ?_|refine zD ?_|refine zA ?_));exact BK142.out)):gb142 ≠ gb144));have n6_:=Aside0.mk ((by rw [hg];exact Nat.ne_of_gt (blk_lt (g:=gb142) (o:=.cells #[.int .i64 a0_0,.slice (some ad143) l0_1.length c0_1,.int .i64 a0_2,.int .u64 a0_3,.string a0_4,.int .u64 a0_5] 28 (0,0)) (by (with_reducible repeat (first|refine zN ?_|refine zD ?_|refine zA ?_));exact BK142.out)):gb144 ≠ gb142));clear BK142;clear HB;have BK142:=n0_;have HB:=n1_;have BK144:=n2_;have GW144:=n3_;have GE144:=n4_;have NB142_144:=n5_;have NB144_142:=n6_;clear n0_ n1_ n2_ n3_ n4_ n5_ n6_;clear hb hbox hg;have hnb10:=NB144_142.out;have hnc10:=NB142_144.out;have hcz11_0:w9.cell? ⟨gb144,0,none⟩=some (.int .i64 0):=(blk_cell BK144.out 0).trans rfl;have hcz11_1:w9.cell? ⟨gb144,1,none⟩=some (.slice none 0 0):=(blk_cell BK144.out 1).trans rfl;have hcz11_2:w9.cell? ⟨gb144,2,none⟩=some (.int .i64 0):=(blk_cell BK144.out 2).trans rfl;have hcz11_3:w9.cell? ⟨gb144,3,none⟩=some (.int .u64 0):=(blk_cell BK144.out 3).trans rfl;have hcz11_4:w9.cell? ⟨gb144,4,none⟩=some (.string ⟨#[]⟩):=(blk_cell BK144.out 4).trans rfl;have hcz11_5:w9.cell? ⟨gb144,5,none⟩=some (.int .u64 0):=(blk_cell BK144.out 5).trans rfl;have hfz11_0:=blk_frozen BK144.out 0;have hfz11_1:=blk_frozen BK144.out 1;have hfz11_2:=blk_frozen BK144.out 2;have hfz11_3:=blk_frozen BK144.out 3;have hfz11_4:=blk_frozen BK144.out 4;have hfz11_5:=blk_frozen BK144.out 5)|((with_reducible refine gate_callee (f:=65) rfl ?_);refine goesL_ (some 16) rfl rfl Tryz.func65 (by kernel_rfl) rfl #[.agg #[.int .i64 ((rd_T28 l0_1 x11_1).f0),.slice A143_1 ((rd_T28 l0_1 x11_1).f1).length c143_1,.int .i64 ((rd_T28 l0_1 x11_1).f2),.int .u64 ((rd_T28 l0_1 x11_1).f3),.string ((rd_T28 l0_1 x11_1).f4),.int .u64 ((rd_T28 l0_1 x11_1).f5)]] rfl (by (try simp only [List.map_toArray,List.map_cons,List.map_nil]);first|done|rfl|(simp only [List.length_drop,List.length_take];rfl)) ?_;(with_reducible refine (ih k1 (by have:=HK1.out;omega) ((rd_T28 l0_1 x11_1).f0) _ _ ((rd_T28 l0_1 x11_1).f1) ((rd_T28 l0_1 x11_1).f2) ((rd_T28 l0_1 x11_1).f3) ((rd_T28 l0_1 x11_1).f4) ((rd_T28 l0_1 x11_1).f5) t145 _ ?side1 ?side2 ?side3 A7.out).mono ?_);(case side1 => exact Kd.C_below HR143_1.out (by repeat (first|(with_reducible first|exact HB.out|apply below_alloc|apply pw_below_drewN|apply below_drew1|refine below_set ?_ GE142.out|refine below_set ?_ GE144.out)|exact HB.out)));(case side2 => exact HC143_1.out);(case side3 => exact LaidAt.of HLD.out (by repeat (first|(with_reducible first|exact HB.out|apply below_alloc|apply pw_below_drewN|apply below_drew1|refine below_set ?_ GE142.out|refine below_set ?_ GE144.out)|exact HB.out)));rintro e w12 ⟨rfl,hb⟩;refine ⟨_,rfl,?_⟩;have n0_:=Aside0.mk (blk_below (g:=gb142) (o:=.cells #[.int .i64 a0_0,.slice (some ad143) l0_1.length c0_1,.int .i64 a0_2,.int .u64 a0_3,.string a0_4,.int .u64 a0_5] 28 (0,0)) (by (with_reducible repeat (first|refine zN ?_|refine zD ?_|refine zA ?_));refine blk_far ?_ NB142_144.out _;(with_reducible repeat (first|refine zN ?_|refine zD ?_|refine zA ?_));refine blk_far ?_ NB142_144.out _;(with_reducible repeat (first|refine zN ?_|refine zD ?_|refine zA ?_));refine blk_far ?_ NB142_144.out _;(with_reducible repeat (first|refine zN ?_|refine zD ?_|refine zA ?_));refine blk_far ?_ NB142_144.out _;(with_reducible repeat (first|refine zN ?_|refine zD ?_|refine zA ?_));refine blk_far ?_ NB142_144.out _;(with_reducible repeat (first|refine zN ?_|refine zD ?_|refine zA ?_));refine blk_far ?_ NB142_144.out _;(with_reducible repeat (first|refine zN ?_|refine zD ?_|refine zA ?_));exact BK142.out) hb);have n1_:=Aside0.mk (blk_below (g:=gb144) (o:=.cells #[.int .i64 ((rd_T28 l0_1 x11_1).f0),.slice A143_1 ((rd_T28 l0_1 x11_1).f1).length c143_1,.int .i64 ((rd_T28 l0_1 x11_1).f2),.int .u64 ((rd_T28 l0_1 x11_1).f3),.string ((rd_T28 l0_1 x11_1).f4),.int .u64 ((rd_T28 l0_1 x11_1).f5)] 28 (0,0)) (by (with_reducible repeat (first|refine zN ?_|refine zD ?_|refine zA ?_));refine blk_put (cs:=#[.int .i64 ((rd_T28 l0_1 x11_1).f0),.slice A143_1 ((rd_T28 l0_1 x11_1).f1).length c143_1,.int .i64 ((rd_T28 l0_1 x11_1).f2),.int .u64 ((rd_T28 l0_1 x11_1).f3),.string ((rd_T28 l0_1 x11_1).f4),.int .u64 0]) ?_ 5 _ rfl;(with_reducible repeat (first|refine zN ?_|refine zD ?_|refine zA ?_));refine blk_put (cs:=#[.int .i64 ((rd_T28 l0_1 x11_1).f0),.slice A143_1 ((rd_T28 l0_1 x11_1).f1).length c143_1,.int .i64 ((rd_T28 l0_1 x11_1).f2),.int .u64 ((rd_T28 l0_1 x11_1).f3),.string ⟨#[]⟩,.int .u64 0]) ?_ 4 _ rfl;(with_reducible repeat (first|refine zN ?_|refine zD ?_|refine zA ?_));refine blk_put (cs:=#[.int .i64 ((rd_T28 l0_1 x11_1).f0),.slice A143_1 ((rd_T28 l0_1 x11_1).f1).length c143_1,.int .i64 ((rd_T28 l0_1 x11_1).f2),.int .u64 0,.string ⟨#[]⟩,.int .u64 0]) ?_ 3 _ rfl;(with_reducible repeat (first|refine zN ?_|refine zD ?_|refine zA ?_));refine blk_put (cs:=#[.int .i64 ((rd_T28 l0_1 x11_1).f0),.slice A143_1 ((rd_T28 l0_1 x11_1).f1).length c143_1,.int .i64 0,.int .u64 0,.string ⟨#[]⟩,.int .u64 0]) ?_ 2 _ rfl;(with_reducible repeat (first|refine zN ?_|refine zD ?_|refine zA ?_));refine blk_put (cs:=#[.int .i64 ((rd_T28 l0_1 x11_1).f0),.slice none 0 0,.int .i64 0,.int .u64 0,.string ⟨#[]⟩,.int .u64 0]) ?_ 1 _ rfl;(with_reducible repeat (first|refine zN ?_|refine zD ?_|refine zA ?_));refine blk_put (cs:=#[.int .i64 0,.slice none 0 0,.int .i64 0,.int .u64 0,.string ⟨#[]⟩,.int .u64 0]) ?_ 0 _ rfl;(with_reducible repeat (first|refine zN ?_|refine zD ?_|refine zA ?_));exact BK144.out) hb);have n2_:=Aside0.mk (below_step (by repeat (first|(with_reducible first|exact HB.out|apply below_alloc|apply pw_below_drewN|apply below_drew1|refine below_set ?_ GE142.out|refine below_set ?_ GE144.out)|exact HB.out)) hb);clear BK142;clear BK144;clear HB;have BK142:=n0_;have BK144:=n1_;have HB:=n2_;clear n0_ n1_ n2_;(try clear hb);(try clear hb2);(try clear hk);(try clear hi)))
      (try simp only [Act.put,List.setIfInBounds_toArray,List.set_cons_zero,List.set_cons_succ])
      go_cut [7] (fun v7 wc =>∃(kq:Nat) (x7_7:Bool),v7=.bool x7_7∧Aside0 (show_depth.j1 kq x3_1 t145 x7_7 l0_1 (l0_1.length:Int) x11_1 a0_0 l0_1 a0_2 a0_3 a0_4 a0_5 ((rd_T28 l0_1 x11_1).f0) ((rd_T28 l0_1 x11_1).f1) ((rd_T28 l0_1 x11_1).f2) ((rd_T28 l0_1 x11_1).f3) ((rd_T28 l0_1 x11_1).f4) ((rd_T28 l0_1 x11_1).f5)=some r)∧Aside0 (kq≤k1)∧Aside0 (wc.heap[gb142]?=some (.cells #[.int .i64 a0_0,(.slice (some ad143) l0_1.length c0_1),.int .i64 a0_2,.int .u64 a0_3,.string a0_4,.int .u64 a0_5] 28 (0,0)))∧Aside0 (wc.heap[gb144]?=some (.cells #[.int .i64 ((rd_T28 l0_1 x11_1).f0),(.slice A143_1 ((rd_T28 l0_1 x11_1).f1).length c143_1),.int .i64 ((rd_T28 l0_1 x11_1).f2),.int .u64 ((rd_T28 l0_1 x11_1).f3),.string ((rd_T28 l0_1 x11_1).f4),.int .u64 ((rd_T28 l0_1 x11_1).f5)] 28 (0,0)))∧Aside0 (Below w.heap.size w wc))
      case first =>
       have H:=HC8.out
       clear HC8
       by_cases c13:((rd_T28 l0_1 x11_1).f0)=1
       ·rw [if_pos c13] at H
        have c13b0:(((rd_T28 l0_1 x11_1).f0)==1)=true:=beq_iff_eq.mpr c13
        have c13b1:(((rd_T28 l0_1 x11_1).f0) != 1)=false:=bne_eq_false_iff_eq.mpr c13
        clear c13
        (first|rw [c13b0]|(simp only [i64_w,i32_w];rw [c13b0])|skip)
        have H':=Aside0.mk H
        clear H
        have hnb14:=NB144_142.out
        have hnc14:=NB142_144.out
        have hcz15_0:w12.cell? ⟨gb144,0,none⟩=some (.int .i64 ((rd_T28 l0_1 x11_1).f0)):=(blk_cell BK144.out 0).trans rfl
        have hcz15_1:w12.cell? ⟨gb144,1,none⟩=some (.slice A143_1 ((rd_T28 l0_1 x11_1).f1).length c143_1):=(blk_cell BK144.out 1).trans rfl
        have hcz15_2:w12.cell? ⟨gb144,2,none⟩=some (.int .i64 ((rd_T28 l0_1 x11_1).f2)):=(blk_cell BK144.out 2).trans rfl
        have hcz15_3:w12.cell? ⟨gb144,3,none⟩=some (.int .u64 ((rd_T28 l0_1 x11_1).f3)):=(blk_cell BK144.out 3).trans rfl
        have hcz15_4:w12.cell? ⟨gb144,4,none⟩=some (.string ((rd_T28 l0_1 x11_1).f4)):=(blk_cell BK144.out 4).trans rfl
        have hcz15_5:w12.cell? ⟨gb144,5,none⟩=some (.int .u64 ((rd_T28 l0_1 x11_1).f5)):=(blk_cell BK144.out 5).trans rfl
        have hfz15_0:=blk_frozen BK144.out 0
        have hfz15_1:=blk_frozen BK144.out 1
        have hfz15_2:=blk_frozen BK144.out 2
        have hfz15_3:=blk_frozen BK144.out 3
        have hfz15_4:=blk_frozen BK144.out 4
        have hfz15_5:=blk_frozen BK144.out 5
        go_wp2
        go_meet
        case rel => exact ⟨_,(true),(by first|rfl|(simp;done)|(simp [*];done)),H',⟨by have:=HK1.out;first|omega|exact Nat.le_refl _⟩,⟨by (with_reducible repeat (first|refine zN ?_|refine zD ?_|refine zA ?_));exact BK142.out⟩,⟨by (with_reducible repeat (first|refine zN ?_|refine zD ?_|refine zA ?_));exact BK144.out⟩,⟨by repeat (first|(with_reducible first|exact HB.out|apply below_alloc|apply pw_below_drewN|apply below_drew1|refine below_set ?_ GE142.out|refine below_set ?_ GE144.out)|exact HB.out)⟩⟩
       ·rw [if_neg c13] at H
        have c13b0:(((rd_T28 l0_1 x11_1).f0)==1)=false:=beq_eq_false_iff_ne.mpr c13
        have c13b1:(((rd_T28 l0_1 x11_1).f0) != 1)=true:=bne_iff_ne.mpr c13
        (first|rw [c13b0]|(simp only [i64_w,i32_w];rw [c13b0])|skip)
        have H':=Aside0.mk H
        clear H
        have hnb16:=NB144_142.out
        have hnc16:=NB142_144.out
        have hcz17_0:w12.cell? ⟨gb144,0,none⟩=some (.int .i64 ((rd_T28 l0_1 x11_1).f0)):=(blk_cell BK144.out 0).trans rfl
        have hcz17_1:w12.cell? ⟨gb144,1,none⟩=some (.slice A143_1 ((rd_T28 l0_1 x11_1).f1).length c143_1):=(blk_cell BK144.out 1).trans rfl
        have hcz17_2:w12.cell? ⟨gb144,2,none⟩=some (.int .i64 ((rd_T28 l0_1 x11_1).f2)):=(blk_cell BK144.out 2).trans rfl
        have hcz17_3:w12.cell? ⟨gb144,3,none⟩=some (.int .u64 ((rd_T28 l0_1 x11_1).f3)):=(blk_cell BK144.out 3).trans rfl
        have hcz17_4:w12.cell? ⟨gb144,4,none⟩=some (.string ((rd_T28 l0_1 x11_1).f4)):=(blk_cell BK144.out 4).trans rfl
        have hcz17_5:w12.cell? ⟨gb144,5,none⟩=some (.int .u64 ((rd_T28 l0_1 x11_1).f5)):=(blk_cell BK144.out 5).trans rfl
        have hfz17_0:=blk_frozen BK144.out 0
        have hfz17_1:=blk_frozen BK144.out 1
        have hfz17_2:=blk_frozen BK144.out 2
        have hfz17_3:=blk_frozen BK144.out 3
        have hfz17_4:=blk_frozen BK144.out 4
        have hfz17_5:=blk_frozen BK144.out 5
        go_wp2
        go_meet
        case rel => exact ⟨_,((((rd_T28 l0_1 x11_1).f0)==2)),(by first|rfl|(simp;done)|(simp [*];done)),H',⟨by have:=HK1.out;first|omega|exact Nat.le_refl _⟩,⟨by (with_reducible repeat (first|refine zN ?_|refine zD ?_|refine zA ?_));exact BK142.out⟩,⟨by (with_reducible repeat (first|refine zN ?_|refine zD ?_|refine zA ?_));exact BK144.out⟩,⟨by repeat (first|(with_reducible first|exact HB.out|apply below_alloc|apply pw_below_drewN|apply below_drew1|refine below_set ?_ GE142.out|refine below_set ?_ GE144.out)|exact HB.out)⟩⟩
      case rest =>
       clear HC8
       obtain ⟨kq,x7_7,rfl,HA,HJ7,BK142,BK144,HB⟩:=hcut
       cases kq with
       |  zero => exact absurd HA.out (by simp [show_depth.j1])
       |  succ kj7 =>
        have H:=HA.out
        clear HA
        simp only [show_depth.j1] at H
        by_cases c18:a0_0=3
        ·rw [if_pos c18] at H
         have c18b0:(a0_0==3)=true:=beq_iff_eq.mpr c18
         have c18b1:(a0_0 != 3)=false:=bne_eq_false_iff_eq.mpr c18
         clear c18
         by_cases c19:x7_7=true
         ·subst c19
          have H1:(if a0_0=2 then (if ((rd_T28 l0_1 x11_1).f0)=1 then (show_depth.l0 kj7 (mx x3_1 (wrap64 (t145+1))) l0_1 (l0_1.length:Int) (wrap64 (x11_1+1)) a0_0 l0_1 a0_2 a0_3 a0_4 a0_5) else (show_depth.l0 kj7 (mx x3_1 (wrap64 ((wrap64 (t145+1))+1))) l0_1 (l0_1.length:Int) (wrap64 (x11_1+1)) a0_0 l0_1 a0_2 a0_3 a0_4 a0_5)) else (show_depth.l0 kj7 (mx x3_1 (wrap64 ((wrap64 (t145+1))+1))) l0_1 (l0_1.length:Int) (wrap64 (x11_1+1)) a0_0 l0_1 a0_2 a0_3 a0_4 a0_5))=some r:=by rw [if_pos rfl] at H;exact H
          clear H
          have H:=H1
          clear H1
          by_cases c20:a0_0=2
          ·rw [if_pos c20] at H
           have c20b0:(a0_0==2)=true:=beq_iff_eq.mpr c20
           have c20b1:(a0_0 != 2)=false:=bne_eq_false_iff_eq.mpr c20
           clear c20
           by_cases c21:((rd_T28 l0_1 x11_1).f0)=1
           ·rw [if_pos c21] at H
            have c21b0:(((rd_T28 l0_1 x11_1).f0)==1)=true:=beq_iff_eq.mpr c21
            have c21b1:(((rd_T28 l0_1 x11_1).f0) != 1)=false:=bne_eq_false_iff_eq.mpr c21
            clear c21
            obtain ⟨ji22,hji22⟩:∃ j_:Int,(mx x3_1 (wrap64 (t145+1)))=j_:=⟨_,rfl⟩
            replace H:(show_depth.l0 kj7 ji22 l0_1 (l0_1.length:Int) (wrap64 (x11_1+1)) a0_0 l0_1 a0_2 a0_3 a0_4 a0_5)=some r:=by first|(rw [hji22] at H;exact H)|(simp only [hji22] at H ⊢;exact H)
            have hji22_:(if x3_1<(wrap64 (t145+1)) then (wrap64 (t145+1)) else x3_1)=ji22:=hji22
            have H':=Aside0.mk H
            clear H
            have hnb23:=NB142_144.out
            have hnc23:=NB144_142.out
            have hcz24_0:wc.cell? ⟨gb142,0,none⟩=some (.int .i64 a0_0):=(blk_cell BK142.out 0).trans rfl
            have hcz24_1:wc.cell? ⟨gb142,1,none⟩=some (.slice (some ad143) l0_1.length c0_1):=(blk_cell BK142.out 1).trans rfl
            have hcz24_2:wc.cell? ⟨gb142,2,none⟩=some (.int .i64 a0_2):=(blk_cell BK142.out 2).trans rfl
            have hcz24_3:wc.cell? ⟨gb142,3,none⟩=some (.int .u64 a0_3):=(blk_cell BK142.out 3).trans rfl
            have hcz24_4:wc.cell? ⟨gb142,4,none⟩=some (.string a0_4):=(blk_cell BK142.out 4).trans rfl
            have hcz24_5:wc.cell? ⟨gb142,5,none⟩=some (.int .u64 a0_5):=(blk_cell BK142.out 5).trans rfl
            have hfz24_0:=blk_frozen BK142.out 0
            have hfz24_1:=blk_frozen BK142.out 1
            have hfz24_2:=blk_frozen BK142.out 2
            have hfz24_3:=blk_frozen BK142.out 3
            have hfz24_4:=blk_frozen BK142.out 4
            have hfz24_5:=blk_frozen BK142.out 5
            have hcz25_0:wc.cell? ⟨gb144,0,none⟩=some (.int .i64 ((rd_T28 l0_1 x11_1).f0)):=(blk_cell BK144.out 0).trans rfl
            have hcz25_1:wc.cell? ⟨gb144,1,none⟩=some (.slice A143_1 ((rd_T28 l0_1 x11_1).f1).length c143_1):=(blk_cell BK144.out 1).trans rfl
            have hcz25_2:wc.cell? ⟨gb144,2,none⟩=some (.int .i64 ((rd_T28 l0_1 x11_1).f2)):=(blk_cell BK144.out 2).trans rfl
            have hcz25_3:wc.cell? ⟨gb144,3,none⟩=some (.int .u64 ((rd_T28 l0_1 x11_1).f3)):=(blk_cell BK144.out 3).trans rfl
            have hcz25_4:wc.cell? ⟨gb144,4,none⟩=some (.string ((rd_T28 l0_1 x11_1).f4)):=(blk_cell BK144.out 4).trans rfl
            have hcz25_5:wc.cell? ⟨gb144,5,none⟩=some (.int .u64 ((rd_T28 l0_1 x11_1).f5)):=(blk_cell BK144.out 5).trans rfl
            have hfz25_0:=blk_frozen BK144.out 0
            have hfz25_1:=blk_frozen BK144.out 1
            have hfz25_2:=blk_frozen BK144.out 2
            have hfz25_3:=blk_frozen BK144.out 3
            have hfz25_4:=blk_frozen BK144.out 4
            have hfz25_5:=blk_frozen BK144.out 5
            go_wp2
            go_roundg kj7
            case measure => have:=HK1.out;have:=HJ7.out;omega
            case rel => exact ⟨(ji22),(wrap64 (x11_1+1)),(by first|rfl|(simp;done)|(simp only [← hji22]<;>(first|rfl|simp))|(simp [*];done)),(by first|rfl|(simp;done)|(simp [*];done)),H',⟨by have:=HK1.out;have:=HJ7.out;omega⟩,⟨by (with_reducible repeat (first|refine zN ?_|refine zD ?_|refine zA ?_));exact BK142.out⟩,⟨by repeat (first|(with_reducible first|exact HB.out|apply below_alloc|apply pw_below_drewN|apply below_drew1|refine below_set ?_ GE142.out|refine below_set ?_ GE144.out)|exact HB.out)⟩⟩
           ·rw [if_neg c21] at H
            have c21b0:(((rd_T28 l0_1 x11_1).f0)==1)=false:=beq_eq_false_iff_ne.mpr c21
            have c21b1:(((rd_T28 l0_1 x11_1).f0) != 1)=true:=bne_iff_ne.mpr c21
            obtain ⟨ji26,hji26⟩:∃ j_:Int,(mx x3_1 (wrap64 ((wrap64 (t145+1))+1)))=j_:=⟨_,rfl⟩
            replace H:(show_depth.l0 kj7 ji26 l0_1 (l0_1.length:Int) (wrap64 (x11_1+1)) a0_0 l0_1 a0_2 a0_3 a0_4 a0_5)=some r:=by first|(rw [hji26] at H;exact H)|(simp only [hji26] at H ⊢;exact H)
            have hji26_:(if x3_1<(wrap64 ((wrap64 (t145+1))+1)) then (wrap64 ((wrap64 (t145+1))+1)) else x3_1)=ji26:=hji26
            have H':=Aside0.mk H
            clear H
            have hnb27:=NB142_144.out
            have hnc27:=NB144_142.out
            have hcz28_0:wc.cell? ⟨gb142,0,none⟩=some (.int .i64 a0_0):=(blk_cell BK142.out 0).trans rfl
            have hcz28_1:wc.cell? ⟨gb142,1,none⟩=some (.slice (some ad143) l0_1.length c0_1):=(blk_cell BK142.out 1).trans rfl
            have hcz28_2:wc.cell? ⟨gb142,2,none⟩=some (.int .i64 a0_2):=(blk_cell BK142.out 2).trans rfl
            have hcz28_3:wc.cell? ⟨gb142,3,none⟩=some (.int .u64 a0_3):=(blk_cell BK142.out 3).trans rfl
            have hcz28_4:wc.cell? ⟨gb142,4,none⟩=some (.string a0_4):=(blk_cell BK142.out 4).trans rfl
            have hcz28_5:wc.cell? ⟨gb142,5,none⟩=some (.int .u64 a0_5):=(blk_cell BK142.out 5).trans rfl
            have hfz28_0:=blk_frozen BK142.out 0
            have hfz28_1:=blk_frozen BK142.out 1
            have hfz28_2:=blk_frozen BK142.out 2
            have hfz28_3:=blk_frozen BK142.out 3
            have hfz28_4:=blk_frozen BK142.out 4
            have hfz28_5:=blk_frozen BK142.out 5
            have hcz29_0:wc.cell? ⟨gb144,0,none⟩=some (.int .i64 ((rd_T28 l0_1 x11_1).f0)):=(blk_cell BK144.out 0).trans rfl
            have hcz29_1:wc.cell? ⟨gb144,1,none⟩=some (.slice A143_1 ((rd_T28 l0_1 x11_1).f1).length c143_1):=(blk_cell BK144.out 1).trans rfl
            have hcz29_2:wc.cell? ⟨gb144,2,none⟩=some (.int .i64 ((rd_T28 l0_1 x11_1).f2)):=(blk_cell BK144.out 2).trans rfl
            have hcz29_3:wc.cell? ⟨gb144,3,none⟩=some (.int .u64 ((rd_T28 l0_1 x11_1).f3)):=(blk_cell BK144.out 3).trans rfl
            have hcz29_4:wc.cell? ⟨gb144,4,none⟩=some (.string ((rd_T28 l0_1 x11_1).f4)):=(blk_cell BK144.out 4).trans rfl
            have hcz29_5:wc.cell? ⟨gb144,5,none⟩=some (.int .u64 ((rd_T28 l0_1 x11_1).f5)):=(blk_cell BK144.out 5).trans rfl
            have hfz29_0:=blk_frozen BK144.out 0
            have hfz29_1:=blk_frozen BK144.out 1
            have hfz29_2:=blk_frozen BK144.out 2
            have hfz29_3:=blk_frozen BK144.out 3
            have hfz29_4:=blk_frozen BK144.out 4
            have hfz29_5:=blk_frozen BK144.out 5
            go_wp2
            go_roundg kj7
            case measure => have:=HK1.out;have:=HJ7.out;omega
            case rel => exact ⟨(ji26),(wrap64 (x11_1+1)),(by first|rfl|(simp;done)|(simp only [← hji26]<;>(first|rfl|simp))|(simp [*];done)),(by first|rfl|(simp;done)|(simp [*];done)),H',⟨by have:=HK1.out;have:=HJ7.out;omega⟩,⟨by (with_reducible repeat (first|refine zN ?_|refine zD ?_|refine zA ?_));exact BK142.out⟩,⟨by repeat (first|(with_reducible first|exact HB.out|apply below_alloc|apply pw_below_drewN|apply below_drew1|refine below_set ?_ GE142.out|refine below_set ?_ GE144.out)|exact HB.out)⟩⟩
          ·rw [if_neg c20] at H
           have c20b0:(a0_0==2)=false:=beq_eq_false_iff_ne.mpr c20
           have c20b1:(a0_0 != 2)=true:=bne_iff_ne.mpr c20
           obtain ⟨ji30,hji30⟩:∃ j_:Int,(mx x3_1 (wrap64 ((wrap64 (t145+1))+1)))=j_:=⟨_,rfl⟩
           replace H:(show_depth.l0 kj7 ji30 l0_1 (l0_1.length:Int) (wrap64 (x11_1+1)) a0_0 l0_1 a0_2 a0_3 a0_4 a0_5)=some r:=by first|(rw [hji30] at H;exact H)|(simp only [hji30] at H ⊢;exact H)
           have hji30_:(if x3_1<(wrap64 ((wrap64 (t145+1))+1)) then (wrap64 ((wrap64 (t145+1))+1)) else x3_1)=ji30:=hji30
           have H':=Aside0.mk H
           clear H
           have hnb31:=NB142_144.out
           have hnc31:=NB144_142.out
           have hcz32_0:wc.cell? ⟨gb142,0,none⟩=some (.int .i64 a0_0):=(blk_cell BK142.out 0).trans rfl
           have hcz32_1:wc.cell? ⟨gb142,1,none⟩=some (.slice (some ad143) l0_1.length c0_1):=(blk_cell BK142.out 1).trans rfl
           have hcz32_2:wc.cell? ⟨gb142,2,none⟩=some (.int .i64 a0_2):=(blk_cell BK142.out 2).trans rfl
           have hcz32_3:wc.cell? ⟨gb142,3,none⟩=some (.int .u64 a0_3):=(blk_cell BK142.out 3).trans rfl
           have hcz32_4:wc.cell? ⟨gb142,4,none⟩=some (.string a0_4):=(blk_cell BK142.out 4).trans rfl
           have hcz32_5:wc.cell? ⟨gb142,5,none⟩=some (.int .u64 a0_5):=(blk_cell BK142.out 5).trans rfl
           have hfz32_0:=blk_frozen BK142.out 0
           have hfz32_1:=blk_frozen BK142.out 1
           have hfz32_2:=blk_frozen BK142.out 2
           have hfz32_3:=blk_frozen BK142.out 3
           have hfz32_4:=blk_frozen BK142.out 4
           have hfz32_5:=blk_frozen BK142.out 5
           go_wp2
           go_roundg kj7
           case measure => have:=HK1.out;have:=HJ7.out;omega
           case rel => exact ⟨(ji30),(wrap64 (x11_1+1)),(by first|rfl|(simp;done)|(simp only [← hji30]<;>(first|rfl|simp))|(simp [*];done)),(by first|rfl|(simp;done)|(simp [*];done)),H',⟨by have:=HK1.out;have:=HJ7.out;omega⟩,⟨by (with_reducible repeat (first|refine zN ?_|refine zD ?_|refine zA ?_));exact BK142.out⟩,⟨by repeat (first|(with_reducible first|exact HB.out|apply below_alloc|apply pw_below_drewN|apply below_drew1|refine below_set ?_ GE142.out|refine below_set ?_ GE144.out)|exact HB.out)⟩⟩
         ·replace c19:=Bool.eq_false_iff.mpr c19
          subst c19
          have H1:(show_depth.l0 kj7 (mx x3_1 (wrap64 (t145+1))) l0_1 (l0_1.length:Int) (wrap64 (x11_1+1)) a0_0 l0_1 a0_2 a0_3 a0_4 a0_5)=some r:=by rw [if_neg (show ¬ (false=true) by decide)] at H;exact H
          clear H
          have H:=H1
          clear H1
          obtain ⟨ji33,hji33⟩:∃ j_:Int,(mx x3_1 (wrap64 (t145+1)))=j_:=⟨_,rfl⟩
          replace H:(show_depth.l0 kj7 ji33 l0_1 (l0_1.length:Int) (wrap64 (x11_1+1)) a0_0 l0_1 a0_2 a0_3 a0_4 a0_5)=some r:=by first|(rw [hji33] at H;exact H)|(simp only [hji33] at H ⊢;exact H)
          have hji33_:(if x3_1<(wrap64 (t145+1)) then (wrap64 (t145+1)) else x3_1)=ji33:=hji33
          have H':=Aside0.mk H
          clear H
          have hnb34:=NB142_144.out
          have hnc34:=NB144_142.out
          have hcz35_0:wc.cell? ⟨gb142,0,none⟩=some (.int .i64 a0_0):=(blk_cell BK142.out 0).trans rfl
          have hcz35_1:wc.cell? ⟨gb142,1,none⟩=some (.slice (some ad143) l0_1.length c0_1):=(blk_cell BK142.out 1).trans rfl
          have hcz35_2:wc.cell? ⟨gb142,2,none⟩=some (.int .i64 a0_2):=(blk_cell BK142.out 2).trans rfl
          have hcz35_3:wc.cell? ⟨gb142,3,none⟩=some (.int .u64 a0_3):=(blk_cell BK142.out 3).trans rfl
          have hcz35_4:wc.cell? ⟨gb142,4,none⟩=some (.string a0_4):=(blk_cell BK142.out 4).trans rfl
          have hcz35_5:wc.cell? ⟨gb142,5,none⟩=some (.int .u64 a0_5):=(blk_cell BK142.out 5).trans rfl
          have hfz35_0:=blk_frozen BK142.out 0
          have hfz35_1:=blk_frozen BK142.out 1
          have hfz35_2:=blk_frozen BK142.out 2
          have hfz35_3:=blk_frozen BK142.out 3
          have hfz35_4:=blk_frozen BK142.out 4
          have hfz35_5:=blk_frozen BK142.out 5
          go_wp2
          go_roundg kj7
          case measure => have:=HK1.out;have:=HJ7.out;omega
          case rel => exact ⟨(ji33),(wrap64 (x11_1+1)),(by first|rfl|(simp;done)|(simp only [← hji33]<;>(first|rfl|simp))|(simp [*];done)),(by first|rfl|(simp;done)|(simp [*];done)),H',⟨by have:=HK1.out;have:=HJ7.out;omega⟩,⟨by (with_reducible repeat (first|refine zN ?_|refine zD ?_|refine zA ?_));exact BK142.out⟩,⟨by repeat (first|(with_reducible first|exact HB.out|apply below_alloc|apply pw_below_drewN|apply below_drew1|refine below_set ?_ GE142.out|refine below_set ?_ GE144.out)|exact HB.out)⟩⟩
        ·rw [if_neg c18] at H
         have c18b0:(a0_0==3)=false:=beq_eq_false_iff_ne.mpr c18
         have c18b1:(a0_0 != 3)=true:=bne_iff_ne.mpr c18
         by_cases c36:x7_7=true
         ·subst c36
          have H1:(if a0_0=2 then (if ((rd_T28 l0_1 x11_1).f0)=1 then (show_depth.l0 kj7 (mx x3_1 t145) l0_1 (l0_1.length:Int) (wrap64 (x11_1+1)) a0_0 l0_1 a0_2 a0_3 a0_4 a0_5) else (show_depth.l0 kj7 (mx x3_1 (wrap64 (t145+1))) l0_1 (l0_1.length:Int) (wrap64 (x11_1+1)) a0_0 l0_1 a0_2 a0_3 a0_4 a0_5)) else (show_depth.l0 kj7 (mx x3_1 (wrap64 (t145+1))) l0_1 (l0_1.length:Int) (wrap64 (x11_1+1)) a0_0 l0_1 a0_2 a0_3 a0_4 a0_5))=some r:=by rw [if_pos rfl] at H;exact H
          clear H
          have H:=H1
          clear H1
          by_cases c37:a0_0=2
          ·rw [if_pos c37] at H
           have c37b0:(a0_0==2)=true:=beq_iff_eq.mpr c37
           have c37b1:(a0_0 != 2)=false:=bne_eq_false_iff_eq.mpr c37
           clear c37
           by_cases c38:((rd_T28 l0_1 x11_1).f0)=1
           ·rw [if_pos c38] at H
            have c38b0:(((rd_T28 l0_1 x11_1).f0)==1)=true:=beq_iff_eq.mpr c38
            have c38b1:(((rd_T28 l0_1 x11_1).f0) != 1)=false:=bne_eq_false_iff_eq.mpr c38
            clear c38
            obtain ⟨ji39,hji39⟩:∃ j_:Int,(mx x3_1 t145)=j_:=⟨_,rfl⟩
            replace H:(show_depth.l0 kj7 ji39 l0_1 (l0_1.length:Int) (wrap64 (x11_1+1)) a0_0 l0_1 a0_2 a0_3 a0_4 a0_5)=some r:=by first|(rw [hji39] at H;exact H)|(simp only [hji39] at H ⊢;exact H)
            have hji39_:(if x3_1<t145 then t145 else x3_1)=ji39:=hji39
            have H':=Aside0.mk H
            clear H
            have hnb40:=NB142_144.out
            have hnc40:=NB144_142.out
            have hcz41_0:wc.cell? ⟨gb142,0,none⟩=some (.int .i64 a0_0):=(blk_cell BK142.out 0).trans rfl
            have hcz41_1:wc.cell? ⟨gb142,1,none⟩=some (.slice (some ad143) l0_1.length c0_1):=(blk_cell BK142.out 1).trans rfl
            have hcz41_2:wc.cell? ⟨gb142,2,none⟩=some (.int .i64 a0_2):=(blk_cell BK142.out 2).trans rfl
            have hcz41_3:wc.cell? ⟨gb142,3,none⟩=some (.int .u64 a0_3):=(blk_cell BK142.out 3).trans rfl
            have hcz41_4:wc.cell? ⟨gb142,4,none⟩=some (.string a0_4):=(blk_cell BK142.out 4).trans rfl
            have hcz41_5:wc.cell? ⟨gb142,5,none⟩=some (.int .u64 a0_5):=(blk_cell BK142.out 5).trans rfl
            have hfz41_0:=blk_frozen BK142.out 0
            have hfz41_1:=blk_frozen BK142.out 1
            have hfz41_2:=blk_frozen BK142.out 2
            have hfz41_3:=blk_frozen BK142.out 3
            have hfz41_4:=blk_frozen BK142.out 4
            have hfz41_5:=blk_frozen BK142.out 5
            have hcz42_0:wc.cell? ⟨gb144,0,none⟩=some (.int .i64 ((rd_T28 l0_1 x11_1).f0)):=(blk_cell BK144.out 0).trans rfl
            have hcz42_1:wc.cell? ⟨gb144,1,none⟩=some (.slice A143_1 ((rd_T28 l0_1 x11_1).f1).length c143_1):=(blk_cell BK144.out 1).trans rfl
            have hcz42_2:wc.cell? ⟨gb144,2,none⟩=some (.int .i64 ((rd_T28 l0_1 x11_1).f2)):=(blk_cell BK144.out 2).trans rfl
            have hcz42_3:wc.cell? ⟨gb144,3,none⟩=some (.int .u64 ((rd_T28 l0_1 x11_1).f3)):=(blk_cell BK144.out 3).trans rfl
            have hcz42_4:wc.cell? ⟨gb144,4,none⟩=some (.string ((rd_T28 l0_1 x11_1).f4)):=(blk_cell BK144.out 4).trans rfl
            have hcz42_5:wc.cell? ⟨gb144,5,none⟩=some (.int .u64 ((rd_T28 l0_1 x11_1).f5)):=(blk_cell BK144.out 5).trans rfl
            have hfz42_0:=blk_frozen BK144.out 0
            have hfz42_1:=blk_frozen BK144.out 1
            have hfz42_2:=blk_frozen BK144.out 2
            have hfz42_3:=blk_frozen BK144.out 3
            have hfz42_4:=blk_frozen BK144.out 4
            have hfz42_5:=blk_frozen BK144.out 5
            go_wp2
            go_roundg kj7
            case measure => have:=HK1.out;have:=HJ7.out;omega
            case rel => exact ⟨(ji39),(wrap64 (x11_1+1)),(by first|rfl|(simp;done)|(simp only [← hji39]<;>(first|rfl|simp))|(simp [*];done)),(by first|rfl|(simp;done)|(simp [*];done)),H',⟨by have:=HK1.out;have:=HJ7.out;omega⟩,⟨by (with_reducible repeat (first|refine zN ?_|refine zD ?_|refine zA ?_));exact BK142.out⟩,⟨by repeat (first|(with_reducible first|exact HB.out|apply below_alloc|apply pw_below_drewN|apply below_drew1|refine below_set ?_ GE142.out|refine below_set ?_ GE144.out)|exact HB.out)⟩⟩
           ·rw [if_neg c38] at H
            have c38b0:(((rd_T28 l0_1 x11_1).f0)==1)=false:=beq_eq_false_iff_ne.mpr c38
            have c38b1:(((rd_T28 l0_1 x11_1).f0) != 1)=true:=bne_iff_ne.mpr c38
            obtain ⟨ji43,hji43⟩:∃ j_:Int,(mx x3_1 (wrap64 (t145+1)))=j_:=⟨_,rfl⟩
            replace H:(show_depth.l0 kj7 ji43 l0_1 (l0_1.length:Int) (wrap64 (x11_1+1)) a0_0 l0_1 a0_2 a0_3 a0_4 a0_5)=some r:=by first|(rw [hji43] at H;exact H)|(simp only [hji43] at H ⊢;exact H)
            have hji43_:(if x3_1<(wrap64 (t145+1)) then (wrap64 (t145+1)) else x3_1)=ji43:=hji43
            have H':=Aside0.mk H
            clear H
            have hnb44:=NB142_144.out
            have hnc44:=NB144_142.out
            have hcz45_0:wc.cell? ⟨gb142,0,none⟩=some (.int .i64 a0_0):=(blk_cell BK142.out 0).trans rfl
            have hcz45_1:wc.cell? ⟨gb142,1,none⟩=some (.slice (some ad143) l0_1.length c0_1):=(blk_cell BK142.out 1).trans rfl
            have hcz45_2:wc.cell? ⟨gb142,2,none⟩=some (.int .i64 a0_2):=(blk_cell BK142.out 2).trans rfl
            have hcz45_3:wc.cell? ⟨gb142,3,none⟩=some (.int .u64 a0_3):=(blk_cell BK142.out 3).trans rfl
            have hcz45_4:wc.cell? ⟨gb142,4,none⟩=some (.string a0_4):=(blk_cell BK142.out 4).trans rfl
            have hcz45_5:wc.cell? ⟨gb142,5,none⟩=some (.int .u64 a0_5):=(blk_cell BK142.out 5).trans rfl
            have hfz45_0:=blk_frozen BK142.out 0
            have hfz45_1:=blk_frozen BK142.out 1
            have hfz45_2:=blk_frozen BK142.out 2
            have hfz45_3:=blk_frozen BK142.out 3
            have hfz45_4:=blk_frozen BK142.out 4
            have hfz45_5:=blk_frozen BK142.out 5
            have hcz46_0:wc.cell? ⟨gb144,0,none⟩=some (.int .i64 ((rd_T28 l0_1 x11_1).f0)):=(blk_cell BK144.out 0).trans rfl
            have hcz46_1:wc.cell? ⟨gb144,1,none⟩=some (.slice A143_1 ((rd_T28 l0_1 x11_1).f1).length c143_1):=(blk_cell BK144.out 1).trans rfl
            have hcz46_2:wc.cell? ⟨gb144,2,none⟩=some (.int .i64 ((rd_T28 l0_1 x11_1).f2)):=(blk_cell BK144.out 2).trans rfl
            have hcz46_3:wc.cell? ⟨gb144,3,none⟩=some (.int .u64 ((rd_T28 l0_1 x11_1).f3)):=(blk_cell BK144.out 3).trans rfl
            have hcz46_4:wc.cell? ⟨gb144,4,none⟩=some (.string ((rd_T28 l0_1 x11_1).f4)):=(blk_cell BK144.out 4).trans rfl
            have hcz46_5:wc.cell? ⟨gb144,5,none⟩=some (.int .u64 ((rd_T28 l0_1 x11_1).f5)):=(blk_cell BK144.out 5).trans rfl
            have hfz46_0:=blk_frozen BK144.out 0
            have hfz46_1:=blk_frozen BK144.out 1
            have hfz46_2:=blk_frozen BK144.out 2
            have hfz46_3:=blk_frozen BK144.out 3
            have hfz46_4:=blk_frozen BK144.out 4
            have hfz46_5:=blk_frozen BK144.out 5
            go_wp2
            go_roundg kj7
            case measure => have:=HK1.out;have:=HJ7.out;omega
            case rel => exact ⟨(ji43),(wrap64 (x11_1+1)),(by first|rfl|(simp;done)|(simp only [← hji43]<;>(first|rfl|simp))|(simp [*];done)),(by first|rfl|(simp;done)|(simp [*];done)),H',⟨by have:=HK1.out;have:=HJ7.out;omega⟩,⟨by (with_reducible repeat (first|refine zN ?_|refine zD ?_|refine zA ?_));exact BK142.out⟩,⟨by repeat (first|(with_reducible first|exact HB.out|apply below_alloc|apply pw_below_drewN|apply below_drew1|refine below_set ?_ GE142.out|refine below_set ?_ GE144.out)|exact HB.out)⟩⟩
          ·rw [if_neg c37] at H
           have c37b0:(a0_0==2)=false:=beq_eq_false_iff_ne.mpr c37
           have c37b1:(a0_0 != 2)=true:=bne_iff_ne.mpr c37
           obtain ⟨ji47,hji47⟩:∃ j_:Int,(mx x3_1 (wrap64 (t145+1)))=j_:=⟨_,rfl⟩
           replace H:(show_depth.l0 kj7 ji47 l0_1 (l0_1.length:Int) (wrap64 (x11_1+1)) a0_0 l0_1 a0_2 a0_3 a0_4 a0_5)=some r:=by first|(rw [hji47] at H;exact H)|(simp only [hji47] at H ⊢;exact H)
           have hji47_:(if x3_1<(wrap64 (t145+1)) then (wrap64 (t145+1)) else x3_1)=ji47:=hji47
           have H':=Aside0.mk H
           clear H
           have hnb48:=NB142_144.out
           have hnc48:=NB144_142.out
           have hcz49_0:wc.cell? ⟨gb142,0,none⟩=some (.int .i64 a0_0):=(blk_cell BK142.out 0).trans rfl
           have hcz49_1:wc.cell? ⟨gb142,1,none⟩=some (.slice (some ad143) l0_1.length c0_1):=(blk_cell BK142.out 1).trans rfl
           have hcz49_2:wc.cell? ⟨gb142,2,none⟩=some (.int .i64 a0_2):=(blk_cell BK142.out 2).trans rfl
           have hcz49_3:wc.cell? ⟨gb142,3,none⟩=some (.int .u64 a0_3):=(blk_cell BK142.out 3).trans rfl
           have hcz49_4:wc.cell? ⟨gb142,4,none⟩=some (.string a0_4):=(blk_cell BK142.out 4).trans rfl
           have hcz49_5:wc.cell? ⟨gb142,5,none⟩=some (.int .u64 a0_5):=(blk_cell BK142.out 5).trans rfl
           have hfz49_0:=blk_frozen BK142.out 0
           have hfz49_1:=blk_frozen BK142.out 1
           have hfz49_2:=blk_frozen BK142.out 2
           have hfz49_3:=blk_frozen BK142.out 3
           have hfz49_4:=blk_frozen BK142.out 4
           have hfz49_5:=blk_frozen BK142.out 5
           go_wp2
           go_roundg kj7
           case measure => have:=HK1.out;have:=HJ7.out;omega
           case rel => exact ⟨(ji47),(wrap64 (x11_1+1)),(by first|rfl|(simp;done)|(simp only [← hji47]<;>(first|rfl|simp))|(simp [*];done)),(by first|rfl|(simp;done)|(simp [*];done)),H',⟨by have:=HK1.out;have:=HJ7.out;omega⟩,⟨by (with_reducible repeat (first|refine zN ?_|refine zD ?_|refine zA ?_));exact BK142.out⟩,⟨by repeat (first|(with_reducible first|exact HB.out|apply below_alloc|apply pw_below_drewN|apply below_drew1|refine below_set ?_ GE142.out|refine below_set ?_ GE144.out)|exact HB.out)⟩⟩
         ·replace c36:=Bool.eq_false_iff.mpr c36
          subst c36
          have H1:(show_depth.l0 kj7 (mx x3_1 t145) l0_1 (l0_1.length:Int) (wrap64 (x11_1+1)) a0_0 l0_1 a0_2 a0_3 a0_4 a0_5)=some r:=by rw [if_neg (show ¬ (false=true) by decide)] at H;exact H
          clear H
          have H:=H1
          clear H1
          obtain ⟨ji50,hji50⟩:∃ j_:Int,(mx x3_1 t145)=j_:=⟨_,rfl⟩
          replace H:(show_depth.l0 kj7 ji50 l0_1 (l0_1.length:Int) (wrap64 (x11_1+1)) a0_0 l0_1 a0_2 a0_3 a0_4 a0_5)=some r:=by first|(rw [hji50] at H;exact H)|(simp only [hji50] at H ⊢;exact H)
          have hji50_:(if x3_1<t145 then t145 else x3_1)=ji50:=hji50
          have H':=Aside0.mk H
          clear H
          have hnb51:=NB142_144.out
          have hnc51:=NB144_142.out
          have hcz52_0:wc.cell? ⟨gb142,0,none⟩=some (.int .i64 a0_0):=(blk_cell BK142.out 0).trans rfl
          have hcz52_1:wc.cell? ⟨gb142,1,none⟩=some (.slice (some ad143) l0_1.length c0_1):=(blk_cell BK142.out 1).trans rfl
          have hcz52_2:wc.cell? ⟨gb142,2,none⟩=some (.int .i64 a0_2):=(blk_cell BK142.out 2).trans rfl
          have hcz52_3:wc.cell? ⟨gb142,3,none⟩=some (.int .u64 a0_3):=(blk_cell BK142.out 3).trans rfl
          have hcz52_4:wc.cell? ⟨gb142,4,none⟩=some (.string a0_4):=(blk_cell BK142.out 4).trans rfl
          have hcz52_5:wc.cell? ⟨gb142,5,none⟩=some (.int .u64 a0_5):=(blk_cell BK142.out 5).trans rfl
          have hfz52_0:=blk_frozen BK142.out 0
          have hfz52_1:=blk_frozen BK142.out 1
          have hfz52_2:=blk_frozen BK142.out 2
          have hfz52_3:=blk_frozen BK142.out 3
          have hfz52_4:=blk_frozen BK142.out 4
          have hfz52_5:=blk_frozen BK142.out 5
          go_wp2
          go_roundg kj7
          case measure => have:=HK1.out;have:=HJ7.out;omega
          case rel => exact ⟨(ji50),(wrap64 (x11_1+1)),(by first|rfl|(simp;done)|(simp only [← hji50]<;>(first|rfl|simp))|(simp [*];done)),(by first|rfl|(simp;done)|(simp [*];done)),H',⟨by have:=HK1.out;have:=HJ7.out;omega⟩,⟨by (with_reducible repeat (first|refine zN ?_|refine zD ?_|refine zA ?_));exact BK142.out⟩,⟨by repeat (first|(with_reducible first|exact HB.out|apply below_alloc|apply pw_below_drewN|apply below_drew1|refine below_set ?_ GE142.out|refine below_set ?_ GE144.out)|exact HB.out)⟩⟩
     ·rw [if_neg c6] at H
      exact absurd H (by simp)
    ·rw [if_neg c5] at H
     exact absurd H (by simp)
   ·rw [if_neg c4] at H
    have c4b0:decide (x11_1<(l0_1.length:Int))=false:=decide_eq_false c4
    clear c4
    obtain rfl:=Option.some.inj H
    go_wp2
    go_ret
    exact ⟨by first|rfl|(simp [errW_none,errW_some]<;>rfl)|(simp [*,errW_none,errW_some]<;>rfl),by repeat (first|(with_reducible first|exact HB.out|apply below_alloc|apply pw_below_drewN|apply below_drew1|refine below_set ?_ GE142.out)|exact HB.out)⟩

end Go.Proofs.YtdfjjimmnbijmaaGreatDoor.ZQ

-- Written for this claim by myprint.py over the kit's print (functions of this session supplied)
import Derived.Test.YtdfjjimmnbijmaaGreatDoorZQ0
import Derived.Test.YtdfjjimmnbijmaaGreatDoorZQ1
namespace Go.Proofs.YtdfjjimmnbijmaaGreatDoor.ZQ
open Go.RowKit Go.Proofs.YtdfjjimmnbijmaaGreatDoorW.PrintWords Go.Proofs.YtdfjjimmnbijmaaGreatDoorW.PrintLast Go.Proofs.YtdfjjimmnbijmaaGreatDoorW.PrintMore Go.Proofs.YtdfjjimmnbijmaaGreatDoor.Base
attribute [local go_sem] max2_int min2_int max_two min_two max_three min_three max_four min_four   -- for this text's walks alone
set_option linter.unusedVariables false
set_option linter.unusedSimpArgs false

/-! ### types_one: function 72 -/
mutual
def types_one.j0:Nat→Bool→Int→List (S28)→Int→Int→ByteArray→Int→Option (Bool)
 |  0,_,_,_,_,_,_,_ => none
 |  k+1,x3,x107000,x107001,x107002,x107003,x107004,x107005 => if x107000=4 then (if x107002 ≥ 0 then (if x107002<6 then ((types_signs.f).bind fun t107 => ((slices_Contains_string_string.f k t107 x107004).bind fun t110 => (if t110=true then (some ((x107001.length:Int)==0)) else (some false)))) else (some false)) else (some false)) else (if x107000=1 then (types_one.j1 k x3 x107000 (x107000==1) x107000 x107001 x107002 x107003 x107004 x107005) else (types_one.j1 k x3 x107000 (x107000==2) x107000 x107001 x107002 x107003 x107004 x107005))
def types_one.j1:Nat→Bool→Int→Bool→Int→List (S28)→Int→Int→ByteArray→Int→Option (Bool)
 |  0,_,_,_,_,_,_,_,_,_ => none
 |  k+1,x3,x23,x46,x107000,x107001,x107002,x107003,x107004,x107005 => if x46=true then (if x3=true then (some (decide ((x107001.length:Int) ≥ 2))) else (some false)) else (if x23=3 then (if x3=true then (some ((x107001.length:Int)==1)) else (some false)) else (some false))
end
def types_one.f (k:Nat) (a0_0:Int) (l0_1:List (S28)) (a0_2:Int) (a0_3:Int) (a0_4:ByteArray) (a0_5:Int):Option (Bool):=if a0_2=0 then (if a0_3=0 then (if a0_4.toList=([]:List UInt8) then (types_one.j0 k (a0_5==0) a0_0 l0_1 a0_2 a0_3 a0_4 a0_5) else (types_one.j0 k false a0_0 l0_1 a0_2 a0_3 a0_4 a0_5)) else (types_one.j0 k false a0_0 l0_1 a0_2 a0_3 a0_4 a0_5)) else (types_one.j0 k false a0_0 l0_1 a0_2 a0_3 a0_4 a0_5)
theorem types_one.mono_l:∀ k,(∀ y0 y1 y2 y3 y4 y5 y6,LeO (types_one.j0 k y0 y1 y2 y3 y4 y5 y6) (types_one.j0 (k+1) y0 y1 y2 y3 y4 y5 y6))∧(∀ y0 y1 y2 y3 y4 y5 y6 y7 y8,LeO (types_one.j1 k y0 y1 y2 y3 y4 y5 y6 y7 y8) (types_one.j1 (k+1) y0 y1 y2 y3 y4 y5 y6 y7 y8))
 |  0 => ⟨fun _ _ _ _ _ _ _ r h => by simp [types_one.j0] at h,fun _ _ _ _ _ _ _ _ _ r h => by simp [types_one.j1] at h⟩
 |  k+1 => by
  obtain ⟨ih0,ih1⟩:=types_one.mono_l k
  refine ⟨?_,?_⟩
  ·intro y0 y1 y2 y3 y4 y5 y6
   unfold types_one.j0
   repeat' first
   |  (with_reducible exact ih0 _ _ _ _ _ _ _)
   |  (with_reducible exact ih1 _ _ _ _ _ _ _ _ _)
   |  (with_reducible exact slices_Contains_string_string.mono _ _ _)
   |  (with_reducible exact LeO.refl _)
   |  (with_reducible exact LeO.none _)
   |  (with_reducible refine LeO.ite ?_ ?_)
   |  (with_reducible refine LeO.bind ?_ (fun _ => ?_))
   |  exact ih0 _ _ _ _ _ _ _
   |  exact ih1 _ _ _ _ _ _ _ _ _
   |  exact slices_Contains_string_string.mono _ _ _
   |  exact LeO.none _
   |  refine LeO.ite ?_ ?_
   |  refine LeO.bind ?_ (fun _ => ?_)
  ·intro y0 y1 y2 y3 y4 y5 y6 y7 y8
   unfold types_one.j1
   repeat' first
   |  (with_reducible exact ih0 _ _ _ _ _ _ _)
   |  (with_reducible exact ih1 _ _ _ _ _ _ _ _ _)
   |  (with_reducible exact slices_Contains_string_string.mono _ _ _)
   |  (with_reducible exact LeO.refl _)
   |  (with_reducible exact LeO.none _)
   |  (with_reducible refine LeO.ite ?_ ?_)
   |  (with_reducible refine LeO.bind ?_ (fun _ => ?_))
   |  exact ih0 _ _ _ _ _ _ _
   |  exact ih1 _ _ _ _ _ _ _ _ _
   |  exact slices_Contains_string_string.mono _ _ _
   |  exact LeO.none _
   |  refine LeO.ite ?_ ?_
   |  refine LeO.bind ?_ (fun _ => ?_)
theorem types_one.mono:∀ a0 a1 a2 a3 a4 a5 k,LeO (types_one.f k a0 a1 a2 a3 a4 a5) (types_one.f (k+1) a0 a1 a2 a3 a4 a5):=by
 intro a0 a1 a2 a3 a4 a5 k
 obtain ⟨ih0,ih1⟩:=types_one.mono_l k
 unfold types_one.f
 repeat' first
   |  (with_reducible exact ih0 _ _ _ _ _ _ _)
   |  (with_reducible exact ih1 _ _ _ _ _ _ _ _ _)
   |  (with_reducible exact slices_Contains_string_string.mono _ _ _)
   |  (with_reducible exact LeO.refl _)
   |  (with_reducible exact LeO.none _)
   |  (with_reducible refine LeO.ite ?_ ?_)
   |  (with_reducible refine LeO.bind ?_ (fun _ => ?_))
   |  exact ih0 _ _ _ _ _ _ _
   |  exact ih1 _ _ _ _ _ _ _ _ _
   |  exact slices_Contains_string_string.mono _ _ _
   |  exact LeO.none _
   |  refine LeO.ite ?_ ?_
   |  refine LeO.bind ?_ (fun _ => ?_)
def types_one.T4:Bool × List (List Nat × List Nat):=(true,[([],[]),([0],[0]),([1],[1]),([2],[2]),([3],[3]),([4,3],[3,4]),([5,3],[3,5]),([3,6],[3,6]),([7,3],[7]),([8,8],[8]),([8],[8]),([10,8],[8,10]),([9,11,9,8],[8,9,11]),([8,12],[8,12]),([13,12],[13]),([14],[14]),([15,14],[14,15]),([16,14],[14,16]),([17,14],[14,17]),([14,18],[14,18]),([19,14,0,1,2,3,4,5,6,7,8,9,10,11,12,13,14,15,16,17,18,19],[19])])
def types_one.B4:List Nat:=[0,1,3,7,15,31,63,127,255,511,511,1535,4095,8191,16383,32767,65535,131071,262143,524287,1048575]
theorem types_one.tab4:rtab .any (opsOf Tryz.f72 4)=types_one.T4:=by kernel_rfl
theorem types_one.bits4:waitsOk types_one.T4.2 types_one.B4=true:=by kernel_rfl
set_option maxHeartbeats 8000000 in
set_option maxRecDepth 100000 in
theorem types_one.calls (k:Nat) (a0_0:Int) (A0_1:Option Addr) (c0_1:Nat) (l0_1:List (S28)) (a0_2:Int) (a0_3:Int) (a0_4:ByteArray) (a0_5:Int) (r:Bool) (w:World) (hr0_1:Kd.C k28 w A0_1 l0_1.length l0_1) (hc0_1:l0_1.length≤c0_1) (hLd:LaidAt w) (h:types_one.f k a0_0 l0_1 a0_2 a0_3 a0_4 a0_5=some r) :
  Calls Tryz.prog 72 #[.agg #[.int .i64 a0_0,.slice A0_1 l0_1.length c0_1,.int .i64 a0_2,.int .u64 a0_3,.string a0_4,.int .u64 a0_5]] w fun e w' => e=.returned (.bool r)∧Below w.heap.size w w':=by
 have hu28:=Tryz.underlying28
 have HLD:=Aside0.mk hLd
 clear hLd
 have HR0_1:=Aside0.mk hr0_1
 have HC0_1:=Aside0.mk hc0_1
 clear hr0_1 hc0_1
 have HB:=Aside0.mk (Below.refl w.heap.size w)
 have H:(if a0_2=0 then (if a0_3=0 then (if a0_4.toList=([]:List UInt8) then (types_one.j0 k (a0_5==0) a0_0 l0_1 a0_2 a0_3 a0_4 a0_5) else (types_one.j0 k false a0_0 l0_1 a0_2 a0_3 a0_4 a0_5)) else (types_one.j0 k false a0_0 l0_1 a0_2 a0_3 a0_4 a0_5)) else (types_one.j0 k false a0_0 l0_1 a0_2 a0_3 a0_4 a0_5))=some r:=h
 clear h
 have HC2:=Aside0.mk H
 clear H
 go_enter Tryz.func72,Tryz.ntmps72
 go_upto_region 1 with (first|((with_reducible refine gate_dst (N:=1) rfl ?_);(try (refine gate_guard (by rfl) ?_;dsimp only));refine box_event ?hg (N:=1) ?hd (cs:=#[.int .i64 a0_0,.slice A0_1 l0_1.length c0_1,.int .i64 a0_2,.int .u64 a0_3,.string a0_4,.int .u64 a0_5]) (t:=28) ?hr ?_;(case hd => rfl);(case hg => rfl);(case hr => first|(go_simp;done)|(go_simp;rfl));intro gb106 hg w3 hbox hb;have n0_:=Aside0.mk (below_step (by repeat (with_reducible first|exact HB.out|apply below_alloc|apply pw_below_drewN|apply below_drew1)) hb);have n1_:=Aside0.mk (hbox);have n2_:=Aside0.mk ((by rw [hg];exact (below_size (by repeat (with_reducible first|exact HB.out|apply below_alloc|apply pw_below_drewN|apply below_drew1))):w.heap.size≤gb106));have n3_:=Aside0.mk ((by rw [hg];exact (below_size (by repeat (with_reducible first|exact HB.out|apply below_alloc|apply pw_below_drewN|apply below_drew1))):w.heap.size≤gb106));clear HB;have HB:=n0_;have BK106:=n1_;have GW106:=n2_;have GE106:=n3_;clear n0_ n1_ n2_ n3_;clear hb hbox hg))
 (try simp only [Act.put,List.setIfInBounds_toArray,List.set_cons_zero,List.set_cons_succ])
 go_cut [3] (fun v3 wc =>∃(kq:Nat) (x3_1:Bool),v3=.bool x3_1∧Aside0 (types_one.j0 kq x3_1 a0_0 l0_1 a0_2 a0_3 a0_4 a0_5=some r)∧Aside0 (kq≤k)∧Aside0 (wc.heap[gb106]?=some (.cells #[.int .i64 a0_0,(.slice A0_1 l0_1.length c0_1),.int .i64 a0_2,.int .u64 a0_3,.string a0_4,.int .u64 a0_5] 28 (0,0)))∧Aside0 (Below w.heap.size w wc))
 case first =>
  have H:=HC2.out
  clear HC2
  by_cases c4:a0_2=0
  ·rw [if_pos c4] at H
   have c4b0:(a0_2==0)=true:=beq_iff_eq.mpr c4
   have c4b1:(a0_2 != 0)=false:=bne_eq_false_iff_eq.mpr c4
   clear c4
   (first|rw [c4b0]|(simp only [i64_w,i32_w];rw [c4b0])|skip)
   by_cases c5:a0_3=0
   ·rw [if_pos c5] at H
    have c5b0:(a0_3==0)=true:=beq_iff_eq.mpr c5
    have c5b1:(a0_3 != 0)=false:=bne_eq_false_iff_eq.mpr c5
    clear c5
    by_cases c6:a0_4.toList=([]:List UInt8)
    ·rw [if_pos c6] at H
     have c6b0:(a0_4.toList==([]:List UInt8))=true:=beq_iff_eq.mpr c6
     have c6b1:(a0_4.toList != ([]:List UInt8))=false:=bne_eq_false_iff_eq.mpr c6
     clear c6
     have H':=Aside0.mk H
     clear H
     have hcz7_0:w3.cell? ⟨gb106,0,none⟩=some (.int .i64 a0_0):=(blk_cell BK106.out 0).trans rfl
     have hcz7_1:w3.cell? ⟨gb106,1,none⟩=some (.slice A0_1 l0_1.length c0_1):=(blk_cell BK106.out 1).trans rfl
     have hcz7_2:w3.cell? ⟨gb106,2,none⟩=some (.int .i64 a0_2):=(blk_cell BK106.out 2).trans rfl
     have hcz7_3:w3.cell? ⟨gb106,3,none⟩=some (.int .u64 a0_3):=(blk_cell BK106.out 3).trans rfl
     have hcz7_4:w3.cell? ⟨gb106,4,none⟩=some (.string a0_4):=(blk_cell BK106.out 4).trans rfl
     have hcz7_5:w3.cell? ⟨gb106,5,none⟩=some (.int .u64 a0_5):=(blk_cell BK106.out 5).trans rfl
     have hfz7_0:=blk_frozen BK106.out 0
     have hfz7_1:=blk_frozen BK106.out 1
     have hfz7_2:=blk_frozen BK106.out 2
     have hfz7_3:=blk_frozen BK106.out 3
     have hfz7_4:=blk_frozen BK106.out 4
     have hfz7_5:=blk_frozen BK106.out 5
     go_wp2
     go_meet
     case rel => exact ⟨_,((a0_5==0)),(by first|rfl|(simp;done)|(simp [*];done)),H',⟨by first|omega|exact Nat.le_refl _⟩,⟨by (with_reducible repeat (first|refine zN ?_|refine zD ?_|refine zA ?_));exact BK106.out⟩,⟨by repeat (first|(with_reducible first|exact HB.out|apply below_alloc|apply pw_below_drewN|apply below_drew1|refine below_set ?_ GE106.out)|exact HB.out)⟩⟩
    ·rw [if_neg c6] at H
     have c6b0:(a0_4.toList==([]:List UInt8))=false:=beq_eq_false_iff_ne.mpr c6
     have c6b1:(a0_4.toList != ([]:List UInt8))=true:=bne_iff_ne.mpr c6
     have H':=Aside0.mk H
     clear H
     have hcz8_0:w3.cell? ⟨gb106,0,none⟩=some (.int .i64 a0_0):=(blk_cell BK106.out 0).trans rfl
     have hcz8_1:w3.cell? ⟨gb106,1,none⟩=some (.slice A0_1 l0_1.length c0_1):=(blk_cell BK106.out 1).trans rfl
     have hcz8_2:w3.cell? ⟨gb106,2,none⟩=some (.int .i64 a0_2):=(blk_cell BK106.out 2).trans rfl
     have hcz8_3:w3.cell? ⟨gb106,3,none⟩=some (.int .u64 a0_3):=(blk_cell BK106.out 3).trans rfl
     have hcz8_4:w3.cell? ⟨gb106,4,none⟩=some (.string a0_4):=(blk_cell BK106.out 4).trans rfl
     have hcz8_5:w3.cell? ⟨gb106,5,none⟩=some (.int .u64 a0_5):=(blk_cell BK106.out 5).trans rfl
     have hfz8_0:=blk_frozen BK106.out 0
     have hfz8_1:=blk_frozen BK106.out 1
     have hfz8_2:=blk_frozen BK106.out 2
     have hfz8_3:=blk_frozen BK106.out 3
     have hfz8_4:=blk_frozen BK106.out 4
     have hfz8_5:=blk_frozen BK106.out 5
     go_wp2
     go_meet
     case rel => exact ⟨_,(false),(by first|rfl|(simp;done)|(simp [*];done)),H',⟨by first|omega|exact Nat.le_refl _⟩,⟨by (with_reducible repeat (first|refine zN ?_|refine zD ?_|refine zA ?_));exact BK106.out⟩,⟨by repeat (first|(with_reducible first|exact HB.out|apply below_alloc|apply pw_below_drewN|apply below_drew1|refine below_set ?_ GE106.out)|exact HB.out)⟩⟩
   ·rw [if_neg c5] at H
    have c5b0:(a0_3==0)=false:=beq_eq_false_iff_ne.mpr c5
    have c5b1:(a0_3 != 0)=true:=bne_iff_ne.mpr c5
    have H':=Aside0.mk H
    clear H
    have hcz9_0:w3.cell? ⟨gb106,0,none⟩=some (.int .i64 a0_0):=(blk_cell BK106.out 0).trans rfl
    have hcz9_1:w3.cell? ⟨gb106,1,none⟩=some (.slice A0_1 l0_1.length c0_1):=(blk_cell BK106.out 1).trans rfl
    have hcz9_2:w3.cell? ⟨gb106,2,none⟩=some (.int .i64 a0_2):=(blk_cell BK106.out 2).trans rfl
    have hcz9_3:w3.cell? ⟨gb106,3,none⟩=some (.int .u64 a0_3):=(blk_cell BK106.out 3).trans rfl
    have hcz9_4:w3.cell? ⟨gb106,4,none⟩=some (.string a0_4):=(blk_cell BK106.out 4).trans rfl
    have hcz9_5:w3.cell? ⟨gb106,5,none⟩=some (.int .u64 a0_5):=(blk_cell BK106.out 5).trans rfl
    have hfz9_0:=blk_frozen BK106.out 0
    have hfz9_1:=blk_frozen BK106.out 1
    have hfz9_2:=blk_frozen BK106.out 2
    have hfz9_3:=blk_frozen BK106.out 3
    have hfz9_4:=blk_frozen BK106.out 4
    have hfz9_5:=blk_frozen BK106.out 5
    go_wp2
    go_meet
    case rel => exact ⟨_,(false),(by first|rfl|(simp;done)|(simp [*];done)),H',⟨by first|omega|exact Nat.le_refl _⟩,⟨by (with_reducible repeat (first|refine zN ?_|refine zD ?_|refine zA ?_));exact BK106.out⟩,⟨by repeat (first|(with_reducible first|exact HB.out|apply below_alloc|apply pw_below_drewN|apply below_drew1|refine below_set ?_ GE106.out)|exact HB.out)⟩⟩
  ·rw [if_neg c4] at H
   have c4b0:(a0_2==0)=false:=beq_eq_false_iff_ne.mpr c4
   have c4b1:(a0_2 != 0)=true:=bne_iff_ne.mpr c4
   (first|rw [c4b0]|(simp only [i64_w,i32_w];rw [c4b0])|skip)
   have H':=Aside0.mk H
   clear H
   have hcz10_0:w3.cell? ⟨gb106,0,none⟩=some (.int .i64 a0_0):=(blk_cell BK106.out 0).trans rfl
   have hcz10_1:w3.cell? ⟨gb106,1,none⟩=some (.slice A0_1 l0_1.length c0_1):=(blk_cell BK106.out 1).trans rfl
   have hcz10_2:w3.cell? ⟨gb106,2,none⟩=some (.int .i64 a0_2):=(blk_cell BK106.out 2).trans rfl
   have hcz10_3:w3.cell? ⟨gb106,3,none⟩=some (.int .u64 a0_3):=(blk_cell BK106.out 3).trans rfl
   have hcz10_4:w3.cell? ⟨gb106,4,none⟩=some (.string a0_4):=(blk_cell BK106.out 4).trans rfl
   have hcz10_5:w3.cell? ⟨gb106,5,none⟩=some (.int .u64 a0_5):=(blk_cell BK106.out 5).trans rfl
   have hfz10_0:=blk_frozen BK106.out 0
   have hfz10_1:=blk_frozen BK106.out 1
   have hfz10_2:=blk_frozen BK106.out 2
   have hfz10_3:=blk_frozen BK106.out 3
   have hfz10_4:=blk_frozen BK106.out 4
   have hfz10_5:=blk_frozen BK106.out 5
   go_wp2
   go_meet
   case rel => exact ⟨_,(false),(by first|rfl|(simp;done)|(simp [*];done)),H',⟨by first|omega|exact Nat.le_refl _⟩,⟨by (with_reducible repeat (first|refine zN ?_|refine zD ?_|refine zA ?_));exact BK106.out⟩,⟨by repeat (first|(with_reducible first|exact HB.out|apply below_alloc|apply pw_below_drewN|apply below_drew1|refine below_set ?_ GE106.out)|exact HB.out)⟩⟩
 case rest =>
  clear HC2
  obtain ⟨kq,x3_1,rfl,HA,HJ1,BK106,HB⟩:=hcut
  cases kq with
  |  zero => exact absurd HA.out (by simp [types_one.j0])
  |  succ kj1 =>
   have H:=HA.out
   clear HA
   simp only [types_one.j0] at H
   by_cases c11:a0_0=4
   ·rw [if_pos c11] at H
    have c11b0:(a0_0==4)=true:=beq_iff_eq.mpr c11
    have c11b1:(a0_0 != 4)=false:=bne_eq_false_iff_eq.mpr c11
    clear c11
    by_cases c12:a0_2 ≥ 0
    ·rw [if_pos c12] at H
     have c12b0:decide (0≤a0_2)=true:=decide_eq_true c12
     clear c12
     by_cases c13:a0_2<6
     ·rw [if_pos c13] at H
      have c13b0:decide (a0_2<6)=true:=decide_eq_true c13
      clear c13
      replace H:=Option.bind_eq_some_iff.mp H
      obtain ⟨t107,A140,H⟩:=H
      replace H:((slices_Contains_string_string.f kj1 t107 a0_4).bind fun t110 => (if t110=true then (some ((l0_1.length:Int)==0)) else (some false)))=some r:=H
      have A14:=Aside0.mk A140
      clear A140
      replace H:=Option.bind_eq_some_iff.mp H
      obtain ⟨t110,A150,H⟩:=H
      replace H:(if t110=true then (some ((l0_1.length:Int)==0)) else (some false))=some r:=H
      have A15:=Aside0.mk A150
      clear A150
      by_cases c16:t110=true
      ·subst c16
       have H1:(some ((l0_1.length:Int)==0))=some r:=by rw [if_pos rfl] at H;exact H
       clear H
       have H:=H1
       clear H1
       obtain rfl:=Option.some.inj H
       have hcz17_0:wc.cell? ⟨gb106,0,none⟩=some (.int .i64 a0_0):=(blk_cell BK106.out 0).trans rfl
       have hcz17_1:wc.cell? ⟨gb106,1,none⟩=some (.slice A0_1 l0_1.length c0_1):=(blk_cell BK106.out 1).trans rfl
       have hcz17_2:wc.cell? ⟨gb106,2,none⟩=some (.int .i64 a0_2):=(blk_cell BK106.out 2).trans rfl
       have hcz17_3:wc.cell? ⟨gb106,3,none⟩=some (.int .u64 a0_3):=(blk_cell BK106.out 3).trans rfl
       have hcz17_4:wc.cell? ⟨gb106,4,none⟩=some (.string a0_4):=(blk_cell BK106.out 4).trans rfl
       have hcz17_5:wc.cell? ⟨gb106,5,none⟩=some (.int .u64 a0_5):=(blk_cell BK106.out 5).trans rfl
       have hfz17_0:=blk_frozen BK106.out 0
       have hfz17_1:=blk_frozen BK106.out 1
       have hfz17_2:=blk_frozen BK106.out 2
       have hfz17_3:=blk_frozen BK106.out 3
       have hfz17_4:=blk_frozen BK106.out 4
       have hfz17_5:=blk_frozen BK106.out 5
       try go_wp2
       have n0_:=Aside0.mk (blk_drew BK106.out)
       have n1_:=Aside0.mk (below_drew1 HB.out)
       clear BK106
       clear HB
       have BK106:=n0_
       have HB:=n1_
       clear n0_ n1_
       refine start_ (n:=21) (S:=fun w' => w'.cell? ⟨gb106,0,none⟩=some (.int .i64 a0_0)∧w'.cell? ⟨gb106,1,none⟩=some (.slice A0_1 l0_1.length c0_1)∧w'.cell? ⟨gb106,2,none⟩=some (.int .i64 a0_2)∧w'.cell? ⟨gb106,3,none⟩=some (.int .u64 a0_3)∧w'.cell? ⟨gb106,4,none⟩=some (.string a0_4)∧w'.cell? ⟨gb106,5,none⟩=some (.int .u64 a0_5)) (ds:=[]) #[false,false,false,false,false,false,false,false,false,false,false,false,false,false,false,false,false,false,false,false,false] (by kernel_rfl) rfl rfl ⟨(blk_cell BK106.out 0).trans rfl,(blk_cell BK106.out 1).trans rfl,(blk_cell BK106.out 2).trans rfl,(blk_cell BK106.out 3).trans rfl,(blk_cell BK106.out 4).trans rfl,(blk_cell BK106.out 5).trans rfl⟩ (fun hHeld => ?_);refine with_tabW types_one.tab4 types_one.bits4 (fun HT_ HW_ => ?_)
       generalize wc.drew=w18 at BK106 HB hHeld ⊢
       refine pure_ (i:=0) (N:=some 26) (v:=?_) (a':=?_) #[true,false,false,false,false,false,false,false,false,false,false,false,false,false,false,false,false,false,false,false,false] rfl rfl (any_of HT_.out (by kernel_rfl)) (fun _ _ _ h => h) (Or.inl ⟨by rfl,?_⟩) ?_ ?_
       rotate_left
       ·intro w'
        go_simp
        with_reducible rfl
       rotate_left
       ·simp only [Act.put,List.setIfInBounds_toArray,List.set_cons_zero,List.set_cons_succ,i64_w,i32_w]
        rfl
       refine take_ (i:=1) (N:=some 27) (v:=?_) (a':=?_) #[true,true,false,false,false,false,false,false,false,false,false,false,false,false,false,false,false,false,false,false,false] rfl rfl (take_ofW HT_.out HW_.out (by kernel_rfl)) (fun _ _ _ h => h) (Or.inl ⟨by rfl,?_⟩) hHeld ?_ ?_
       rotate_left
       ·rintro w' ⟨s0,s1,s2,s3,s4,s5⟩
        go_simp
        with_reducible rfl
       rotate_left
       ·simp only [Act.put,List.setIfInBounds_toArray,List.set_cons_zero,List.set_cons_succ,i64_w,i32_w]
        rfl
       refine pure_ (i:=2) (N:=some 28) (v:=?_) (a':=?_) #[true,true,true,false,false,false,false,false,false,false,false,false,false,false,false,false,false,false,false,false,false] rfl rfl (any_of HT_.out (by kernel_rfl)) (fun _ _ _ h => h) (Or.inl ⟨by rfl,?_⟩) ?_ ?_
       rotate_left
       ·intro w'
        go_simp
        with_reducible rfl
       rotate_left
       ·simp only [Act.put,List.setIfInBounds_toArray,List.set_cons_zero,List.set_cons_succ,i64_w,i32_w]
        rfl
       refine pure_ (i:=3) (N:=some 29) (v:=?_) (a':=?_) #[true,true,true,true,false,false,false,false,false,false,false,false,false,false,false,false,false,false,false,false,false] rfl rfl (any_of HT_.out (by kernel_rfl)) (fun _ _ _ h => h) (Or.inl ⟨by rfl,?_⟩) ?_ ?_
       rotate_left
       ·intro w'
        go_simp
        with_reducible rfl
       rotate_left
       ·simp only [Act.put,List.setIfInBounds_toArray,List.set_cons_zero,List.set_cons_succ,i64_w,i32_w]
        rfl
       refine pure_ (i:=4) (N:=some 30) (v:=?_) (a':=?_) #[true,true,true,true,true,false,false,false,false,false,false,false,false,false,false,false,false,false,false,false,false] rfl rfl (any_of HT_.out (by kernel_rfl)) (fun _ _ _ h => h) (Or.inl ⟨by rfl,?_⟩) ?_ ?_
       rotate_left
       ·intro w'
        go_simp
        with_reducible rfl
       rotate_left
       ·simp only [Act.put,List.setIfInBounds_toArray,List.set_cons_zero,List.set_cons_succ,i64_w,i32_w]
        rfl
       refine take_ (i:=5) (N:=some 31) (v:=?_) (a':=?_) #[true,true,true,true,true,true,false,false,false,false,false,false,false,false,false,false,false,false,false,false,false] rfl rfl (take_ofW HT_.out HW_.out (by kernel_rfl)) (fun _ _ _ h => h) (Or.inl ⟨by rfl,?_⟩) hHeld ?_ ?_
       rotate_left
       ·rintro w' ⟨s0,s1,s2,s3,s4,s5⟩
        go_simp
        with_reducible rfl
       rotate_left
       ·simp only [Act.put,List.setIfInBounds_toArray,List.set_cons_zero,List.set_cons_succ,i64_w,i32_w]
        rfl
       refine pure_ (i:=6) (N:=some 32) (v:=?_) (a':=?_) #[true,true,true,true,true,true,true,false,false,false,false,false,false,false,false,false,false,false,false,false,false] rfl rfl (any_of HT_.out (by kernel_rfl)) (fun _ _ _ h => h) (Or.inl ⟨by rfl,?_⟩) ?_ ?_
       rotate_left
       ·intro w'
        go_simp
        with_reducible rfl
       rotate_left
       ·simp only [Act.put,List.setIfInBounds_toArray,List.set_cons_zero,List.set_cons_succ,i64_w,i32_w]
        rfl
       refine pure_ (i:=7) (N:=some 33) (v:=?_) (a':=?_) #[true,true,true,true,true,true,true,true,false,false,false,false,false,false,false,false,false,false,false,false,false] rfl rfl (any_of HT_.out (by kernel_rfl)) (fun _ _ _ h => h) (Or.inl ⟨by rfl,?_⟩) ?_ ?_
       rotate_left
       ·intro w'
        go_simp
        with_reducible rfl
       rotate_left
       ·simp only [Act.put,List.setIfInBounds_toArray,List.set_cons_zero,List.set_cons_succ,i64_w,i32_w]
        rfl
       refine pure_ (i:=8) (N:=some 34) (v:=?_) (a':=?_) #[true,true,true,true,true,true,true,true,true,false,false,false,false,false,false,false,false,false,false,false,false] rfl rfl (any_of HT_.out (by kernel_rfl)) (fun _ _ _ h => h) (Or.inl ⟨by rfl,?_⟩) ?_ ?_
       rotate_left
       ·intro w'
        go_simp
        with_reducible rfl
       rotate_left
       ·simp only [Act.put,List.setIfInBounds_toArray,List.set_cons_zero,List.set_cons_succ,i64_w,i32_w]
        rfl
       refine pure_ (i:=10) (N:=some 36) (v:=?_) (a':=?_) #[true,true,true,true,true,true,true,true,true,false,true,false,false,false,false,false,false,false,false,false,false] rfl rfl (any_of HT_.out (by kernel_rfl)) (fun _ _ _ h => h) (Or.inl ⟨by rfl,?_⟩) ?_ ?_
       rotate_left
       ·intro w'
        go_simp
        with_reducible rfl
       rotate_left
       ·simp only [Act.put,List.setIfInBounds_toArray,List.set_cons_zero,List.set_cons_succ,i64_w,i32_w]
        rfl
       refine take_ (i:=11) (N:=some 37) (v:=?_) (a':=?_) #[true,true,true,true,true,true,true,true,true,false,true,true,false,false,false,false,false,false,false,false,false] rfl rfl (take_ofW HT_.out HW_.out (by kernel_rfl)) (fun _ _ _ h => h) (Or.inl ⟨by rfl,?_⟩) hHeld ?_ ?_
       rotate_left
       ·rintro w' ⟨s0,s1,s2,s3,s4,s5⟩
        go_simp
        with_reducible rfl
       rotate_left
       ·simp only [Act.put,List.setIfInBounds_toArray,List.set_cons_zero,List.set_cons_succ,i64_w,i32_w]
        rfl
       refine one_ (i:=9) (N:=some 35) #[true,true,true,true,true,true,true,true,true,true,true,true,false,false,false,false,false,false,false,false,false] rfl rfl (one_of HT_.out (by kernel_rfl)) (by decide) (fun K hK => ?_)
       refine goes_ Tryz.func89 (by kernel_rfl) rfl #[] (by rfl) rfl rfl (by (try simp only [List.map_toArray,List.map_cons,List.map_nil]);first|done|rfl|(simp only [List.length_drop,List.length_take];rfl)) ?_
       with_reducible refine (types_signs.calls  t107 _ ?side1 A14.out).mono ?_
       (case side1 => exact LaidAt.of HLD.out (by repeat (first|(with_reducible first|exact HB.out|apply below_alloc|apply pw_below_drewN|apply below_drew1|refine below_set ?_ GE106.out)|exact HB.out)))
       rintro e w19 ⟨v108,rfl,ho0,hb⟩
       refine ⟨_,rfl,?_⟩
       have n0_:=Aside0.mk (Kd.R_lower ho0 (below_size (by repeat (first|(with_reducible first|exact HB.out|apply below_alloc|apply pw_below_drewN|apply below_drew1|refine below_set ?_ GE106.out)|exact HB.out))))
       have n1_:=Aside0.mk (blk_below (g:=gb106) (o:=.cells #[.int .i64 a0_0,.slice A0_1 l0_1.length c0_1,.int .i64 a0_2,.int .u64 a0_3,.string a0_4,.int .u64 a0_5] 28 (0,0)) (by (with_reducible repeat (first|refine zN ?_|refine zD ?_|refine zA ?_));exact BK106.out) hb)
       have n2_:=Aside0.mk (below_step (by repeat (first|(with_reducible first|exact HB.out|apply below_alloc|apply pw_below_drewN|apply below_drew1|refine below_set ?_ GE106.out)|exact HB.out)) hb)
       clear BK106
       clear HB
       have HO109:=n0_
       have BK106:=n1_
       have HB:=n2_
       clear n0_ n1_ n2_
       (try clear hb)
       (try clear hb2)
       (try clear hk)
       (try clear hi)
       (try clear ho0)
       obtain ⟨Ao20,co20,eo20⟩:=Kd.R_slice HO109.out
       (first|subst eo20|(injection eo20 with f1_ f2_ f3_;have f4_:=f1_.symm;have f5_:=f3_.symm;clear f1_ f2_ f3_;subst f4_;subst f5_))
       refine hK.out _ _ ⟨(blk_cell BK106.out 0).trans rfl,(blk_cell BK106.out 1).trans rfl,(blk_cell BK106.out 2).trans rfl,(blk_cell BK106.out 3).trans rfl,(blk_cell BK106.out 4).trans rfl,(blk_cell BK106.out 5).trans rfl⟩ (fun hHeld => ?_)
       clear hK K
       refine norm_ (a':=?_) ?_ ?_
       rotate_left
       ·show Act.put _ (some 35) _=_
        simp only [Act.put,List.setIfInBounds_toArray,List.set_cons_zero,List.set_cons_succ,i64_w,i32_w]
        rfl
       refine one_ (i:=12) (N:=some 38) #[true,true,true,true,true,true,true,true,true,true,true,true,true,false,false,false,false,false,false,false,false] rfl rfl (one_of HT_.out (by kernel_rfl)) (by decide) (fun K hK => ?_)
       refine goes_ Tryz.func80 (by kernel_rfl) rfl #[.slice Ao20 t107.length co20,.string a0_4] (by rfl) rfl rfl (by (try simp only [List.map_toArray,List.map_cons,List.map_nil]);first|done|rfl|(simp only [List.length_drop,List.length_take];rfl)) ?_
       with_reducible refine (slices_Contains_string_string.calls kj1 _ _ t107 a0_4 true _ ?side1 ?side2 ?side3 A15.out).mono ?_
       (case side1 => repeat (first|exact (Kd.R_reads' HO109.out).2.2|(with_reducible refine Kd.C_alloc ?_ _)|(with_reducible refine Kd.C_drewN ?_ _)|(with_reducible refine Kd.C_drew ?_)))
       (case side2 => exact (Kd.R_reads' HO109.out).2.1)
       (case side3 => exact LaidAt.of HLD.out (by repeat (first|(with_reducible first|exact HB.out|apply below_alloc|apply pw_below_drewN|apply below_drew1|refine below_set ?_ GE106.out)|exact HB.out)))
       rintro e w' ⟨rfl,⟨nd,rfl⟩⟩
       refine ⟨_,rfl,?_⟩
       refine hK.out _ _ ⟨(blk_cell BK106.out 0).trans rfl,(blk_cell BK106.out 1).trans rfl,(blk_cell BK106.out 2).trans rfl,(blk_cell BK106.out 3).trans rfl,(blk_cell BK106.out 4).trans rfl,(blk_cell BK106.out 5).trans rfl⟩ (fun hHeld => ?_)
       clear hK K
       refine norm_ (a':=?_) ?_ ?_
       rotate_left
       ·show Act.put _ (some 38) _=_
        simp only [Act.put,List.setIfInBounds_toArray,List.set_cons_zero,List.set_cons_succ,i64_w,i32_w]
        rfl
       refine pure_ (i:=13) (N:=some 39) (v:=?_) (a':=?_) #[true,true,true,true,true,true,true,true,true,true,true,true,true,true,false,false,false,false,false,false,false] rfl rfl (any_of HT_.out (by kernel_rfl)) (fun _ _ _ h => h) (Or.inl ⟨by rfl,?_⟩) ?_ ?_
       rotate_left
       ·intro w'
        go_simp
        with_reducible rfl
       rotate_left
       ·simp only [Act.put,List.setIfInBounds_toArray,List.set_cons_zero,List.set_cons_succ,i64_w,i32_w]
        rfl
       refine pure_ (i:=14) (N:=some 40) (v:=?_) (a':=?_) #[true,true,true,true,true,true,true,true,true,true,true,true,true,true,true,false,false,false,false,false,false] rfl rfl (any_of HT_.out (by kernel_rfl)) (fun _ _ _ h => h) (Or.inl ⟨by rfl,?_⟩) ?_ ?_
       rotate_left
       ·intro w'
        go_simp
        with_reducible rfl
       rotate_left
       ·simp only [Act.put,List.setIfInBounds_toArray,List.set_cons_zero,List.set_cons_succ,i64_w,i32_w]
        rfl
       refine pure_ (i:=15) (N:=some 41) (v:=?_) (a':=?_) #[true,true,true,true,true,true,true,true,true,true,true,true,true,true,true,true,false,false,false,false,false] rfl rfl (any_of HT_.out (by kernel_rfl)) (fun _ _ _ h => h) (Or.inl ⟨by rfl,?_⟩) ?_ ?_
       rotate_left
       ·intro w'
        go_simp
        with_reducible rfl
       rotate_left
       ·simp only [Act.put,List.setIfInBounds_toArray,List.set_cons_zero,List.set_cons_succ,i64_w,i32_w]
        rfl
       refine take_ (i:=16) (N:=some 42) (v:=?_) (a':=?_) #[true,true,true,true,true,true,true,true,true,true,true,true,true,true,true,true,true,false,false,false,false] rfl rfl (take_ofW HT_.out HW_.out (by kernel_rfl)) (fun _ _ _ h => h) (Or.inl ⟨by rfl,?_⟩) hHeld ?_ ?_
       rotate_left
       ·rintro w' ⟨s0,s1,s2,s3,s4,s5⟩
        go_simp
        with_reducible rfl
       rotate_left
       ·simp only [Act.put,List.setIfInBounds_toArray,List.set_cons_zero,List.set_cons_succ,i64_w,i32_w]
        rfl
       refine pure_ (i:=17) (N:=some 43) (v:=?_) (a':=?_) #[true,true,true,true,true,true,true,true,true,true,true,true,true,true,true,true,true,true,false,false,false] rfl rfl (any_of HT_.out (by kernel_rfl)) (fun _ _ _ h => h) (Or.inl ⟨by rfl,?_⟩) ?_ ?_
       rotate_left
       ·intro w'
        go_simp
        with_reducible rfl
       rotate_left
       ·simp only [Act.put,List.setIfInBounds_toArray,List.set_cons_zero,List.set_cons_succ,i64_w,i32_w]
        rfl
       refine pure_ (i:=18) (N:=some 44) (v:=?_) (a':=?_) #[true,true,true,true,true,true,true,true,true,true,true,true,true,true,true,true,true,true,true,false,false] rfl rfl (any_of HT_.out (by kernel_rfl)) (fun _ _ _ h => h) (Or.inl ⟨by rfl,?_⟩) ?_ ?_
       rotate_left
       ·intro w'
        go_simp
        with_reducible rfl
       rotate_left
       ·simp only [Act.put,List.setIfInBounds_toArray,List.set_cons_zero,List.set_cons_succ,i64_w,i32_w]
        rfl
       refine pure_ (i:=19) (N:=some 45) (v:=?_) (a':=?_) #[true,true,true,true,true,true,true,true,true,true,true,true,true,true,true,true,true,true,true,true,false] rfl rfl (any_of HT_.out (by kernel_rfl)) (fun _ _ _ h => h) (Or.inl ⟨by rfl,?_⟩) ?_ ?_
       rotate_left
       ·intro w'
        go_simp
        with_reducible rfl
       rotate_left
       ·simp only [Act.put,List.setIfInBounds_toArray,List.set_cons_zero,List.set_cons_succ,i64_w,i32_w]
        rfl
       refine pure_ (i:=20) (N:=some 2) (v:=?_) (a':=?_) #[true,true,true,true,true,true,true,true,true,true,true,true,true,true,true,true,true,true,true,true,true] rfl rfl (any_of HT_.out (by kernel_rfl)) (fun _ _ _ h => h) (Or.inl ⟨by rfl,?_⟩) ?_ ?_
       rotate_left
       ·intro w'
        go_simp
        with_reducible rfl
       rotate_left
       ·simp only [Act.put,List.setIfInBounds_toArray,List.set_cons_zero,List.set_cons_succ,i64_w,i32_w]
        rfl
       refine done_ (done_of HT_.out (by kernel_rfl)) ?_
       try go_wp2
       go_ret
       exact ⟨by first|rfl|(simp [errW_none,errW_some]<;>rfl)|(simp [*,errW_none,errW_some]<;>rfl),by repeat (first|(with_reducible first|exact HB.out|apply below_alloc|apply pw_below_drewN|apply below_drew1|refine below_set ?_ GE106.out)|exact HB.out)⟩
      ·replace c16:=Bool.eq_false_iff.mpr c16
       subst c16
       have H1:(some false)=some r:=by rw [if_neg (show ¬ (false=true) by decide)] at H;exact H
       clear H
       have H:=H1
       clear H1
       obtain rfl:=Option.some.inj H
       have hcz21_0:wc.cell? ⟨gb106,0,none⟩=some (.int .i64 a0_0):=(blk_cell BK106.out 0).trans rfl
       have hcz21_1:wc.cell? ⟨gb106,1,none⟩=some (.slice A0_1 l0_1.length c0_1):=(blk_cell BK106.out 1).trans rfl
       have hcz21_2:wc.cell? ⟨gb106,2,none⟩=some (.int .i64 a0_2):=(blk_cell BK106.out 2).trans rfl
       have hcz21_3:wc.cell? ⟨gb106,3,none⟩=some (.int .u64 a0_3):=(blk_cell BK106.out 3).trans rfl
       have hcz21_4:wc.cell? ⟨gb106,4,none⟩=some (.string a0_4):=(blk_cell BK106.out 4).trans rfl
       have hcz21_5:wc.cell? ⟨gb106,5,none⟩=some (.int .u64 a0_5):=(blk_cell BK106.out 5).trans rfl
       have hfz21_0:=blk_frozen BK106.out 0
       have hfz21_1:=blk_frozen BK106.out 1
       have hfz21_2:=blk_frozen BK106.out 2
       have hfz21_3:=blk_frozen BK106.out 3
       have hfz21_4:=blk_frozen BK106.out 4
       have hfz21_5:=blk_frozen BK106.out 5
       try go_wp2
       have n0_:=Aside0.mk (blk_drew BK106.out)
       have n1_:=Aside0.mk (below_drew1 HB.out)
       clear BK106
       clear HB
       have BK106:=n0_
       have HB:=n1_
       clear n0_ n1_
       refine start_ (n:=21) (S:=fun w' => w'.cell? ⟨gb106,0,none⟩=some (.int .i64 a0_0)∧w'.cell? ⟨gb106,1,none⟩=some (.slice A0_1 l0_1.length c0_1)∧w'.cell? ⟨gb106,2,none⟩=some (.int .i64 a0_2)∧w'.cell? ⟨gb106,3,none⟩=some (.int .u64 a0_3)∧w'.cell? ⟨gb106,4,none⟩=some (.string a0_4)∧w'.cell? ⟨gb106,5,none⟩=some (.int .u64 a0_5)) (ds:=[]) #[false,false,false,false,false,false,false,false,false,false,false,false,false,false,false,false,false,false,false,false,false] (by kernel_rfl) rfl rfl ⟨(blk_cell BK106.out 0).trans rfl,(blk_cell BK106.out 1).trans rfl,(blk_cell BK106.out 2).trans rfl,(blk_cell BK106.out 3).trans rfl,(blk_cell BK106.out 4).trans rfl,(blk_cell BK106.out 5).trans rfl⟩ (fun hHeld => ?_);refine with_tabW types_one.tab4 types_one.bits4 (fun HT_ HW_ => ?_)
       generalize wc.drew=w22 at BK106 HB hHeld ⊢
       refine pure_ (i:=0) (N:=some 26) (v:=?_) (a':=?_) #[true,false,false,false,false,false,false,false,false,false,false,false,false,false,false,false,false,false,false,false,false] rfl rfl (any_of HT_.out (by kernel_rfl)) (fun _ _ _ h => h) (Or.inl ⟨by rfl,?_⟩) ?_ ?_
       rotate_left
       ·intro w'
        go_simp
        with_reducible rfl
       rotate_left
       ·simp only [Act.put,List.setIfInBounds_toArray,List.set_cons_zero,List.set_cons_succ,i64_w,i32_w]
        rfl
       refine take_ (i:=1) (N:=some 27) (v:=?_) (a':=?_) #[true,true,false,false,false,false,false,false,false,false,false,false,false,false,false,false,false,false,false,false,false] rfl rfl (take_ofW HT_.out HW_.out (by kernel_rfl)) (fun _ _ _ h => h) (Or.inl ⟨by rfl,?_⟩) hHeld ?_ ?_
       rotate_left
       ·rintro w' ⟨s0,s1,s2,s3,s4,s5⟩
        go_simp
        with_reducible rfl
       rotate_left
       ·simp only [Act.put,List.setIfInBounds_toArray,List.set_cons_zero,List.set_cons_succ,i64_w,i32_w]
        rfl
       refine pure_ (i:=2) (N:=some 28) (v:=?_) (a':=?_) #[true,true,true,false,false,false,false,false,false,false,false,false,false,false,false,false,false,false,false,false,false] rfl rfl (any_of HT_.out (by kernel_rfl)) (fun _ _ _ h => h) (Or.inl ⟨by rfl,?_⟩) ?_ ?_
       rotate_left
       ·intro w'
        go_simp
        with_reducible rfl
       rotate_left
       ·simp only [Act.put,List.setIfInBounds_toArray,List.set_cons_zero,List.set_cons_succ,i64_w,i32_w]
        rfl
       refine pure_ (i:=3) (N:=some 29) (v:=?_) (a':=?_) #[true,true,true,true,false,false,false,false,false,false,false,false,false,false,false,false,false,false,false,false,false] rfl rfl (any_of HT_.out (by kernel_rfl)) (fun _ _ _ h => h) (Or.inl ⟨by rfl,?_⟩) ?_ ?_
       rotate_left
       ·intro w'
        go_simp
        with_reducible rfl
       rotate_left
       ·simp only [Act.put,List.setIfInBounds_toArray,List.set_cons_zero,List.set_cons_succ,i64_w,i32_w]
        rfl
       refine pure_ (i:=4) (N:=some 30) (v:=?_) (a':=?_) #[true,true,true,true,true,false,false,false,false,false,false,false,false,false,false,false,false,false,false,false,false] rfl rfl (any_of HT_.out (by kernel_rfl)) (fun _ _ _ h => h) (Or.inl ⟨by rfl,?_⟩) ?_ ?_
       rotate_left
       ·intro w'
        go_simp
        with_reducible rfl
       rotate_left
       ·simp only [Act.put,List.setIfInBounds_toArray,List.set_cons_zero,List.set_cons_succ,i64_w,i32_w]
        rfl
       refine take_ (i:=5) (N:=some 31) (v:=?_) (a':=?_) #[true,true,true,true,true,true,false,false,false,false,false,false,false,false,false,false,false,false,false,false,false] rfl rfl (take_ofW HT_.out HW_.out (by kernel_rfl)) (fun _ _ _ h => h) (Or.inl ⟨by rfl,?_⟩) hHeld ?_ ?_
       rotate_left
       ·rintro w' ⟨s0,s1,s2,s3,s4,s5⟩
        go_simp
        with_reducible rfl
       rotate_left
       ·simp only [Act.put,List.setIfInBounds_toArray,List.set_cons_zero,List.set_cons_succ,i64_w,i32_w]
        rfl
       refine pure_ (i:=6) (N:=some 32) (v:=?_) (a':=?_) #[true,true,true,true,true,true,true,false,false,false,false,false,false,false,false,false,false,false,false,false,false] rfl rfl (any_of HT_.out (by kernel_rfl)) (fun _ _ _ h => h) (Or.inl ⟨by rfl,?_⟩) ?_ ?_
       rotate_left
       ·intro w'
        go_simp
        with_reducible rfl
       rotate_left
       ·simp only [Act.put,List.setIfInBounds_toArray,List.set_cons_zero,List.set_cons_succ,i64_w,i32_w]
        rfl
       refine pure_ (i:=7) (N:=some 33) (v:=?_) (a':=?_) #[true,true,true,true,true,true,true,true,false,false,false,false,false,false,false,false,false,false,false,false,false] rfl rfl (any_of HT_.out (by kernel_rfl)) (fun _ _ _ h => h) (Or.inl ⟨by rfl,?_⟩) ?_ ?_
       rotate_left
       ·intro w'
        go_simp
        with_reducible rfl
       rotate_left
       ·simp only [Act.put,List.setIfInBounds_toArray,List.set_cons_zero,List.set_cons_succ,i64_w,i32_w]
        rfl
       refine pure_ (i:=8) (N:=some 34) (v:=?_) (a':=?_) #[true,true,true,true,true,true,true,true,true,false,false,false,false,false,false,false,false,false,false,false,false] rfl rfl (any_of HT_.out (by kernel_rfl)) (fun _ _ _ h => h) (Or.inl ⟨by rfl,?_⟩) ?_ ?_
       rotate_left
       ·intro w'
        go_simp
        with_reducible rfl
       rotate_left
       ·simp only [Act.put,List.setIfInBounds_toArray,List.set_cons_zero,List.set_cons_succ,i64_w,i32_w]
        rfl
       refine pure_ (i:=10) (N:=some 36) (v:=?_) (a':=?_) #[true,true,true,true,true,true,true,true,true,false,true,false,false,false,false,false,false,false,false,false,false] rfl rfl (any_of HT_.out (by kernel_rfl)) (fun _ _ _ h => h) (Or.inl ⟨by rfl,?_⟩) ?_ ?_
       rotate_left
       ·intro w'
        go_simp
        with_reducible rfl
       rotate_left
       ·simp only [Act.put,List.setIfInBounds_toArray,List.set_cons_zero,List.set_cons_succ,i64_w,i32_w]
        rfl
       refine take_ (i:=11) (N:=some 37) (v:=?_) (a':=?_) #[true,true,true,true,true,true,true,true,true,false,true,true,false,false,false,false,false,false,false,false,false] rfl rfl (take_ofW HT_.out HW_.out (by kernel_rfl)) (fun _ _ _ h => h) (Or.inl ⟨by rfl,?_⟩) hHeld ?_ ?_
       rotate_left
       ·rintro w' ⟨s0,s1,s2,s3,s4,s5⟩
        go_simp
        with_reducible rfl
       rotate_left
       ·simp only [Act.put,List.setIfInBounds_toArray,List.set_cons_zero,List.set_cons_succ,i64_w,i32_w]
        rfl
       refine one_ (i:=9) (N:=some 35) #[true,true,true,true,true,true,true,true,true,true,true,true,false,false,false,false,false,false,false,false,false] rfl rfl (one_of HT_.out (by kernel_rfl)) (by decide) (fun K hK => ?_)
       refine goes_ Tryz.func89 (by kernel_rfl) rfl #[] (by rfl) rfl rfl (by (try simp only [List.map_toArray,List.map_cons,List.map_nil]);first|done|rfl|(simp only [List.length_drop,List.length_take];rfl)) ?_
       with_reducible refine (types_signs.calls  t107 _ ?side1 A14.out).mono ?_
       (case side1 => exact LaidAt.of HLD.out (by repeat (first|(with_reducible first|exact HB.out|apply below_alloc|apply pw_below_drewN|apply below_drew1|refine below_set ?_ GE106.out)|exact HB.out)))
       rintro e w23 ⟨v108,rfl,ho0,hb⟩
       refine ⟨_,rfl,?_⟩
       have n0_:=Aside0.mk (Kd.R_lower ho0 (below_size (by repeat (first|(with_reducible first|exact HB.out|apply below_alloc|apply pw_below_drewN|apply below_drew1|refine below_set ?_ GE106.out)|exact HB.out))))
       have n1_:=Aside0.mk (blk_below (g:=gb106) (o:=.cells #[.int .i64 a0_0,.slice A0_1 l0_1.length c0_1,.int .i64 a0_2,.int .u64 a0_3,.string a0_4,.int .u64 a0_5] 28 (0,0)) (by (with_reducible repeat (first|refine zN ?_|refine zD ?_|refine zA ?_));exact BK106.out) hb)
       have n2_:=Aside0.mk (below_step (by repeat (first|(with_reducible first|exact HB.out|apply below_alloc|apply pw_below_drewN|apply below_drew1|refine below_set ?_ GE106.out)|exact HB.out)) hb)
       clear BK106
       clear HB
       have HO109:=n0_
       have BK106:=n1_
       have HB:=n2_
       clear n0_ n1_ n2_
       (try clear hb)
       (try clear hb2)
       (try clear hk)
       (try clear hi)
       (try clear ho0)
       obtain ⟨Ao24,co24,eo24⟩:=Kd.R_slice HO109.out
       (first|subst eo24|(injection eo24 with f1_ f2_ f3_;have f4_:=f1_.symm;have f5_:=f3_.symm;clear f1_ f2_ f3_;subst f4_;subst f5_))
       refine hK.out _ _ ⟨(blk_cell BK106.out 0).trans rfl,(blk_cell BK106.out 1).trans rfl,(blk_cell BK106.out 2).trans rfl,(blk_cell BK106.out 3).trans rfl,(blk_cell BK106.out 4).trans rfl,(blk_cell BK106.out 5).trans rfl⟩ (fun hHeld => ?_)
       clear hK K
       refine norm_ (a':=?_) ?_ ?_
       rotate_left
       ·show Act.put _ (some 35) _=_
        simp only [Act.put,List.setIfInBounds_toArray,List.set_cons_zero,List.set_cons_succ,i64_w,i32_w]
        rfl
       refine one_ (i:=12) (N:=some 38) #[true,true,true,true,true,true,true,true,true,true,true,true,true,false,false,false,false,false,false,false,false] rfl rfl (one_of HT_.out (by kernel_rfl)) (by decide) (fun K hK => ?_)
       refine goes_ Tryz.func80 (by kernel_rfl) rfl #[.slice Ao24 t107.length co24,.string a0_4] (by rfl) rfl rfl (by (try simp only [List.map_toArray,List.map_cons,List.map_nil]);first|done|rfl|(simp only [List.length_drop,List.length_take];rfl)) ?_
       with_reducible refine (slices_Contains_string_string.calls kj1 _ _ t107 a0_4 false _ ?side1 ?side2 ?side3 A15.out).mono ?_
       (case side1 => repeat (first|exact (Kd.R_reads' HO109.out).2.2|(with_reducible refine Kd.C_alloc ?_ _)|(with_reducible refine Kd.C_drewN ?_ _)|(with_reducible refine Kd.C_drew ?_)))
       (case side2 => exact (Kd.R_reads' HO109.out).2.1)
       (case side3 => exact LaidAt.of HLD.out (by repeat (first|(with_reducible first|exact HB.out|apply below_alloc|apply pw_below_drewN|apply below_drew1|refine below_set ?_ GE106.out)|exact HB.out)))
       rintro e w' ⟨rfl,⟨nd,rfl⟩⟩
       refine ⟨_,rfl,?_⟩
       refine hK.out _ _ ⟨(blk_cell BK106.out 0).trans rfl,(blk_cell BK106.out 1).trans rfl,(blk_cell BK106.out 2).trans rfl,(blk_cell BK106.out 3).trans rfl,(blk_cell BK106.out 4).trans rfl,(blk_cell BK106.out 5).trans rfl⟩ (fun hHeld => ?_)
       clear hK K
       refine norm_ (a':=?_) ?_ ?_
       rotate_left
       ·show Act.put _ (some 38) _=_
        simp only [Act.put,List.setIfInBounds_toArray,List.set_cons_zero,List.set_cons_succ,i64_w,i32_w]
        rfl
       refine pure_ (i:=13) (N:=some 39) (v:=?_) (a':=?_) #[true,true,true,true,true,true,true,true,true,true,true,true,true,true,false,false,false,false,false,false,false] rfl rfl (any_of HT_.out (by kernel_rfl)) (fun _ _ _ h => h) (Or.inl ⟨by rfl,?_⟩) ?_ ?_
       rotate_left
       ·intro w'
        go_simp
        with_reducible rfl
       rotate_left
       ·simp only [Act.put,List.setIfInBounds_toArray,List.set_cons_zero,List.set_cons_succ,i64_w,i32_w]
        rfl
       refine pure_ (i:=14) (N:=some 40) (v:=?_) (a':=?_) #[true,true,true,true,true,true,true,true,true,true,true,true,true,true,true,false,false,false,false,false,false] rfl rfl (any_of HT_.out (by kernel_rfl)) (fun _ _ _ h => h) (Or.inl ⟨by rfl,?_⟩) ?_ ?_
       rotate_left
       ·intro w'
        go_simp
        with_reducible rfl
       rotate_left
       ·simp only [Act.put,List.setIfInBounds_toArray,List.set_cons_zero,List.set_cons_succ,i64_w,i32_w]
        rfl
       refine pure_ (i:=15) (N:=some 41) (v:=undef) (a':=?_) #[true,true,true,true,true,true,true,true,true,true,true,true,true,true,true,true,false,false,false,false,false] rfl rfl (any_of HT_.out (by kernel_rfl)) (fun _ _ _ h => h) (Or.inr ⟨by rfl,rfl⟩) ?_ ?_
       rotate_left
       ·simp only [Act.put,List.setIfInBounds_toArray,List.set_cons_zero,List.set_cons_succ,i64_w,i32_w]
        rfl
       refine pure_ (i:=16) (N:=some 42) (v:=undef) (a':=?_) #[true,true,true,true,true,true,true,true,true,true,true,true,true,true,true,true,true,false,false,false,false] rfl rfl (any_of HT_.out (by kernel_rfl)) (fun _ _ _ h => h) (Or.inr ⟨by rfl,rfl⟩) ?_ ?_
       rotate_left
       ·simp only [Act.put,List.setIfInBounds_toArray,List.set_cons_zero,List.set_cons_succ,i64_w,i32_w]
        rfl
       refine pure_ (i:=17) (N:=some 43) (v:=undef) (a':=?_) #[true,true,true,true,true,true,true,true,true,true,true,true,true,true,true,true,true,true,false,false,false] rfl rfl (any_of HT_.out (by kernel_rfl)) (fun _ _ _ h => h) (Or.inr ⟨by rfl,rfl⟩) ?_ ?_
       rotate_left
       ·simp only [Act.put,List.setIfInBounds_toArray,List.set_cons_zero,List.set_cons_succ,i64_w,i32_w]
        rfl
       refine pure_ (i:=18) (N:=some 44) (v:=undef) (a':=?_) #[true,true,true,true,true,true,true,true,true,true,true,true,true,true,true,true,true,true,true,false,false] rfl rfl (any_of HT_.out (by kernel_rfl)) (fun _ _ _ h => h) (Or.inr ⟨by rfl,rfl⟩) ?_ ?_
       rotate_left
       ·simp only [Act.put,List.setIfInBounds_toArray,List.set_cons_zero,List.set_cons_succ,i64_w,i32_w]
        rfl
       refine pure_ (i:=19) (N:=some 45) (v:=?_) (a':=?_) #[true,true,true,true,true,true,true,true,true,true,true,true,true,true,true,true,true,true,true,true,false] rfl rfl (any_of HT_.out (by kernel_rfl)) (fun _ _ _ h => h) (Or.inl ⟨by rfl,?_⟩) ?_ ?_
       rotate_left
       ·intro w'
        go_simp
        with_reducible rfl
       rotate_left
       ·simp only [Act.put,List.setIfInBounds_toArray,List.set_cons_zero,List.set_cons_succ,i64_w,i32_w]
        rfl
       refine pure_ (i:=20) (N:=some 2) (v:=?_) (a':=?_) #[true,true,true,true,true,true,true,true,true,true,true,true,true,true,true,true,true,true,true,true,true] rfl rfl (any_of HT_.out (by kernel_rfl)) (fun _ _ _ h => h) (Or.inl ⟨by rfl,?_⟩) ?_ ?_
       rotate_left
       ·intro w'
        go_simp
        with_reducible rfl
       rotate_left
       ·simp only [Act.put,List.setIfInBounds_toArray,List.set_cons_zero,List.set_cons_succ,i64_w,i32_w]
        rfl
       refine done_ (done_of HT_.out (by kernel_rfl)) ?_
       try go_wp2
       go_ret
       exact ⟨by first|rfl|(simp [errW_none,errW_some]<;>rfl)|(simp [*,errW_none,errW_some]<;>rfl),by repeat (first|(with_reducible first|exact HB.out|apply below_alloc|apply pw_below_drewN|apply below_drew1|refine below_set ?_ GE106.out)|exact HB.out)⟩
     ·rw [if_neg c13] at H
      have c13b0:decide (a0_2<6)=false:=decide_eq_false c13
      clear c13
      obtain rfl:=Option.some.inj H
      have hcz25_0:wc.cell? ⟨gb106,0,none⟩=some (.int .i64 a0_0):=(blk_cell BK106.out 0).trans rfl
      have hcz25_1:wc.cell? ⟨gb106,1,none⟩=some (.slice A0_1 l0_1.length c0_1):=(blk_cell BK106.out 1).trans rfl
      have hcz25_2:wc.cell? ⟨gb106,2,none⟩=some (.int .i64 a0_2):=(blk_cell BK106.out 2).trans rfl
      have hcz25_3:wc.cell? ⟨gb106,3,none⟩=some (.int .u64 a0_3):=(blk_cell BK106.out 3).trans rfl
      have hcz25_4:wc.cell? ⟨gb106,4,none⟩=some (.string a0_4):=(blk_cell BK106.out 4).trans rfl
      have hcz25_5:wc.cell? ⟨gb106,5,none⟩=some (.int .u64 a0_5):=(blk_cell BK106.out 5).trans rfl
      have hfz25_0:=blk_frozen BK106.out 0
      have hfz25_1:=blk_frozen BK106.out 1
      have hfz25_2:=blk_frozen BK106.out 2
      have hfz25_3:=blk_frozen BK106.out 3
      have hfz25_4:=blk_frozen BK106.out 4
      have hfz25_5:=blk_frozen BK106.out 5
      try go_wp2
      have n0_:=Aside0.mk (blk_drew BK106.out)
      have n1_:=Aside0.mk (below_drew1 HB.out)
      clear BK106
      clear HB
      have BK106:=n0_
      have HB:=n1_
      clear n0_ n1_
      refine start_ (n:=21) (S:=fun w' => w'.cell? ⟨gb106,0,none⟩=some (.int .i64 a0_0)∧w'.cell? ⟨gb106,1,none⟩=some (.slice A0_1 l0_1.length c0_1)∧w'.cell? ⟨gb106,2,none⟩=some (.int .i64 a0_2)∧w'.cell? ⟨gb106,3,none⟩=some (.int .u64 a0_3)∧w'.cell? ⟨gb106,4,none⟩=some (.string a0_4)∧w'.cell? ⟨gb106,5,none⟩=some (.int .u64 a0_5)) (ds:=[]) #[false,false,false,false,false,false,false,false,false,false,false,false,false,false,false,false,false,false,false,false,false] (by kernel_rfl) rfl rfl ⟨(blk_cell BK106.out 0).trans rfl,(blk_cell BK106.out 1).trans rfl,(blk_cell BK106.out 2).trans rfl,(blk_cell BK106.out 3).trans rfl,(blk_cell BK106.out 4).trans rfl,(blk_cell BK106.out 5).trans rfl⟩ (fun hHeld => ?_);refine with_tabW types_one.tab4 types_one.bits4 (fun HT_ HW_ => ?_)
      generalize wc.drew=w26 at BK106 HB hHeld ⊢
      refine pure_ (i:=0) (N:=some 26) (v:=?_) (a':=?_) #[true,false,false,false,false,false,false,false,false,false,false,false,false,false,false,false,false,false,false,false,false] rfl rfl (any_of HT_.out (by kernel_rfl)) (fun _ _ _ h => h) (Or.inl ⟨by rfl,?_⟩) ?_ ?_
      rotate_left
      ·intro w'
       go_simp
       with_reducible rfl
      rotate_left
      ·simp only [Act.put,List.setIfInBounds_toArray,List.set_cons_zero,List.set_cons_succ,i64_w,i32_w]
       rfl
      refine take_ (i:=1) (N:=some 27) (v:=?_) (a':=?_) #[true,true,false,false,false,false,false,false,false,false,false,false,false,false,false,false,false,false,false,false,false] rfl rfl (take_ofW HT_.out HW_.out (by kernel_rfl)) (fun _ _ _ h => h) (Or.inl ⟨by rfl,?_⟩) hHeld ?_ ?_
      rotate_left
      ·rintro w' ⟨s0,s1,s2,s3,s4,s5⟩
       go_simp
       with_reducible rfl
      rotate_left
      ·simp only [Act.put,List.setIfInBounds_toArray,List.set_cons_zero,List.set_cons_succ,i64_w,i32_w]
       rfl
      refine pure_ (i:=2) (N:=some 28) (v:=?_) (a':=?_) #[true,true,true,false,false,false,false,false,false,false,false,false,false,false,false,false,false,false,false,false,false] rfl rfl (any_of HT_.out (by kernel_rfl)) (fun _ _ _ h => h) (Or.inl ⟨by rfl,?_⟩) ?_ ?_
      rotate_left
      ·intro w'
       go_simp
       with_reducible rfl
      rotate_left
      ·simp only [Act.put,List.setIfInBounds_toArray,List.set_cons_zero,List.set_cons_succ,i64_w,i32_w]
       rfl
      refine pure_ (i:=3) (N:=some 29) (v:=?_) (a':=?_) #[true,true,true,true,false,false,false,false,false,false,false,false,false,false,false,false,false,false,false,false,false] rfl rfl (any_of HT_.out (by kernel_rfl)) (fun _ _ _ h => h) (Or.inl ⟨by rfl,?_⟩) ?_ ?_
      rotate_left
      ·intro w'
       go_simp
       with_reducible rfl
      rotate_left
      ·simp only [Act.put,List.setIfInBounds_toArray,List.set_cons_zero,List.set_cons_succ,i64_w,i32_w]
       rfl
      refine pure_ (i:=4) (N:=some 30) (v:=?_) (a':=?_) #[true,true,true,true,true,false,false,false,false,false,false,false,false,false,false,false,false,false,false,false,false] rfl rfl (any_of HT_.out (by kernel_rfl)) (fun _ _ _ h => h) (Or.inl ⟨by rfl,?_⟩) ?_ ?_
      rotate_left
      ·intro w'
       go_simp
       with_reducible rfl
      rotate_left
      ·simp only [Act.put,List.setIfInBounds_toArray,List.set_cons_zero,List.set_cons_succ,i64_w,i32_w]
       rfl
      refine take_ (i:=5) (N:=some 31) (v:=?_) (a':=?_) #[true,true,true,true,true,true,false,false,false,false,false,false,false,false,false,false,false,false,false,false,false] rfl rfl (take_ofW HT_.out HW_.out (by kernel_rfl)) (fun _ _ _ h => h) (Or.inl ⟨by rfl,?_⟩) hHeld ?_ ?_
      rotate_left
      ·rintro w' ⟨s0,s1,s2,s3,s4,s5⟩
       go_simp
       with_reducible rfl
      rotate_left
      ·simp only [Act.put,List.setIfInBounds_toArray,List.set_cons_zero,List.set_cons_succ,i64_w,i32_w]
       rfl
      refine pure_ (i:=6) (N:=some 32) (v:=?_) (a':=?_) #[true,true,true,true,true,true,true,false,false,false,false,false,false,false,false,false,false,false,false,false,false] rfl rfl (any_of HT_.out (by kernel_rfl)) (fun _ _ _ h => h) (Or.inl ⟨by rfl,?_⟩) ?_ ?_
      rotate_left
      ·intro w'
       go_simp
       with_reducible rfl
      rotate_left
      ·simp only [Act.put,List.setIfInBounds_toArray,List.set_cons_zero,List.set_cons_succ,i64_w,i32_w]
       rfl
      refine pure_ (i:=7) (N:=some 33) (v:=?_) (a':=?_) #[true,true,true,true,true,true,true,true,false,false,false,false,false,false,false,false,false,false,false,false,false] rfl rfl (any_of HT_.out (by kernel_rfl)) (fun _ _ _ h => h) (Or.inl ⟨by rfl,?_⟩) ?_ ?_
      rotate_left
      ·intro w'
       go_simp
       with_reducible rfl
      rotate_left
      ·simp only [Act.put,List.setIfInBounds_toArray,List.set_cons_zero,List.set_cons_succ,i64_w,i32_w]
       rfl
      refine pure_ (i:=8) (N:=some 34) (v:=?_) (a':=?_) #[true,true,true,true,true,true,true,true,true,false,false,false,false,false,false,false,false,false,false,false,false] rfl rfl (any_of HT_.out (by kernel_rfl)) (fun _ _ _ h => h) (Or.inl ⟨by rfl,?_⟩) ?_ ?_
      rotate_left
      ·intro w'
       go_simp
       with_reducible rfl
      rotate_left
      ·simp only [Act.put,List.setIfInBounds_toArray,List.set_cons_zero,List.set_cons_succ,i64_w,i32_w]
       rfl
      refine pure_ (i:=9) (N:=some 35) (v:=undef) (a':=?_) #[true,true,true,true,true,true,true,true,true,true,false,false,false,false,false,false,false,false,false,false,false] rfl rfl (any_of HT_.out (by kernel_rfl)) (fun _ _ _ h => h) (Or.inr ⟨by rfl,rfl⟩) ?_ ?_
      rotate_left
      ·simp only [Act.put,List.setIfInBounds_toArray,List.set_cons_zero,List.set_cons_succ,i64_w,i32_w]
       rfl
      refine pure_ (i:=10) (N:=some 36) (v:=undef) (a':=?_) #[true,true,true,true,true,true,true,true,true,true,true,false,false,false,false,false,false,false,false,false,false] rfl rfl (any_of HT_.out (by kernel_rfl)) (fun _ _ _ h => h) (Or.inr ⟨by rfl,rfl⟩) ?_ ?_
      rotate_left
      ·simp only [Act.put,List.setIfInBounds_toArray,List.set_cons_zero,List.set_cons_succ,i64_w,i32_w]
       rfl
      refine pure_ (i:=11) (N:=some 37) (v:=undef) (a':=?_) #[true,true,true,true,true,true,true,true,true,true,true,true,false,false,false,false,false,false,false,false,false] rfl rfl (any_of HT_.out (by kernel_rfl)) (fun _ _ _ h => h) (Or.inr ⟨by rfl,rfl⟩) ?_ ?_
      rotate_left
      ·simp only [Act.put,List.setIfInBounds_toArray,List.set_cons_zero,List.set_cons_succ,i64_w,i32_w]
       rfl
      refine pure_ (i:=12) (N:=some 38) (v:=undef) (a':=?_) #[true,true,true,true,true,true,true,true,true,true,true,true,true,false,false,false,false,false,false,false,false] rfl rfl (any_of HT_.out (by kernel_rfl)) (fun _ _ _ h => h) (Or.inr ⟨by rfl,rfl⟩) ?_ ?_
      rotate_left
      ·simp only [Act.put,List.setIfInBounds_toArray,List.set_cons_zero,List.set_cons_succ,i64_w,i32_w]
       rfl
      refine pure_ (i:=13) (N:=some 39) (v:=?_) (a':=?_) #[true,true,true,true,true,true,true,true,true,true,true,true,true,true,false,false,false,false,false,false,false] rfl rfl (any_of HT_.out (by kernel_rfl)) (fun _ _ _ h => h) (Or.inl ⟨by rfl,?_⟩) ?_ ?_
      rotate_left
      ·intro w'
       go_simp
       with_reducible rfl
      rotate_left
      ·simp only [Act.put,List.setIfInBounds_toArray,List.set_cons_zero,List.set_cons_succ,i64_w,i32_w]
       rfl
      refine pure_ (i:=14) (N:=some 40) (v:=?_) (a':=?_) #[true,true,true,true,true,true,true,true,true,true,true,true,true,true,true,false,false,false,false,false,false] rfl rfl (any_of HT_.out (by kernel_rfl)) (fun _ _ _ h => h) (Or.inl ⟨by rfl,?_⟩) ?_ ?_
      rotate_left
      ·intro w'
       go_simp
       with_reducible rfl
      rotate_left
      ·simp only [Act.put,List.setIfInBounds_toArray,List.set_cons_zero,List.set_cons_succ,i64_w,i32_w]
       rfl
      refine pure_ (i:=15) (N:=some 41) (v:=undef) (a':=?_) #[true,true,true,true,true,true,true,true,true,true,true,true,true,true,true,true,false,false,false,false,false] rfl rfl (any_of HT_.out (by kernel_rfl)) (fun _ _ _ h => h) (Or.inr ⟨by rfl,rfl⟩) ?_ ?_
      rotate_left
      ·simp only [Act.put,List.setIfInBounds_toArray,List.set_cons_zero,List.set_cons_succ,i64_w,i32_w]
       rfl
      refine pure_ (i:=16) (N:=some 42) (v:=undef) (a':=?_) #[true,true,true,true,true,true,true,true,true,true,true,true,true,true,true,true,true,false,false,false,false] rfl rfl (any_of HT_.out (by kernel_rfl)) (fun _ _ _ h => h) (Or.inr ⟨by rfl,rfl⟩) ?_ ?_
      rotate_left
      ·simp only [Act.put,List.setIfInBounds_toArray,List.set_cons_zero,List.set_cons_succ,i64_w,i32_w]
       rfl
      refine pure_ (i:=17) (N:=some 43) (v:=undef) (a':=?_) #[true,true,true,true,true,true,true,true,true,true,true,true,true,true,true,true,true,true,false,false,false] rfl rfl (any_of HT_.out (by kernel_rfl)) (fun _ _ _ h => h) (Or.inr ⟨by rfl,rfl⟩) ?_ ?_
      rotate_left
      ·simp only [Act.put,List.setIfInBounds_toArray,List.set_cons_zero,List.set_cons_succ,i64_w,i32_w]
       rfl
      refine pure_ (i:=18) (N:=some 44) (v:=undef) (a':=?_) #[true,true,true,true,true,true,true,true,true,true,true,true,true,true,true,true,true,true,true,false,false] rfl rfl (any_of HT_.out (by kernel_rfl)) (fun _ _ _ h => h) (Or.inr ⟨by rfl,rfl⟩) ?_ ?_
      rotate_left
      ·simp only [Act.put,List.setIfInBounds_toArray,List.set_cons_zero,List.set_cons_succ,i64_w,i32_w]
       rfl
      refine pure_ (i:=19) (N:=some 45) (v:=?_) (a':=?_) #[true,true,true,true,true,true,true,true,true,true,true,true,true,true,true,true,true,true,true,true,false] rfl rfl (any_of HT_.out (by kernel_rfl)) (fun _ _ _ h => h) (Or.inl ⟨by rfl,?_⟩) ?_ ?_
      rotate_left
      ·intro w'
       go_simp
       with_reducible rfl
      rotate_left
      ·simp only [Act.put,List.setIfInBounds_toArray,List.set_cons_zero,List.set_cons_succ,i64_w,i32_w]
       rfl
      refine pure_ (i:=20) (N:=some 2) (v:=?_) (a':=?_) #[true,true,true,true,true,true,true,true,true,true,true,true,true,true,true,true,true,true,true,true,true] rfl rfl (any_of HT_.out (by kernel_rfl)) (fun _ _ _ h => h) (Or.inl ⟨by rfl,?_⟩) ?_ ?_
      rotate_left
      ·intro w'
       go_simp
       with_reducible rfl
      rotate_left
      ·simp only [Act.put,List.setIfInBounds_toArray,List.set_cons_zero,List.set_cons_succ,i64_w,i32_w]
       rfl
      refine done_ (done_of HT_.out (by kernel_rfl)) ?_
      try go_wp2
      go_ret
      exact ⟨by first|rfl|(simp [errW_none,errW_some]<;>rfl)|(simp [*,errW_none,errW_some]<;>rfl),by repeat (first|(with_reducible first|exact HB.out|apply below_alloc|apply pw_below_drewN|apply below_drew1|refine below_set ?_ GE106.out)|exact HB.out)⟩
    ·rw [if_neg c12] at H
     have c12b0:decide (0≤a0_2)=false:=decide_eq_false c12
     clear c12
     obtain rfl:=Option.some.inj H
     have hcz27_0:wc.cell? ⟨gb106,0,none⟩=some (.int .i64 a0_0):=(blk_cell BK106.out 0).trans rfl
     have hcz27_1:wc.cell? ⟨gb106,1,none⟩=some (.slice A0_1 l0_1.length c0_1):=(blk_cell BK106.out 1).trans rfl
     have hcz27_2:wc.cell? ⟨gb106,2,none⟩=some (.int .i64 a0_2):=(blk_cell BK106.out 2).trans rfl
     have hcz27_3:wc.cell? ⟨gb106,3,none⟩=some (.int .u64 a0_3):=(blk_cell BK106.out 3).trans rfl
     have hcz27_4:wc.cell? ⟨gb106,4,none⟩=some (.string a0_4):=(blk_cell BK106.out 4).trans rfl
     have hcz27_5:wc.cell? ⟨gb106,5,none⟩=some (.int .u64 a0_5):=(blk_cell BK106.out 5).trans rfl
     have hfz27_0:=blk_frozen BK106.out 0
     have hfz27_1:=blk_frozen BK106.out 1
     have hfz27_2:=blk_frozen BK106.out 2
     have hfz27_3:=blk_frozen BK106.out 3
     have hfz27_4:=blk_frozen BK106.out 4
     have hfz27_5:=blk_frozen BK106.out 5
     try go_wp2
     have n0_:=Aside0.mk (blk_drew BK106.out)
     have n1_:=Aside0.mk (below_drew1 HB.out)
     clear BK106
     clear HB
     have BK106:=n0_
     have HB:=n1_
     clear n0_ n1_
     refine start_ (n:=21) (S:=fun w' => w'.cell? ⟨gb106,0,none⟩=some (.int .i64 a0_0)∧w'.cell? ⟨gb106,1,none⟩=some (.slice A0_1 l0_1.length c0_1)∧w'.cell? ⟨gb106,2,none⟩=some (.int .i64 a0_2)∧w'.cell? ⟨gb106,3,none⟩=some (.int .u64 a0_3)∧w'.cell? ⟨gb106,4,none⟩=some (.string a0_4)∧w'.cell? ⟨gb106,5,none⟩=some (.int .u64 a0_5)) (ds:=[]) #[false,false,false,false,false,false,false,false,false,false,false,false,false,false,false,false,false,false,false,false,false] (by kernel_rfl) rfl rfl ⟨(blk_cell BK106.out 0).trans rfl,(blk_cell BK106.out 1).trans rfl,(blk_cell BK106.out 2).trans rfl,(blk_cell BK106.out 3).trans rfl,(blk_cell BK106.out 4).trans rfl,(blk_cell BK106.out 5).trans rfl⟩ (fun hHeld => ?_);refine with_tabW types_one.tab4 types_one.bits4 (fun HT_ HW_ => ?_)
     generalize wc.drew=w28 at BK106 HB hHeld ⊢
     refine pure_ (i:=0) (N:=some 26) (v:=?_) (a':=?_) #[true,false,false,false,false,false,false,false,false,false,false,false,false,false,false,false,false,false,false,false,false] rfl rfl (any_of HT_.out (by kernel_rfl)) (fun _ _ _ h => h) (Or.inl ⟨by rfl,?_⟩) ?_ ?_
     rotate_left
     ·intro w'
      go_simp
      with_reducible rfl
     rotate_left
     ·simp only [Act.put,List.setIfInBounds_toArray,List.set_cons_zero,List.set_cons_succ,i64_w,i32_w]
      rfl
     refine take_ (i:=1) (N:=some 27) (v:=?_) (a':=?_) #[true,true,false,false,false,false,false,false,false,false,false,false,false,false,false,false,false,false,false,false,false] rfl rfl (take_ofW HT_.out HW_.out (by kernel_rfl)) (fun _ _ _ h => h) (Or.inl ⟨by rfl,?_⟩) hHeld ?_ ?_
     rotate_left
     ·rintro w' ⟨s0,s1,s2,s3,s4,s5⟩
      go_simp
      with_reducible rfl
     rotate_left
     ·simp only [Act.put,List.setIfInBounds_toArray,List.set_cons_zero,List.set_cons_succ,i64_w,i32_w]
      rfl
     refine pure_ (i:=2) (N:=some 28) (v:=?_) (a':=?_) #[true,true,true,false,false,false,false,false,false,false,false,false,false,false,false,false,false,false,false,false,false] rfl rfl (any_of HT_.out (by kernel_rfl)) (fun _ _ _ h => h) (Or.inl ⟨by rfl,?_⟩) ?_ ?_
     rotate_left
     ·intro w'
      go_simp
      with_reducible rfl
     rotate_left
     ·simp only [Act.put,List.setIfInBounds_toArray,List.set_cons_zero,List.set_cons_succ,i64_w,i32_w]
      rfl
     refine pure_ (i:=3) (N:=some 29) (v:=?_) (a':=?_) #[true,true,true,true,false,false,false,false,false,false,false,false,false,false,false,false,false,false,false,false,false] rfl rfl (any_of HT_.out (by kernel_rfl)) (fun _ _ _ h => h) (Or.inl ⟨by rfl,?_⟩) ?_ ?_
     rotate_left
     ·intro w'
      go_simp
      with_reducible rfl
     rotate_left
     ·simp only [Act.put,List.setIfInBounds_toArray,List.set_cons_zero,List.set_cons_succ,i64_w,i32_w]
      rfl
     refine pure_ (i:=4) (N:=some 30) (v:=undef) (a':=?_) #[true,true,true,true,true,false,false,false,false,false,false,false,false,false,false,false,false,false,false,false,false] rfl rfl (any_of HT_.out (by kernel_rfl)) (fun _ _ _ h => h) (Or.inr ⟨by rfl,rfl⟩) ?_ ?_
     rotate_left
     ·simp only [Act.put,List.setIfInBounds_toArray,List.set_cons_zero,List.set_cons_succ,i64_w,i32_w]
      rfl
     refine pure_ (i:=5) (N:=some 31) (v:=undef) (a':=?_) #[true,true,true,true,true,true,false,false,false,false,false,false,false,false,false,false,false,false,false,false,false] rfl rfl (any_of HT_.out (by kernel_rfl)) (fun _ _ _ h => h) (Or.inr ⟨by rfl,rfl⟩) ?_ ?_
     rotate_left
     ·simp only [Act.put,List.setIfInBounds_toArray,List.set_cons_zero,List.set_cons_succ,i64_w,i32_w]
      rfl
     refine pure_ (i:=6) (N:=some 32) (v:=undef) (a':=?_) #[true,true,true,true,true,true,true,false,false,false,false,false,false,false,false,false,false,false,false,false,false] rfl rfl (any_of HT_.out (by kernel_rfl)) (fun _ _ _ h => h) (Or.inr ⟨by rfl,rfl⟩) ?_ ?_
     rotate_left
     ·simp only [Act.put,List.setIfInBounds_toArray,List.set_cons_zero,List.set_cons_succ,i64_w,i32_w]
      rfl
     refine pure_ (i:=7) (N:=some 33) (v:=?_) (a':=?_) #[true,true,true,true,true,true,true,true,false,false,false,false,false,false,false,false,false,false,false,false,false] rfl rfl (any_of HT_.out (by kernel_rfl)) (fun _ _ _ h => h) (Or.inl ⟨by rfl,?_⟩) ?_ ?_
     rotate_left
     ·intro w'
      go_simp
      with_reducible rfl
     rotate_left
     ·simp only [Act.put,List.setIfInBounds_toArray,List.set_cons_zero,List.set_cons_succ,i64_w,i32_w]
      rfl
     refine pure_ (i:=8) (N:=some 34) (v:=?_) (a':=?_) #[true,true,true,true,true,true,true,true,true,false,false,false,false,false,false,false,false,false,false,false,false] rfl rfl (any_of HT_.out (by kernel_rfl)) (fun _ _ _ h => h) (Or.inl ⟨by rfl,?_⟩) ?_ ?_
     rotate_left
     ·intro w'
      go_simp
      with_reducible rfl
     rotate_left
     ·simp only [Act.put,List.setIfInBounds_toArray,List.set_cons_zero,List.set_cons_succ,i64_w,i32_w]
      rfl
     refine pure_ (i:=9) (N:=some 35) (v:=undef) (a':=?_) #[true,true,true,true,true,true,true,true,true,true,false,false,false,false,false,false,false,false,false,false,false] rfl rfl (any_of HT_.out (by kernel_rfl)) (fun _ _ _ h => h) (Or.inr ⟨by rfl,rfl⟩) ?_ ?_
     rotate_left
     ·simp only [Act.put,List.setIfInBounds_toArray,List.set_cons_zero,List.set_cons_succ,i64_w,i32_w]
      rfl
     refine pure_ (i:=10) (N:=some 36) (v:=undef) (a':=?_) #[true,true,true,true,true,true,true,true,true,true,true,false,false,false,false,false,false,false,false,false,false] rfl rfl (any_of HT_.out (by kernel_rfl)) (fun _ _ _ h => h) (Or.inr ⟨by rfl,rfl⟩) ?_ ?_
     rotate_left
     ·simp only [Act.put,List.setIfInBounds_toArray,List.set_cons_zero,List.set_cons_succ,i64_w,i32_w]
      rfl
     refine pure_ (i:=11) (N:=some 37) (v:=undef) (a':=?_) #[true,true,true,true,true,true,true,true,true,true,true,true,false,false,false,false,false,false,false,false,false] rfl rfl (any_of HT_.out (by kernel_rfl)) (fun _ _ _ h => h) (Or.inr ⟨by rfl,rfl⟩) ?_ ?_
     rotate_left
     ·simp only [Act.put,List.setIfInBounds_toArray,List.set_cons_zero,List.set_cons_succ,i64_w,i32_w]
      rfl
     refine pure_ (i:=12) (N:=some 38) (v:=undef) (a':=?_) #[true,true,true,true,true,true,true,true,true,true,true,true,true,false,false,false,false,false,false,false,false] rfl rfl (any_of HT_.out (by kernel_rfl)) (fun _ _ _ h => h) (Or.inr ⟨by rfl,rfl⟩) ?_ ?_
     rotate_left
     ·simp only [Act.put,List.setIfInBounds_toArray,List.set_cons_zero,List.set_cons_succ,i64_w,i32_w]
      rfl
     refine pure_ (i:=13) (N:=some 39) (v:=?_) (a':=?_) #[true,true,true,true,true,true,true,true,true,true,true,true,true,true,false,false,false,false,false,false,false] rfl rfl (any_of HT_.out (by kernel_rfl)) (fun _ _ _ h => h) (Or.inl ⟨by rfl,?_⟩) ?_ ?_
     rotate_left
     ·intro w'
      go_simp
      with_reducible rfl
     rotate_left
     ·simp only [Act.put,List.setIfInBounds_toArray,List.set_cons_zero,List.set_cons_succ,i64_w,i32_w]
      rfl
     refine pure_ (i:=14) (N:=some 40) (v:=?_) (a':=?_) #[true,true,true,true,true,true,true,true,true,true,true,true,true,true,true,false,false,false,false,false,false] rfl rfl (any_of HT_.out (by kernel_rfl)) (fun _ _ _ h => h) (Or.inl ⟨by rfl,?_⟩) ?_ ?_
     rotate_left
     ·intro w'
      go_simp
      with_reducible rfl
     rotate_left
     ·simp only [Act.put,List.setIfInBounds_toArray,List.set_cons_zero,List.set_cons_succ,i64_w,i32_w]
      rfl
     refine pure_ (i:=15) (N:=some 41) (v:=undef) (a':=?_) #[true,true,true,true,true,true,true,true,true,true,true,true,true,true,true,true,false,false,false,false,false] rfl rfl (any_of HT_.out (by kernel_rfl)) (fun _ _ _ h => h) (Or.inr ⟨by rfl,rfl⟩) ?_ ?_
     rotate_left
     ·simp only [Act.put,List.setIfInBounds_toArray,List.set_cons_zero,List.set_cons_succ,i64_w,i32_w]
      rfl
     refine pure_ (i:=16) (N:=some 42) (v:=undef) (a':=?_) #[true,true,true,true,true,true,true,true,true,true,true,true,true,true,true,true,true,false,false,false,false] rfl rfl (any_of HT_.out (by kernel_rfl)) (fun _ _ _ h => h) (Or.inr ⟨by rfl,rfl⟩) ?_ ?_
     rotate_left
     ·simp only [Act.put,List.setIfInBounds_toArray,List.set_cons_zero,List.set_cons_succ,i64_w,i32_w]
      rfl
     refine pure_ (i:=17) (N:=some 43) (v:=undef) (a':=?_) #[true,true,true,true,true,true,true,true,true,true,true,true,true,true,true,true,true,true,false,false,false] rfl rfl (any_of HT_.out (by kernel_rfl)) (fun _ _ _ h => h) (Or.inr ⟨by rfl,rfl⟩) ?_ ?_
     rotate_left
     ·simp only [Act.put,List.setIfInBounds_toArray,List.set_cons_zero,List.set_cons_succ,i64_w,i32_w]
      rfl
     refine pure_ (i:=18) (N:=some 44) (v:=undef) (a':=?_) #[true,true,true,true,true,true,true,true,true,true,true,true,true,true,true,true,true,true,true,false,false] rfl rfl (any_of HT_.out (by kernel_rfl)) (fun _ _ _ h => h) (Or.inr ⟨by rfl,rfl⟩) ?_ ?_
     rotate_left
     ·simp only [Act.put,List.setIfInBounds_toArray,List.set_cons_zero,List.set_cons_succ,i64_w,i32_w]
      rfl
     refine pure_ (i:=19) (N:=some 45) (v:=?_) (a':=?_) #[true,true,true,true,true,true,true,true,true,true,true,true,true,true,true,true,true,true,true,true,false] rfl rfl (any_of HT_.out (by kernel_rfl)) (fun _ _ _ h => h) (Or.inl ⟨by rfl,?_⟩) ?_ ?_
     rotate_left
     ·intro w'
      go_simp
      with_reducible rfl
     rotate_left
     ·simp only [Act.put,List.setIfInBounds_toArray,List.set_cons_zero,List.set_cons_succ,i64_w,i32_w]
      rfl
     refine pure_ (i:=20) (N:=some 2) (v:=?_) (a':=?_) #[true,true,true,true,true,true,true,true,true,true,true,true,true,true,true,true,true,true,true,true,true] rfl rfl (any_of HT_.out (by kernel_rfl)) (fun _ _ _ h => h) (Or.inl ⟨by rfl,?_⟩) ?_ ?_
     rotate_left
     ·intro w'
      go_simp
      with_reducible rfl
     rotate_left
     ·simp only [Act.put,List.setIfInBounds_toArray,List.set_cons_zero,List.set_cons_succ,i64_w,i32_w]
      rfl
     refine done_ (done_of HT_.out (by kernel_rfl)) ?_
     try go_wp2
     go_ret
     exact ⟨by first|rfl|(simp [errW_none,errW_some]<;>rfl)|(simp [*,errW_none,errW_some]<;>rfl),by repeat (first|(with_reducible first|exact HB.out|apply below_alloc|apply pw_below_drewN|apply below_drew1|refine below_set ?_ GE106.out)|exact HB.out)⟩
   ·rw [if_neg c11] at H
    have c11b0:(a0_0==4)=false:=beq_eq_false_iff_ne.mpr c11
    have c11b1:(a0_0 != 4)=true:=bne_iff_ne.mpr c11
    have HC29:=Aside0.mk H
    clear H
    have hcz30_0:wc.cell? ⟨gb106,0,none⟩=some (.int .i64 a0_0):=(blk_cell BK106.out 0).trans rfl
    have hcz30_1:wc.cell? ⟨gb106,1,none⟩=some (.slice A0_1 l0_1.length c0_1):=(blk_cell BK106.out 1).trans rfl
    have hcz30_2:wc.cell? ⟨gb106,2,none⟩=some (.int .i64 a0_2):=(blk_cell BK106.out 2).trans rfl
    have hcz30_3:wc.cell? ⟨gb106,3,none⟩=some (.int .u64 a0_3):=(blk_cell BK106.out 3).trans rfl
    have hcz30_4:wc.cell? ⟨gb106,4,none⟩=some (.string a0_4):=(blk_cell BK106.out 4).trans rfl
    have hcz30_5:wc.cell? ⟨gb106,5,none⟩=some (.int .u64 a0_5):=(blk_cell BK106.out 5).trans rfl
    have hfz30_0:=blk_frozen BK106.out 0
    have hfz30_1:=blk_frozen BK106.out 1
    have hfz30_2:=blk_frozen BK106.out 2
    have hfz30_3:=blk_frozen BK106.out 3
    have hfz30_4:=blk_frozen BK106.out 4
    have hfz30_5:=blk_frozen BK106.out 5
    go_upto_if 46 with (fail)
    go_cut [46] (fun v46 wc =>∃(kq:Nat) (x46_28:Bool),v46=.bool x46_28∧Aside0 (types_one.j1 kq x3_1 a0_0 x46_28 a0_0 l0_1 a0_2 a0_3 a0_4 a0_5=some r)∧Aside0 (kq≤kj1)∧Aside0 (wc.heap[gb106]?=some (.cells #[.int .i64 a0_0,(.slice A0_1 l0_1.length c0_1),.int .i64 a0_2,.int .u64 a0_3,.string a0_4,.int .u64 a0_5] 28 (0,0)))∧Aside0 (Below w.heap.size w wc))
    case first =>
     have H:=HC29.out
     clear HC29
     by_cases c31:a0_0=1
     ·rw [if_pos c31] at H
      have c31b0:(a0_0==1)=true:=beq_iff_eq.mpr c31
      have c31b1:(a0_0 != 1)=false:=bne_eq_false_iff_eq.mpr c31
      clear c31
      (first|rw [c31b0]|(simp only [i64_w,i32_w];rw [c31b0])|skip)
      have H':=Aside0.mk H
      clear H
      go_wp2
      go_meet
      case rel => exact ⟨_,((a0_0==1)),(by first|rfl|(simp;done)|(simp [*];done)),H',⟨by have:=HJ1.out;first|omega|exact Nat.le_refl _⟩,⟨by (with_reducible repeat (first|refine zN ?_|refine zD ?_|refine zA ?_));exact BK106.out⟩,⟨by repeat (first|(with_reducible first|exact HB.out|apply below_alloc|apply pw_below_drewN|apply below_drew1|refine below_set ?_ GE106.out)|exact HB.out)⟩⟩
     ·rw [if_neg c31] at H
      have c31b0:(a0_0==1)=false:=beq_eq_false_iff_ne.mpr c31
      have c31b1:(a0_0 != 1)=true:=bne_iff_ne.mpr c31
      (first|rw [c31b0]|(simp only [i64_w,i32_w];rw [c31b0])|skip)
      have H':=Aside0.mk H
      clear H
      go_wp2
      go_meet
      case rel => exact ⟨_,((a0_0==2)),(by first|rfl|(simp;done)|(simp [*];done)),H',⟨by have:=HJ1.out;first|omega|exact Nat.le_refl _⟩,⟨by (with_reducible repeat (first|refine zN ?_|refine zD ?_|refine zA ?_));exact BK106.out⟩,⟨by repeat (first|(with_reducible first|exact HB.out|apply below_alloc|apply pw_below_drewN|apply below_drew1|refine below_set ?_ GE106.out)|exact HB.out)⟩⟩
    case rest =>
     clear HC29
     obtain ⟨kq,x46_28,rfl,HA,HJ28,BK106,HB⟩:=hcut
     cases kq with
     |  zero => exact absurd HA.out (by simp [types_one.j1])
     |  succ kj28 =>
      have H:=HA.out
      clear HA
      simp only [types_one.j1] at H
      by_cases c32:x46_28=true
      ·subst c32
       have H1:(if x3_1=true then (some (decide ((l0_1.length:Int) ≥ 2))) else (some false))=some r:=by rw [if_pos rfl] at H;exact H
       clear H
       have H:=H1
       clear H1
       by_cases c33:x3_1=true
       ·subst c33
        have H1:(some (decide ((l0_1.length:Int) ≥ 2)))=some r:=by rw [if_pos rfl] at H;exact H
        clear H
        have H:=H1
        clear H1
        obtain rfl:=Option.some.inj H
        have hcz34_0:wc.cell? ⟨gb106,0,none⟩=some (.int .i64 a0_0):=(blk_cell BK106.out 0).trans rfl
        have hcz34_1:wc.cell? ⟨gb106,1,none⟩=some (.slice A0_1 l0_1.length c0_1):=(blk_cell BK106.out 1).trans rfl
        have hcz34_2:wc.cell? ⟨gb106,2,none⟩=some (.int .i64 a0_2):=(blk_cell BK106.out 2).trans rfl
        have hcz34_3:wc.cell? ⟨gb106,3,none⟩=some (.int .u64 a0_3):=(blk_cell BK106.out 3).trans rfl
        have hcz34_4:wc.cell? ⟨gb106,4,none⟩=some (.string a0_4):=(blk_cell BK106.out 4).trans rfl
        have hcz34_5:wc.cell? ⟨gb106,5,none⟩=some (.int .u64 a0_5):=(blk_cell BK106.out 5).trans rfl
        have hfz34_0:=blk_frozen BK106.out 0
        have hfz34_1:=blk_frozen BK106.out 1
        have hfz34_2:=blk_frozen BK106.out 2
        have hfz34_3:=blk_frozen BK106.out 3
        have hfz34_4:=blk_frozen BK106.out 4
        have hfz34_5:=blk_frozen BK106.out 5
        go_wp2
        go_ret
        exact ⟨by first|rfl|(simp [errW_none,errW_some]<;>rfl)|(simp [*,errW_none,errW_some]<;>rfl),by repeat (first|(with_reducible first|exact HB.out|apply below_alloc|apply pw_below_drewN|apply below_drew1|refine below_set ?_ GE106.out)|exact HB.out)⟩
       ·replace c33:=Bool.eq_false_iff.mpr c33
        subst c33
        have H1:(some false)=some r:=by rw [if_neg (show ¬ (false=true) by decide)] at H;exact H
        clear H
        have H:=H1
        clear H1
        obtain rfl:=Option.some.inj H
        go_wp2
        go_ret
        exact ⟨by first|rfl|(simp [errW_none,errW_some]<;>rfl)|(simp [*,errW_none,errW_some]<;>rfl),by repeat (first|(with_reducible first|exact HB.out|apply below_alloc|apply pw_below_drewN|apply below_drew1|refine below_set ?_ GE106.out)|exact HB.out)⟩
      ·replace c32:=Bool.eq_false_iff.mpr c32
       subst c32
       have H1:(if a0_0=3 then (if x3_1=true then (some ((l0_1.length:Int)==1)) else (some false)) else (some false))=some r:=by rw [if_neg (show ¬ (false=true) by decide)] at H;exact H
       clear H
       have H:=H1
       clear H1
       by_cases c35:a0_0=3
       ·rw [if_pos c35] at H
        have c35b0:(a0_0==3)=true:=beq_iff_eq.mpr c35
        have c35b1:(a0_0 != 3)=false:=bne_eq_false_iff_eq.mpr c35
        clear c35
        by_cases c36:x3_1=true
        ·subst c36
         have H1:(some ((l0_1.length:Int)==1))=some r:=by rw [if_pos rfl] at H;exact H
         clear H
         have H:=H1
         clear H1
         obtain rfl:=Option.some.inj H
         have hcz37_0:wc.cell? ⟨gb106,0,none⟩=some (.int .i64 a0_0):=(blk_cell BK106.out 0).trans rfl
         have hcz37_1:wc.cell? ⟨gb106,1,none⟩=some (.slice A0_1 l0_1.length c0_1):=(blk_cell BK106.out 1).trans rfl
         have hcz37_2:wc.cell? ⟨gb106,2,none⟩=some (.int .i64 a0_2):=(blk_cell BK106.out 2).trans rfl
         have hcz37_3:wc.cell? ⟨gb106,3,none⟩=some (.int .u64 a0_3):=(blk_cell BK106.out 3).trans rfl
         have hcz37_4:wc.cell? ⟨gb106,4,none⟩=some (.string a0_4):=(blk_cell BK106.out 4).trans rfl
         have hcz37_5:wc.cell? ⟨gb106,5,none⟩=some (.int .u64 a0_5):=(blk_cell BK106.out 5).trans rfl
         have hfz37_0:=blk_frozen BK106.out 0
         have hfz37_1:=blk_frozen BK106.out 1
         have hfz37_2:=blk_frozen BK106.out 2
         have hfz37_3:=blk_frozen BK106.out 3
         have hfz37_4:=blk_frozen BK106.out 4
         have hfz37_5:=blk_frozen BK106.out 5
         go_wp2
         go_ret
         exact ⟨by first|rfl|(simp [errW_none,errW_some]<;>rfl)|(simp [*,errW_none,errW_some]<;>rfl),by repeat (first|(with_reducible first|exact HB.out|apply below_alloc|apply pw_below_drewN|apply below_drew1|refine below_set ?_ GE106.out)|exact HB.out)⟩
        ·replace c36:=Bool.eq_false_iff.mpr c36
         subst c36
         have H1:(some false)=some r:=by rw [if_neg (show ¬ (false=true) by decide)] at H;exact H
         clear H
         have H:=H1
         clear H1
         obtain rfl:=Option.some.inj H
         go_wp2
         go_ret
         exact ⟨by first|rfl|(simp [errW_none,errW_some]<;>rfl)|(simp [*,errW_none,errW_some]<;>rfl),by repeat (first|(with_reducible first|exact HB.out|apply below_alloc|apply pw_below_drewN|apply below_drew1|refine below_set ?_ GE106.out)|exact HB.out)⟩
       ·rw [if_neg c35] at H
        have c35b0:(a0_0==3)=false:=beq_eq_false_iff_ne.mpr c35
        have c35b1:(a0_0 != 3)=true:=bne_iff_ne.mpr c35
        obtain rfl:=Option.some.inj H
        go_wp2
        go_ret
        exact ⟨by first|rfl|(simp [errW_none,errW_some]<;>rfl)|(simp [*,errW_none,errW_some]<;>rfl),by repeat (first|(with_reducible first|exact HB.out|apply below_alloc|apply pw_below_drewN|apply below_drew1|refine below_set ?_ GE106.out)|exact HB.out)⟩

end Go.Proofs.YtdfjjimmnbijmaaGreatDoor.ZQ

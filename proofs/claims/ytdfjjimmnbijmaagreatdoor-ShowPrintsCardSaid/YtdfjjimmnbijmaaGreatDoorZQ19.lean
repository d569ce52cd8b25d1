-- Written for this claim by myprint.py over the kit's print (functions of this session supplied)
import Derived.Test.YtdfjjimmnbijmaaGreatDoorZQ0
import Derived.Test.YtdfjjimmnbijmaaGreatDoorZQ1
import Derived.Test.YtdfjjimmnbijmaaGreatDoorZQ3
import Derived.Test.YtdfjjimmnbijmaaGreatDoorZQ6
import Derived.Test.YtdfjjimmnbijmaaGreatDoorZQ11
import Derived.Test.YtdfjjimmnbijmaaGreatDoorZQ13
import Derived.Test.YtdfjjimmnbijmaaGreatDoorZQ14
import Derived.Test.YtdfjjimmnbijmaaGreatDoorZQ18
namespace Go.Proofs.YtdfjjimmnbijmaaGreatDoor.ZQ
open Go.RowKit Go.Proofs.YtdfjjimmnbijmaaGreatDoorW.PrintWords Go.Proofs.YtdfjjimmnbijmaaGreatDoorW.PrintLast Go.Proofs.YtdfjjimmnbijmaaGreatDoorW.PrintMore Go.Proofs.YtdfjjimmnbijmaaGreatDoor.Base
attribute [local go_sem] max2_int min2_int max_two min_two max_three min_three max_four min_four   -- for this text's walks alone
set_option linter.unusedVariables false
set_option linter.unusedSimpArgs false

/-! ### show_Right: function 11 -/
def show_Right.f (a0_0:ByteArray) (a0_1:ByteArray) (a0_2:Int) (l0_3:List (S47)):Option (Bool):=(show_source.f a0_0 a0_1 a0_2 l0_3).bind fun bt205 => (some bt205.2)
set_option maxHeartbeats 8000000 in
set_option maxRecDepth 100000 in
theorem show_Right.calls (a0_0:ByteArray) (a0_1:ByteArray) (a0_2:Int) (A0_3:Option Addr) (c0_3:Nat) (l0_3:List (S47)) (r:Bool) (w:World) (hr0_3:Kd.C k47 w A0_3 l0_3.length l0_3) (hc0_3:l0_3.length≤c0_3) (hLd:LaidAt w) (h:show_Right.f a0_0 a0_1 a0_2 l0_3=some r) :
  Calls Tryz.prog 11 #[.agg #[.string a0_0,.string a0_1,.int .u64 a0_2,.slice A0_3 l0_3.length c0_3]] w fun e w' => e=.returned (.bool r)∧Below w.heap.size w w':=by
 have hu25:=Tryz.underlying25
 have HLD:=Aside0.mk hLd
 clear hLd
 have HR0_3:=Aside0.mk hr0_3
 have HC0_3:=Aside0.mk hc0_3
 clear hr0_3 hc0_3
 have HB:=Aside0.mk (Below.refl w.heap.size w)
 have H:((show_source.f a0_0 a0_1 a0_2 l0_3).bind fun bt205 => (some bt205.2))=some r:=h
 clear h
 replace H:=Option.bind_eq_some_iff.mp H
 obtain ⟨⟨t205,t206⟩,A20,H⟩:=H
 replace H:(some t206)=some r:=H
 have A2:=Aside0.mk A20
 clear A20
 obtain rfl:=Option.some.inj H
 go_enter Tryz.func11,Tryz.ntmps11
 go_wp2_with (first|((with_reducible refine gate_dst (N:=1) rfl ?_);refine box_event ?hg (N:=1) ?hd (cs:=#[.string a0_0,.string a0_1,.int .u64 a0_2,.slice A0_3 l0_3.length c0_3]) (t:=25) ?hr ?_;(case hd => rfl);(case hg => rfl);(case hr => first|(go_simp;done)|(go_simp;rfl));intro gb204 hg w3 hbox hb;have n0_:=Aside0.mk (below_step (by repeat (with_reducible first|exact HB.out|apply below_alloc|apply pw_below_drewN|apply below_drew1)) hb);have n1_:=Aside0.mk (hbox);have n2_:=Aside0.mk ((by rw [hg];exact (below_size (by repeat (with_reducible first|exact HB.out|apply below_alloc|apply pw_below_drewN|apply below_drew1))):w.heap.size≤gb204));have n3_:=Aside0.mk ((by rw [hg];exact (below_size (by repeat (with_reducible first|exact HB.out|apply below_alloc|apply pw_below_drewN|apply below_drew1))):w.heap.size≤gb204));clear HB;have HB:=n0_;have BK204:=n1_;have GW204:=n2_;have GE204:=n3_;clear n0_ n1_ n2_ n3_;clear hb hbox hg;have hcz4_0:w3.cell? ⟨gb204,0,none⟩=some (.string a0_0):=(blk_cell BK204.out 0).trans rfl;have hcz4_1:w3.cell? ⟨gb204,1,none⟩=some (.string a0_1):=(blk_cell BK204.out 1).trans rfl;have hcz4_2:w3.cell? ⟨gb204,2,none⟩=some (.int .u64 a0_2):=(blk_cell BK204.out 2).trans rfl;have hcz4_3:w3.cell? ⟨gb204,3,none⟩=some (.slice A0_3 l0_3.length c0_3):=(blk_cell BK204.out 3).trans rfl;have hfz4_0:=blk_frozen BK204.out 0;have hfz4_1:=blk_frozen BK204.out 1;have hfz4_2:=blk_frozen BK204.out 2;have hfz4_3:=blk_frozen BK204.out 3)|((with_reducible refine gate_callee (f:=17) rfl ?_);refine goesL_ (some 7) rfl rfl Tryz.func17 (by kernel_rfl) rfl #[.agg #[.string a0_0,.string a0_1,.int .u64 a0_2,.slice A0_3 l0_3.length c0_3]] rfl (by (try simp only [List.map_toArray,List.map_cons,List.map_nil]);first|done|rfl|(simp only [List.length_drop,List.length_take];rfl)) ?_;(with_reducible refine (show_source.calls a0_0 a0_1 a0_2 _ _ l0_3 t205 t206 _ ?side1 ?side2 ?side3 A2.out).mono ?_);(case side1 => repeat (first|exact (Kd.C_below HR0_3.out HB.out)|(with_reducible refine Kd.C_alloc ?_ _)|(with_reducible refine Kd.C_drewN ?_ _)|(with_reducible refine Kd.C_drew ?_)));(case side2 => exact HC0_3.out);(case side3 => exact LaidAt.of HLD.out (by repeat (first|(with_reducible first|exact HB.out|apply below_alloc|apply pw_below_drewN|apply below_drew1|refine below_set ?_ GE204.out)|exact HB.out)));rintro e w5 ⟨rfl,hb⟩;refine ⟨_,rfl,?_⟩;have n0_:=Aside0.mk (blk_below (g:=gb204) (o:=.cells #[.string a0_0,.string a0_1,.int .u64 a0_2,.slice A0_3 l0_3.length c0_3] 25 (0,0)) (by (with_reducible repeat (first|refine zN ?_|refine zD ?_|refine zA ?_));exact BK204.out) hb);have n1_:=Aside0.mk (below_step (by repeat (first|(with_reducible first|exact HB.out|apply below_alloc|apply pw_below_drewN|apply below_drew1|refine below_set ?_ GE204.out)|exact HB.out)) hb);clear BK204;clear HB;have BK204:=n0_;have HB:=n1_;clear n0_ n1_;(try clear hb);(try clear hb2);(try clear hk);(try clear hi)))
 go_ret
 exact ⟨by first|rfl|(simp [errW_none,errW_some]<;>rfl)|(simp [*,errW_none,errW_some]<;>rfl),by repeat (first|(with_reducible first|exact HB.out|apply below_alloc|apply pw_below_drewN|apply below_drew1|refine below_set ?_ GE204.out)|exact HB.out)⟩

/-! ### doorwardlaw17_ShowPrints: function 3 -/
mutual
def doorwardlaw17_ShowPrints.j0:Nat→Bool→ByteArray→ByteArray→Int→List (S47)→Int→List (S28)→Int→Int→ByteArray→Int→Option (Bool)
 |  0,_,_,_,_,_,_,_,_,_,_,_ => none
 |  k+1,x23,x208000,x208001,x208002,x208003,x209000,x209001,x209002,x209003,x209004,x209005 => if x23=true then ((doorwardlaw17_alive.f).bind fun t217 => (some t217)) else ((show_Print.f x208000 x208001 x208002 x208003).bind fun bt218 => ((doorwardref17_Print.f k x208000 x208001 x208002 x208003).bind fun bt220 => (if bt218.1.toList=bt220.1.toList then (if bt218.2=bt220.2 then ((show_Right.f x208000 x208001 x208002 x208003).bind fun t222 => (if (t222 != (bt220.2==0))=true then (doorwardlaw17_ShowPrints.j1 k true x209000 x209001 x209002 x209003 x209004 x209005) else ((doorwardlaw17_alive.f).bind fun t223 => (doorwardlaw17_ShowPrints.j1 k (!t223) x209000 x209001 x209002 x209003 x209004 x209005)))) else (doorwardlaw17_ShowPrints.j1 k true x209000 x209001 x209002 x209003 x209004 x209005)) else (doorwardlaw17_ShowPrints.j1 k true x209000 x209001 x209002 x209003 x209004 x209005))))
def doorwardlaw17_ShowPrints.j1:Nat→Bool→Int→List (S28)→Int→Int→ByteArray→Int→Option (Bool)
 |  0,_,_,_,_,_,_,_ => none
 |  k+1,x53,x209000,x209001,x209002,x209003,x209004,x209005 => if x53=true then (some false) else ((show_Cond.f x209000 x209001 x209002 x209003 x209004 x209005).bind fun bt224 => ((doorwardref16_Right.f k x209000 x209001 x209002 x209003 x209004 x209005).bind fun t226 => (if t226=true then (if bt224.2=0 then ((doorwardref17_Text.f x209000 x209001 x209002 x209003 x209004 x209005).bind fun t227 => (some (bt224.1.toList==t227.toList))) else (some false)) else (if bt224.2=1 then (some (bt224.1.toList==([]:List UInt8))) else (some false)))))
end
def doorwardlaw17_ShowPrints.f (k:Nat) (a0_0:ByteArray) (a0_1:ByteArray) (a0_2:Int) (l0_3:List (S47)) (a1_0:Int) (l1_1:List (S28)) (a1_2:Int) (a1_3:Int) (a1_4:ByteArray) (a1_5:Int):Option (Bool):=(doorwardref15_Few.f k a0_0 a0_1 a0_2 l0_3).bind fun bt209 => (if bt209.2.2.2.2=true then ((doorwardref15_Many.f a1_0 l1_1 a1_2 a1_3 a1_4 a1_5 200).bind fun t216 => (doorwardlaw17_ShowPrints.j0 k (decide (t216>200)) bt209.1 bt209.2.1 bt209.2.2.1 bt209.2.2.2.1 a1_0 l1_1 a1_2 a1_3 a1_4 a1_5)) else (doorwardlaw17_ShowPrints.j0 k true bt209.1 bt209.2.1 bt209.2.2.1 bt209.2.2.2.1 a1_0 l1_1 a1_2 a1_3 a1_4 a1_5))
theorem doorwardlaw17_ShowPrints.mono_l:∀ k,(∀ y0 y1 y2 y3 y4 y5 y6 y7 y8 y9 y10,LeO (doorwardlaw17_ShowPrints.j0 k y0 y1 y2 y3 y4 y5 y6 y7 y8 y9 y10) (doorwardlaw17_ShowPrints.j0 (k+1) y0 y1 y2 y3 y4 y5 y6 y7 y8 y9 y10))∧(∀ y0 y1 y2 y3 y4 y5 y6,LeO (doorwardlaw17_ShowPrints.j1 k y0 y1 y2 y3 y4 y5 y6) (doorwardlaw17_ShowPrints.j1 (k+1) y0 y1 y2 y3 y4 y5 y6))
 |  0 => ⟨fun _ _ _ _ _ _ _ _ _ _ _ r h => by simp [doorwardlaw17_ShowPrints.j0] at h,fun _ _ _ _ _ _ _ r h => by simp [doorwardlaw17_ShowPrints.j1] at h⟩
 |  k+1 => by
  obtain ⟨ih0,ih1⟩:=doorwardlaw17_ShowPrints.mono_l k
  refine ⟨?_,?_⟩
  ·intro y0 y1 y2 y3 y4 y5 y6 y7 y8 y9 y10
   unfold doorwardlaw17_ShowPrints.j0
   repeat' first
   |  (with_reducible exact ih0 _ _ _ _ _ _ _ _ _ _ _)
   |  (with_reducible exact ih1 _ _ _ _ _ _ _)
   |  (with_reducible exact doorwardref15_Few.mono _ _ _ _ _)
   |  (with_reducible exact doorwardref16_Right.mono _ _ _ _ _ _ _)
   |  (with_reducible exact doorwardref17_Print.mono _ _ _ _ _)
   |  (with_reducible exact LeO.refl _)
   |  (with_reducible exact LeO.none _)
   |  (with_reducible refine LeO.ite ?_ ?_)
   |  (with_reducible refine LeO.bind ?_ (fun _ => ?_))
   |  exact ih0 _ _ _ _ _ _ _ _ _ _ _
   |  exact ih1 _ _ _ _ _ _ _
   |  exact doorwardref15_Few.mono _ _ _ _ _
   |  exact doorwardref16_Right.mono _ _ _ _ _ _ _
   |  exact doorwardref17_Print.mono _ _ _ _ _
   |  exact LeO.none _
   |  refine LeO.ite ?_ ?_
   |  refine LeO.bind ?_ (fun _ => ?_)
  ·intro y0 y1 y2 y3 y4 y5 y6
   unfold doorwardlaw17_ShowPrints.j1
   repeat' first
   |  (with_reducible exact ih0 _ _ _ _ _ _ _ _ _ _ _)
   |  (with_reducible exact ih1 _ _ _ _ _ _ _)
   |  (with_reducible exact doorwardref15_Few.mono _ _ _ _ _)
   |  (with_reducible exact doorwardref16_Right.mono _ _ _ _ _ _ _)
   |  (with_reducible exact doorwardref17_Print.mono _ _ _ _ _)
   |  (with_reducible exact LeO.refl _)
   |  (with_reducible exact LeO.none _)
   |  (with_reducible refine LeO.ite ?_ ?_)
   |  (with_reducible refine LeO.bind ?_ (fun _ => ?_))
   |  exact ih0 _ _ _ _ _ _ _ _ _ _ _
   |  exact ih1 _ _ _ _ _ _ _
   |  exact doorwardref15_Few.mono _ _ _ _ _
   |  exact doorwardref16_Right.mono _ _ _ _ _ _ _
   |  exact doorwardref17_Print.mono _ _ _ _ _
   |  exact LeO.none _
   |  refine LeO.ite ?_ ?_
   |  refine LeO.bind ?_ (fun _ => ?_)
theorem doorwardlaw17_ShowPrints.mono:∀ a0 a1 a2 a3 a4 a5 a6 a7 a8 a9 k,LeO (doorwardlaw17_ShowPrints.f k a0 a1 a2 a3 a4 a5 a6 a7 a8 a9) (doorwardlaw17_ShowPrints.f (k+1) a0 a1 a2 a3 a4 a5 a6 a7 a8 a9):=by
 intro a0 a1 a2 a3 a4 a5 a6 a7 a8 a9 k
 obtain ⟨ih0,ih1⟩:=doorwardlaw17_ShowPrints.mono_l k
 unfold doorwardlaw17_ShowPrints.f
 repeat' first
   |  (with_reducible exact ih0 _ _ _ _ _ _ _ _ _ _ _)
   |  (with_reducible exact ih1 _ _ _ _ _ _ _)
   |  (with_reducible exact doorwardref15_Few.mono _ _ _ _ _)
   |  (with_reducible exact doorwardref16_Right.mono _ _ _ _ _ _ _)
   |  (with_reducible exact doorwardref17_Print.mono _ _ _ _ _)
   |  (with_reducible exact LeO.refl _)
   |  (with_reducible exact LeO.none _)
   |  (with_reducible refine LeO.ite ?_ ?_)
   |  (with_reducible refine LeO.bind ?_ (fun _ => ?_))
   |  exact ih0 _ _ _ _ _ _ _ _ _ _ _
   |  exact ih1 _ _ _ _ _ _ _
   |  exact doorwardref15_Few.mono _ _ _ _ _
   |  exact doorwardref16_Right.mono _ _ _ _ _ _ _
   |  exact doorwardref17_Print.mono _ _ _ _ _
   |  exact LeO.none _
   |  refine LeO.ite ?_ ?_
   |  refine LeO.bind ?_ (fun _ => ?_)
set_option maxHeartbeats 8000000 in
set_option maxRecDepth 100000 in
theorem doorwardlaw17_ShowPrints.calls (k:Nat) (a0_0:ByteArray) (a0_1:ByteArray) (a0_2:Int) (A0_3:Option Addr) (c0_3:Nat) (l0_3:List (S47)) (a1_0:Int) (A1_1:Option Addr) (c1_1:Nat) (l1_1:List (S28)) (a1_2:Int) (a1_3:Int) (a1_4:ByteArray) (a1_5:Int) (r:Bool) (w:World) (hr0_3:Kd.C k47 w A0_3 l0_3.length l0_3) (hc0_3:l0_3.length≤c0_3) (hr1_1:Kd.C k28 w A1_1 l1_1.length l1_1) (hc1_1:l1_1.length≤c1_1) (hLd:LaidAt w) (h:doorwardlaw17_ShowPrints.f k a0_0 a0_1 a0_2 l0_3 a1_0 l1_1 a1_2 a1_3 a1_4 a1_5=some r) :
  Calls Tryz.prog 3 #[.agg #[.string a0_0,.string a0_1,.int .u64 a0_2,.slice A0_3 l0_3.length c0_3],.agg #[.int .i64 a1_0,.slice A1_1 l1_1.length c1_1,.int .i64 a1_2,.int .u64 a1_3,.string a1_4,.int .u64 a1_5]] w fun e w' => e=.returned (.bool r)∧Below w.heap.size w w':=by
 have hu25:=Tryz.underlying25
 have hu28:=Tryz.underlying28
 have HLD:=Aside0.mk hLd
 clear hLd
 have HR0_3:=Aside0.mk hr0_3
 have HC0_3:=Aside0.mk hc0_3
 clear hr0_3 hc0_3
 have HR1_1:=Aside0.mk hr1_1
 have HC1_1:=Aside0.mk hc1_1
 clear hr1_1 hc1_1
 have HB:=Aside0.mk (Below.refl w.heap.size w)
 have H:((doorwardref15_Few.f k a0_0 a0_1 a0_2 l0_3).bind fun bt209 => (if bt209.2.2.2.2=true then ((doorwardref15_Many.f a1_0 l1_1 a1_2 a1_3 a1_4 a1_5 200).bind fun t216 => (doorwardlaw17_ShowPrints.j0 k (decide (t216>200)) bt209.1 bt209.2.1 bt209.2.2.1 bt209.2.2.2.1 a1_0 l1_1 a1_2 a1_3 a1_4 a1_5)) else (doorwardlaw17_ShowPrints.j0 k true bt209.1 bt209.2.1 bt209.2.2.1 bt209.2.2.2.1 a1_0 l1_1 a1_2 a1_3 a1_4 a1_5)))=some r:=h
 clear h
 replace H:=Option.bind_eq_some_iff.mp H
 obtain ⟨⟨t209,t210,t211,t212,t215⟩,A30,H⟩:=H
 replace H:(if t215=true then ((doorwardref15_Many.f a1_0 l1_1 a1_2 a1_3 a1_4 a1_5 200).bind fun t216 => (doorwardlaw17_ShowPrints.j0 k (decide (t216>200)) t209 t210 t211 t212 a1_0 l1_1 a1_2 a1_3 a1_4 a1_5)) else (doorwardlaw17_ShowPrints.j0 k true t209 t210 t211 t212 a1_0 l1_1 a1_2 a1_3 a1_4 a1_5))=some r:=H
 have A3:=Aside0.mk A30
 clear A30
 have HC4:=Aside0.mk H
 clear H
 go_enter Tryz.func3,Tryz.ntmps3
 go_upto_region 2 with (first|((with_reducible refine gate_dst (N:=2) rfl ?_);refine box_event ?hg (N:=2) ?hd (cs:=#[.string a0_0,.string a0_1,.int .u64 a0_2,.slice A0_3 l0_3.length c0_3]) (t:=25) ?hr ?_;(case hd => rfl);(case hg => rfl);(case hr => first|(go_simp;done)|(go_simp;rfl));intro gb207 hg w5 hbox hb;have n0_:=Aside0.mk (below_step (by repeat (with_reducible first|exact HB.out|apply below_alloc|apply pw_below_drewN|apply below_drew1)) hb);have n1_:=Aside0.mk (hbox);have n2_:=Aside0.mk ((by rw [hg];exact (below_size (by repeat (with_reducible first|exact HB.out|apply below_alloc|apply pw_below_drewN|apply below_drew1))):w.heap.size≤gb207));have n3_:=Aside0.mk ((by rw [hg];exact (below_size (by repeat (with_reducible first|exact HB.out|apply below_alloc|apply pw_below_drewN|apply below_drew1))):w.heap.size≤gb207));clear HB;have HB:=n0_;have BK207:=n1_;have GW207:=n2_;have GE207:=n3_;clear n0_ n1_ n2_ n3_;clear hb hbox hg)|((with_reducible refine gate_dst (N:=3) rfl ?_);refine box_event ?hg (N:=3) ?hd (cs:=#[.int .i64 a1_0,.slice A1_1 l1_1.length c1_1,.int .i64 a1_2,.int .u64 a1_3,.string a1_4,.int .u64 a1_5]) (t:=28) ?hr ?_;(case hd => rfl);(case hg => rfl);(case hr => first|(go_simp;done)|(go_simp;rfl));intro gb208 hg w6 hbox hb;have n0_:=Aside0.mk (blk_below (g:=gb207) (o:=.cells #[.string a0_0,.string a0_1,.int .u64 a0_2,.slice A0_3 l0_3.length c0_3] 25 (0,0)) (by (with_reducible repeat (first|refine zN ?_|refine zD ?_|refine zA ?_));exact BK207.out) hb);have n1_:=Aside0.mk (below_step (by repeat (first|(with_reducible first|exact HB.out|apply below_alloc|apply pw_below_drewN|apply below_drew1|refine below_set ?_ GE207.out)|exact HB.out)) hb);have n2_:=Aside0.mk (hbox);have n3_:=Aside0.mk ((by rw [hg];exact (below_size (by repeat (first|(with_reducible first|exact HB.out|apply below_alloc|apply pw_below_drewN|apply below_drew1|refine below_set ?_ GE207.out)|exact HB.out))):w.heap.size≤gb208));have n4_:=Aside0.mk ((by rw [hg];exact (below_size (by repeat (first|(with_reducible first|exact HB.out|apply below_alloc|apply pw_below_drewN|apply below_drew1|refine below_set ?_ GE207.out)|exact HB.out))):w.heap.size≤gb208));have n5_:=Aside0.mk ((by rw [hg];exact Nat.ne_of_lt (blk_lt (g:=gb207) (o:=.cells #[.string a0_0,.string a0_1,.int .u64 a0_2,.slice A0_3 l0_3.length c0_3] 25 (0,0)) (by (with_reducible repeat (first|refine zN ?_|refine zD ?_|refine zA ?_));exact BK207.out)):gb207 ≠ gb208));have n6_:=Aside0.mk ((by rw [hg];exact Nat.ne_of_gt (blk_lt (g:=gb207) (o:=.cells #[.string a0_0,.string a0_1,.int .u64 a0_2,.slice A0_3 l0_3.length c0_3] 25 (0,0)) (by (with_reducible repeat (first|refine zN ?_|refine zD ?_|refine zA ?_));exact BK207.out)):gb208 ≠ gb207));clear BK207;clear HB;have BK207:=n0_;have HB:=n1_;have BK208:=n2_;have GW208:=n3_;have GE208:=n4_;have NB207_208:=n5_;have NB208_207:=n6_;clear n0_ n1_ n2_ n3_ n4_ n5_ n6_;clear hb hbox hg;have hnb7:=NB207_208.out;have hnc7:=NB208_207.out;have hcz8_0:w6.cell? ⟨gb207,0,none⟩=some (.string a0_0):=(blk_cell BK207.out 0).trans rfl;have hcz8_1:w6.cell? ⟨gb207,1,none⟩=some (.string a0_1):=(blk_cell BK207.out 1).trans rfl;have hcz8_2:w6.cell? ⟨gb207,2,none⟩=some (.int .u64 a0_2):=(blk_cell BK207.out 2).trans rfl;have hcz8_3:w6.cell? ⟨gb207,3,none⟩=some (.slice A0_3 l0_3.length c0_3):=(blk_cell BK207.out 3).trans rfl;have hfz8_0:=blk_frozen BK207.out 0;have hfz8_1:=blk_frozen BK207.out 1;have hfz8_2:=blk_frozen BK207.out 2;have hfz8_3:=blk_frozen BK207.out 3)|((with_reducible refine gate_callee (f:=6) rfl ?_);refine goesL_ (some 14) rfl rfl Tryz.func6 (by kernel_rfl) rfl #[.agg #[.string a0_0,.string a0_1,.int .u64 a0_2,.slice A0_3 l0_3.length c0_3]] rfl (by (try simp only [List.map_toArray,List.map_cons,List.map_nil]);first|done|rfl|(simp only [List.length_drop,List.length_take];rfl)) ?_;(with_reducible refine (doorwardref15_Few.calls k a0_0 a0_1 a0_2 (fun k_ => k_<w.heap.size) _ _ l0_3 t209 t210 t211 t212 t215 _ ?side1 ?side2 A3.out).mono ?_);(case side1 => exact Kd.V_mk HC0_3.out (Kd.F_below (Kd.C_F k47_heap HR0_3.out) (by repeat (first|(with_reducible first|exact HB.out|apply below_alloc|apply pw_below_drewN|apply below_drew1|refine below_set ?_ GE207.out|refine below_set ?_ GE208.out)|exact HB.out))));(case side2 => exact LaidAt.of HLD.out (by repeat (first|(with_reducible first|exact HB.out|apply below_alloc|apply pw_below_drewN|apply below_drew1|refine below_set ?_ GE207.out|refine below_set ?_ GE208.out)|exact HB.out)));rintro e w9 ⟨v213,rfl,ho0,hb⟩;refine ⟨_,rfl,?_⟩;have n0_:=Aside0.mk (Kd.V_lower (Kd.V_mono (ok':=fun k_ => k_ ≠ gb207∧k_ ≠ gb208) ho0 (fun k_ hk_ => ⟨Or.elim hk_ (fun hs_ => fun e_ => Nat.not_le.2 hs_ (by rw [e_];exact GW207.out)) (fun hn_ => (Kd.freshB (g:=gb207) (o:=.cells #[.string a0_0,.string a0_1,.int .u64 a0_2,.slice A0_3 l0_3.length c0_3] 25 (0,0)) (by (with_reducible repeat (first|refine zN ?_|refine zD ?_|refine zA ?_));exact BK207.out) k_ hn_)),Or.elim hk_ (fun hs_ => fun e_ => Nat.not_le.2 hs_ (by rw [e_];exact GW208.out)) (fun hn_ => (Kd.freshB (g:=gb208) (o:=.cells #[.int .i64 a1_0,.slice A1_1 l1_1.length c1_1,.int .i64 a1_2,.int .u64 a1_3,.string a1_4,.int .u64 a1_5] 28 (0,0)) (by (with_reducible repeat (first|refine zN ?_|refine zD ?_|refine zA ?_));exact BK208.out) k_ hn_))⟩)) (below_size (by repeat (first|(with_reducible first|exact HB.out|apply below_alloc|apply pw_below_drewN|apply below_drew1|refine below_set ?_ GE207.out|refine below_set ?_ GE208.out)|exact HB.out))));have n1_:=Aside0.mk (blk_below (g:=gb207) (o:=.cells #[.string a0_0,.string a0_1,.int .u64 a0_2,.slice A0_3 l0_3.length c0_3] 25 (0,0)) (by (with_reducible repeat (first|refine zN ?_|refine zD ?_|refine zA ?_));exact BK207.out) hb);have n2_:=Aside0.mk (blk_below (g:=gb208) (o:=.cells #[.int .i64 a1_0,.slice A1_1 l1_1.length c1_1,.int .i64 a1_2,.int .u64 a1_3,.string a1_4,.int .u64 a1_5] 28 (0,0)) (by (with_reducible repeat (first|refine zN ?_|refine zD ?_|refine zA ?_));exact BK208.out) hb);have n3_:=Aside0.mk (below_step (by repeat (first|(with_reducible first|exact HB.out|apply below_alloc|apply pw_below_drewN|apply below_drew1|refine below_set ?_ GE207.out|refine below_set ?_ GE208.out)|exact HB.out)) hb);clear BK207;clear BK208;clear HB;have HO214:=n0_;have BK207:=n1_;have BK208:=n2_;have HB:=n3_;clear n0_ n1_ n2_ n3_;(try clear hb);(try clear hb2);(try clear hk);(try clear hi);(try clear ho0);have hcz10_0:w9.cell? ⟨gb207,0,none⟩=some (.string a0_0):=(blk_cell BK207.out 0).trans rfl;have hcz10_1:w9.cell? ⟨gb207,1,none⟩=some (.string a0_1):=(blk_cell BK207.out 1).trans rfl;have hcz10_2:w9.cell? ⟨gb207,2,none⟩=some (.int .u64 a0_2):=(blk_cell BK207.out 2).trans rfl;have hcz10_3:w9.cell? ⟨gb207,3,none⟩=some (.slice A0_3 l0_3.length c0_3):=(blk_cell BK207.out 3).trans rfl;have hfz10_0:=blk_frozen BK207.out 0;have hfz10_1:=blk_frozen BK207.out 1;have hfz10_2:=blk_frozen BK207.out 2;have hfz10_3:=blk_frozen BK207.out 3;obtain ⟨Ao11,co11,eo11⟩:=Kd.V_slice HO214.out;subst eo11))
 (try simp only [Act.put,List.setIfInBounds_toArray,List.set_cons_zero,List.set_cons_succ])
 go_cut [23] (fun v23 wc =>∃(kq:Nat) (x23_3:Bool),v23=.bool x23_3∧Aside0 (doorwardlaw17_ShowPrints.j0 kq x23_3 t209 t210 t211 t212 a1_0 l1_1 a1_2 a1_3 a1_4 a1_5=some r)∧Aside0 (kq≤k)∧Aside0 (Kd.V k47 47 wc w.heap.size (fun k_ => k_ ≠ gb207∧k_ ≠ gb208) (.slice Ao11 t212.length co11) t212)∧Aside0 (wc.heap[gb207]?=some (.cells #[.string t209,.string t210,.int .u64 t211,(.slice Ao11 t212.length co11)] 25 (0,0)))∧Aside0 (wc.heap[gb208]?=some (.cells #[.int .i64 a1_0,(.slice A1_1 l1_1.length c1_1),.int .i64 a1_2,.int .u64 a1_3,.string a1_4,.int .u64 a1_5] 28 (0,0)))∧Aside0 (Below w.heap.size w wc))
 case first =>
  have H:=HC4.out
  clear HC4
  by_cases c12:t215=true
  ·subst c12
   have H1:((doorwardref15_Many.f a1_0 l1_1 a1_2 a1_3 a1_4 a1_5 200).bind fun t216 => (doorwardlaw17_ShowPrints.j0 k (decide (t216>200)) t209 t210 t211 t212 a1_0 l1_1 a1_2 a1_3 a1_4 a1_5))=some r:=by rw [if_pos rfl] at H;exact H
   clear H
   have H:=H1
   clear H1
   replace H:=Option.bind_eq_some_iff.mp H
   obtain ⟨t216,A130,H⟩:=H
   replace H:(doorwardlaw17_ShowPrints.j0 k (decide (t216>200)) t209 t210 t211 t212 a1_0 l1_1 a1_2 a1_3 a1_4 a1_5)=some r:=H
   have A13:=Aside0.mk A130
   clear A130
   have H':=Aside0.mk H
   clear H
   have hnb14:=NB208_207.out
   have hnc14:=NB207_208.out
   have hcz15_0:w9.cell? ⟨gb208,0,none⟩=some (.int .i64 a1_0):=(blk_cell BK208.out 0).trans rfl
   have hcz15_1:w9.cell? ⟨gb208,1,none⟩=some (.slice A1_1 l1_1.length c1_1):=(blk_cell BK208.out 1).trans rfl
   have hcz15_2:w9.cell? ⟨gb208,2,none⟩=some (.int .i64 a1_2):=(blk_cell BK208.out 2).trans rfl
   have hcz15_3:w9.cell? ⟨gb208,3,none⟩=some (.int .u64 a1_3):=(blk_cell BK208.out 3).trans rfl
   have hcz15_4:w9.cell? ⟨gb208,4,none⟩=some (.string a1_4):=(blk_cell BK208.out 4).trans rfl
   have hcz15_5:w9.cell? ⟨gb208,5,none⟩=some (.int .u64 a1_5):=(blk_cell BK208.out 5).trans rfl
   have hfz15_0:=blk_frozen BK208.out 0
   have hfz15_1:=blk_frozen BK208.out 1
   have hfz15_2:=blk_frozen BK208.out 2
   have hfz15_3:=blk_frozen BK208.out 3
   have hfz15_4:=blk_frozen BK208.out 4
   have hfz15_5:=blk_frozen BK208.out 5
   go_wp2_with (first|(go_at_call 7;(with_reducible refine (doorwardref15_Many.calls a1_0 _ _ l1_1 a1_2 a1_3 a1_4 a1_5 200 t216 _ ?side1 ?side2 ?side3 A13.out).mono ?_);(case side1 => exact Kd.C_below HR1_1.out (by repeat (first|(with_reducible first|exact HB.out|apply below_alloc|apply pw_below_drewN|apply below_drew1|refine below_set ?_ GE207.out|refine below_set ?_ GE208.out)|exact HB.out)));(case side2 => exact HC1_1.out);(case side3 => exact LaidAt.of HLD.out (by repeat (first|(with_reducible first|exact HB.out|apply below_alloc|apply pw_below_drewN|apply below_drew1|refine below_set ?_ GE207.out|refine below_set ?_ GE208.out)|exact HB.out)));rintro e w16 ⟨rfl,hb⟩;have n0_:=Aside0.mk (Kd.V_below (by (with_reducible repeat (first|apply Kd.V_alloc|apply Kd.V_drewN|apply Kd.V_drew));exact (Kd.V_mono (Kd.V_far (p:=⟨gb207,3,none⟩) (Kd.V_far (p:=⟨gb207,2,none⟩) (Kd.V_far (p:=⟨gb207,1,none⟩) (Kd.V_far (p:=⟨gb207,0,none⟩) (Kd.V_mono HO214.out (fun k_ hk => (⟨hk,hk.1⟩:_∧k_ ≠ gb207))) (fun _ hk => hk.2) (.string t209)) (fun _ hk => hk.2) (.string t210)) (fun _ hk => hk.2) (.int .u64 t211)) (fun _ hk => hk.2) (.slice Ao11 t212.length co11)) (fun _ h_ => h_.1))) hb);have n1_:=Aside0.mk (blk_below (g:=gb207) (o:=.cells #[.string t209,.string t210,.int .u64 t211,.slice Ao11 t212.length co11] 25 (0,0)) (by (with_reducible repeat (first|refine zN ?_|refine zD ?_|refine zA ?_));refine blk_put (cs:=#[.string t209,.string t210,.int .u64 t211,.slice A0_3 l0_3.length c0_3]) ?_ 3 _ rfl;(with_reducible repeat (first|refine zN ?_|refine zD ?_|refine zA ?_));refine blk_put (cs:=#[.string t209,.string t210,.int .u64 a0_2,.slice A0_3 l0_3.length c0_3]) ?_ 2 _ rfl;(with_reducible repeat (first|refine zN ?_|refine zD ?_|refine zA ?_));refine blk_put (cs:=#[.string t209,.string a0_1,.int .u64 a0_2,.slice A0_3 l0_3.length c0_3]) ?_ 1 _ rfl;(with_reducible repeat (first|refine zN ?_|refine zD ?_|refine zA ?_));refine blk_put (cs:=#[.string a0_0,.string a0_1,.int .u64 a0_2,.slice A0_3 l0_3.length c0_3]) ?_ 0 _ rfl;(with_reducible repeat (first|refine zN ?_|refine zD ?_|refine zA ?_));exact BK207.out) hb);have n2_:=Aside0.mk (blk_below (g:=gb208) (o:=.cells #[.int .i64 a1_0,.slice A1_1 l1_1.length c1_1,.int .i64 a1_2,.int .u64 a1_3,.string a1_4,.int .u64 a1_5] 28 (0,0)) (by (with_reducible repeat (first|refine zN ?_|refine zD ?_|refine zA ?_));refine blk_far ?_ NB208_207.out _;(with_reducible repeat (first|refine zN ?_|refine zD ?_|refine zA ?_));refine blk_far ?_ NB208_207.out _;(with_reducible repeat (first|refine zN ?_|refine zD ?_|refine zA ?_));refine blk_far ?_ NB208_207.out _;(with_reducible repeat (first|refine zN ?_|refine zD ?_|refine zA ?_));refine blk_far ?_ NB208_207.out _;(with_reducible repeat (first|refine zN ?_|refine zD ?_|refine zA ?_));exact BK208.out) hb);have n3_:=Aside0.mk (below_step (by repeat (first|(with_reducible first|exact HB.out|apply below_alloc|apply pw_below_drewN|apply below_drew1|refine below_set ?_ GE207.out|refine below_set ?_ GE208.out)|exact HB.out)) hb);clear HO214;clear BK207;clear BK208;clear HB;have HO214:=n0_;have BK207:=n1_;have BK208:=n2_;have HB:=n3_;clear n0_ n1_ n2_ n3_;(try clear hb);(try clear hb2);(try clear hk);(try clear hi)))
   go_meet
   case rel => exact ⟨_,(decide (t216>200)),(by first|rfl|(simp;done)|(simp [*];done)),H',⟨by first|omega|exact Nat.le_refl _⟩,⟨by (with_reducible repeat (first|apply Kd.V_alloc|apply Kd.V_drewN|apply Kd.V_drew));exact HO214.out⟩,⟨by (with_reducible repeat (first|refine zN ?_|refine zD ?_|refine zA ?_));exact BK207.out⟩,⟨by (with_reducible repeat (first|refine zN ?_|refine zD ?_|refine zA ?_));exact BK208.out⟩,⟨by repeat (first|(with_reducible first|exact HB.out|apply below_alloc|apply pw_below_drewN|apply below_drew1|refine below_set ?_ GE207.out|refine below_set ?_ GE208.out)|exact HB.out)⟩⟩
  ·replace c12:=Bool.eq_false_iff.mpr c12
   subst c12
   have H1:(doorwardlaw17_ShowPrints.j0 k true t209 t210 t211 t212 a1_0 l1_1 a1_2 a1_3 a1_4 a1_5)=some r:=by rw [if_neg (show ¬ (false=true) by decide)] at H;exact H
   clear H
   have H:=H1
   clear H1
   have H':=Aside0.mk H
   clear H
   go_wp2
   go_meet
   case rel => exact ⟨_,(true),(by first|rfl|(simp;done)|(simp [*];done)),H',⟨by first|omega|exact Nat.le_refl _⟩,⟨by (with_reducible repeat (first|apply Kd.V_alloc|apply Kd.V_drewN|apply Kd.V_drew));exact Kd.V_mono (Kd.V_far (p:=⟨gb207,3,none⟩) (Kd.V_far (p:=⟨gb207,2,none⟩) (Kd.V_far (p:=⟨gb207,1,none⟩) (Kd.V_far (p:=⟨gb207,0,none⟩) (Kd.V_mono HO214.out (fun k_ hk => (⟨hk,hk.1⟩:_∧k_ ≠ gb207))) (fun _ hk => hk.2) (.string t209)) (fun _ hk => hk.2) (.string t210)) (fun _ hk => hk.2) (.int .u64 t211)) (fun _ hk => hk.2) (.slice Ao11 t212.length co11)) (fun _ hk => ⟨hk.1.1,hk.1.2⟩)⟩,⟨by (with_reducible repeat (first|refine zN ?_|refine zD ?_|refine zA ?_));refine blk_put (cs:=#[.string t209,.string t210,.int .u64 t211,.slice A0_3 l0_3.length c0_3]) ?_ 3 _ rfl;(with_reducible repeat (first|refine zN ?_|refine zD ?_|refine zA ?_));refine blk_put (cs:=#[.string t209,.string t210,.int .u64 a0_2,.slice A0_3 l0_3.length c0_3]) ?_ 2 _ rfl;(with_reducible repeat (first|refine zN ?_|refine zD ?_|refine zA ?_));refine blk_put (cs:=#[.string t209,.string a0_1,.int .u64 a0_2,.slice A0_3 l0_3.length c0_3]) ?_ 1 _ rfl;(with_reducible repeat (first|refine zN ?_|refine zD ?_|refine zA ?_));refine blk_put (cs:=#[.string a0_0,.string a0_1,.int .u64 a0_2,.slice A0_3 l0_3.length c0_3]) ?_ 0 _ rfl;(with_reducible repeat (first|refine zN ?_|refine zD ?_|refine zA ?_));exact BK207.out⟩,⟨by (with_reducible repeat (first|refine zN ?_|refine zD ?_|refine zA ?_));refine blk_far ?_ NB208_207.out _;(with_reducible repeat (first|refine zN ?_|refine zD ?_|refine zA ?_));refine blk_far ?_ NB208_207.out _;(with_reducible repeat (first|refine zN ?_|refine zD ?_|refine zA ?_));refine blk_far ?_ NB208_207.out _;(with_reducible repeat (first|refine zN ?_|refine zD ?_|refine zA ?_));refine blk_far ?_ NB208_207.out _;(with_reducible repeat (first|refine zN ?_|refine zD ?_|refine zA ?_));exact BK208.out⟩,⟨by repeat (first|(with_reducible first|exact HB.out|apply below_alloc|apply pw_below_drewN|apply below_drew1|refine below_set ?_ GE207.out|refine below_set ?_ GE208.out)|exact HB.out)⟩⟩
 case rest =>
  clear HC4
  obtain ⟨kq,x23_3,rfl,HA,HJ3,HO_208003,BK207,BK208,HB⟩:=hcut
  cases kq with
  |  zero => exact absurd HA.out (by simp [doorwardlaw17_ShowPrints.j0])
  |  succ kj3 =>
   have H:=HA.out
   clear HA
   simp only [doorwardlaw17_ShowPrints.j0] at H
   by_cases c17:x23_3=true
   ·subst c17
    have H1:((doorwardlaw17_alive.f).bind fun t217 => (some t217))=some r:=by rw [if_pos rfl] at H;exact H
    clear H
    have H:=H1
    clear H1
    replace H:=Option.bind_eq_some_iff.mp H
    obtain ⟨t217,A180,H⟩:=H
    replace H:(some t217)=some r:=H
    have A18:=Aside0.mk A180
    clear A180
    obtain rfl:=Option.some.inj H
    go_wp2_with (first|((with_reducible refine gate_callee (f:=8) rfl ?_);refine goesL_ (some 24) rfl rfl Tryz.func8 (by kernel_rfl) rfl #[] rfl (by (try simp only [List.map_toArray,List.map_cons,List.map_nil]);first|done|rfl|(simp only [List.length_drop,List.length_take];rfl)) ?_;(with_reducible refine (doorwardlaw17_alive.calls  t217 _ ?side1 A18.out).mono ?_);(case side1 => exact LaidAt.of HLD.out (by repeat (first|(with_reducible first|exact HB.out|apply below_alloc|apply pw_below_drewN|apply below_drew1|refine below_set ?_ GE207.out|refine below_set ?_ GE208.out)|exact HB.out)));rintro e w19 ⟨rfl,hb⟩;refine ⟨_,rfl,?_⟩;have n0_:=Aside0.mk (Kd.V_below (by (with_reducible repeat (first|apply Kd.V_alloc|apply Kd.V_drewN|apply Kd.V_drew));exact HO_208003.out) hb);have n1_:=Aside0.mk (blk_below (g:=gb207) (o:=.cells #[.string t209,.string t210,.int .u64 t211,.slice Ao11 t212.length co11] 25 (0,0)) (by (with_reducible repeat (first|refine zN ?_|refine zD ?_|refine zA ?_));exact BK207.out) hb);have n2_:=Aside0.mk (blk_below (g:=gb208) (o:=.cells #[.int .i64 a1_0,.slice A1_1 l1_1.length c1_1,.int .i64 a1_2,.int .u64 a1_3,.string a1_4,.int .u64 a1_5] 28 (0,0)) (by (with_reducible repeat (first|refine zN ?_|refine zD ?_|refine zA ?_));exact BK208.out) hb);have n3_:=Aside0.mk (below_step (by repeat (first|(with_reducible first|exact HB.out|apply below_alloc|apply pw_below_drewN|apply below_drew1|refine below_set ?_ GE207.out|refine below_set ?_ GE208.out)|exact HB.out)) hb);clear HO_208003;clear BK207;clear BK208;clear HB;have HO_208003:=n0_;have BK207:=n1_;have BK208:=n2_;have HB:=n3_;clear n0_ n1_ n2_ n3_;(try clear hb);(try clear hb2);(try clear hk);(try clear hi)))
    go_ret
    exact ⟨by first|rfl|(simp [errW_none,errW_some]<;>rfl)|(simp [*,errW_none,errW_some]<;>rfl),by repeat (first|(with_reducible first|exact HB.out|apply below_alloc|apply pw_below_drewN|apply below_drew1|refine below_set ?_ GE207.out|refine below_set ?_ GE208.out)|exact HB.out)⟩
   ·replace c17:=Bool.eq_false_iff.mpr c17
    subst c17
    have H1:((show_Print.f t209 t210 t211 t212).bind fun bt218 => ((doorwardref17_Print.f kj3 t209 t210 t211 t212).bind fun bt220 => (if bt218.1.toList=bt220.1.toList then (if bt218.2=bt220.2 then ((show_Right.f t209 t210 t211 t212).bind fun t222 => (if (t222 != (bt220.2==0))=true then (doorwardlaw17_ShowPrints.j1 kj3 true a1_0 l1_1 a1_2 a1_3 a1_4 a1_5) else ((doorwardlaw17_alive.f).bind fun t223 => (doorwardlaw17_ShowPrints.j1 kj3 (!t223) a1_0 l1_1 a1_2 a1_3 a1_4 a1_5)))) else (doorwardlaw17_ShowPrints.j1 kj3 true a1_0 l1_1 a1_2 a1_3 a1_4 a1_5)) else (doorwardlaw17_ShowPrints.j1 kj3 true a1_0 l1_1 a1_2 a1_3 a1_4 a1_5))))=some r:=by rw [if_neg (show ¬ (false=true) by decide)] at H;exact H
    clear H
    have H:=H1
    clear H1
    replace H:=Option.bind_eq_some_iff.mp H
    obtain ⟨⟨t218,t219⟩,A200,H⟩:=H
    replace H:((doorwardref17_Print.f kj3 t209 t210 t211 t212).bind fun bt220 => (if t218.toList=bt220.1.toList then (if t219=bt220.2 then ((show_Right.f t209 t210 t211 t212).bind fun t222 => (if (t222 != (bt220.2==0))=true then (doorwardlaw17_ShowPrints.j1 kj3 true a1_0 l1_1 a1_2 a1_3 a1_4 a1_5) else ((doorwardlaw17_alive.f).bind fun t223 => (doorwardlaw17_ShowPrints.j1 kj3 (!t223) a1_0 l1_1 a1_2 a1_3 a1_4 a1_5)))) else (doorwardlaw17_ShowPrints.j1 kj3 true a1_0 l1_1 a1_2 a1_3 a1_4 a1_5)) else (doorwardlaw17_ShowPrints.j1 kj3 true a1_0 l1_1 a1_2 a1_3 a1_4 a1_5)))=some r:=H
    have A20:=Aside0.mk A200
    clear A200
    replace H:=Option.bind_eq_some_iff.mp H
    obtain ⟨⟨t220,t221⟩,A210,H⟩:=H
    replace H:(if t218.toList=t220.toList then (if t219=t221 then ((show_Right.f t209 t210 t211 t212).bind fun t222 => (if (t222 != (t221==0))=true then (doorwardlaw17_ShowPrints.j1 kj3 true a1_0 l1_1 a1_2 a1_3 a1_4 a1_5) else ((doorwardlaw17_alive.f).bind fun t223 => (doorwardlaw17_ShowPrints.j1 kj3 (!t223) a1_0 l1_1 a1_2 a1_3 a1_4 a1_5)))) else (doorwardlaw17_ShowPrints.j1 kj3 true a1_0 l1_1 a1_2 a1_3 a1_4 a1_5)) else (doorwardlaw17_ShowPrints.j1 kj3 true a1_0 l1_1 a1_2 a1_3 a1_4 a1_5))=some r:=H
    have A21:=Aside0.mk A210
    clear A210
    have HC22:=Aside0.mk H
    clear H
    have hnb23:=NB207_208.out
    have hnc23:=NB208_207.out
    have hcz24_0:wc.cell? ⟨gb207,0,none⟩=some (.string t209):=(blk_cell BK207.out 0).trans rfl
    have hcz24_1:wc.cell? ⟨gb207,1,none⟩=some (.string t210):=(blk_cell BK207.out 1).trans rfl
    have hcz24_2:wc.cell? ⟨gb207,2,none⟩=some (.int .u64 t211):=(blk_cell BK207.out 2).trans rfl
    have hcz24_3:wc.cell? ⟨gb207,3,none⟩=some (.slice Ao11 t212.length co11):=(blk_cell BK207.out 3).trans rfl
    have hfz24_0:=blk_frozen BK207.out 0
    have hfz24_1:=blk_frozen BK207.out 1
    have hfz24_2:=blk_frozen BK207.out 2
    have hfz24_3:=blk_frozen BK207.out 3
    go_upto_region 6 with (first|((with_reducible refine gate_callee (f:=9) rfl ?_);refine goesL_ (some 27) rfl rfl Tryz.func9 (by kernel_rfl) rfl #[.agg #[.string t209,.string t210,.int .u64 t211,.slice Ao11 t212.length co11]] rfl (by (try simp only [List.map_toArray,List.map_cons,List.map_nil]);first|done|rfl|(simp only [List.length_drop,List.length_take];rfl)) ?_;(with_reducible refine (show_Print.calls t209 t210 t211 _ _ t212 t218 t219 _ ?side1 ?side2 ?side3 A20.out).mono ?_);(case side1 => repeat (first|exact (Kd.V_reads' HO_208003.out).2.2|(with_reducible refine Kd.C_alloc ?_ _)|(with_reducible refine Kd.C_drewN ?_ _)|(with_reducible refine Kd.C_drew ?_)));(case side2 => exact (Kd.V_reads' HO_208003.out).2.1);(case side3 => exact LaidAt.of HLD.out (by repeat (first|(with_reducible first|exact HB.out|apply below_alloc|apply pw_below_drewN|apply below_drew1|refine below_set ?_ GE207.out|refine below_set ?_ GE208.out)|exact HB.out)));rintro e w25 ⟨rfl,hb⟩;refine ⟨_,rfl,?_⟩;have n0_:=Aside0.mk (Kd.V_below (by (with_reducible repeat (first|apply Kd.V_alloc|apply Kd.V_drewN|apply Kd.V_drew));exact HO_208003.out) hb);have n1_:=Aside0.mk (blk_below (g:=gb207) (o:=.cells #[.string t209,.string t210,.int .u64 t211,.slice Ao11 t212.length co11] 25 (0,0)) (by (with_reducible repeat (first|refine zN ?_|refine zD ?_|refine zA ?_));exact BK207.out) hb);have n2_:=Aside0.mk (blk_below (g:=gb208) (o:=.cells #[.int .i64 a1_0,.slice A1_1 l1_1.length c1_1,.int .i64 a1_2,.int .u64 a1_3,.string a1_4,.int .u64 a1_5] 28 (0,0)) (by (with_reducible repeat (first|refine zN ?_|refine zD ?_|refine zA ?_));exact BK208.out) hb);have n3_:=Aside0.mk (below_step (by repeat (first|(with_reducible first|exact HB.out|apply below_alloc|apply pw_below_drewN|apply below_drew1|refine below_set ?_ GE207.out|refine below_set ?_ GE208.out)|exact HB.out)) hb);clear HO_208003;clear BK207;clear BK208;clear HB;have HO_208003:=n0_;have BK207:=n1_;have BK208:=n2_;have HB:=n3_;clear n0_ n1_ n2_ n3_;(try clear hb);(try clear hb2);(try clear hk);(try clear hi);have hcz26_0:w25.cell? ⟨gb207,0,none⟩=some (.string t209):=(blk_cell BK207.out 0).trans rfl;have hcz26_1:w25.cell? ⟨gb207,1,none⟩=some (.string t210):=(blk_cell BK207.out 1).trans rfl;have hcz26_2:w25.cell? ⟨gb207,2,none⟩=some (.int .u64 t211):=(blk_cell BK207.out 2).trans rfl;have hcz26_3:w25.cell? ⟨gb207,3,none⟩=some (.slice Ao11 t212.length co11):=(blk_cell BK207.out 3).trans rfl;have hfz26_0:=blk_frozen BK207.out 0;have hfz26_1:=blk_frozen BK207.out 1;have hfz26_2:=blk_frozen BK207.out 2;have hfz26_3:=blk_frozen BK207.out 3)|((with_reducible refine gate_callee (f:=10) rfl ?_);refine goesL_ (some 32) rfl rfl Tryz.func10 (by kernel_rfl) rfl #[.agg #[.string t209,.string t210,.int .u64 t211,.slice Ao11 t212.length co11]] rfl (by (try simp only [List.map_toArray,List.map_cons,List.map_nil]);first|done|rfl|(simp only [List.length_drop,List.length_take];rfl)) ?_;(with_reducible refine (doorwardref17_Print.calls kj3 t209 t210 t211 _ _ t212 t220 t221 _ ?side1 ?side2 ?side3 A21.out).mono ?_);(case side1 => repeat (first|exact (Kd.V_reads' HO_208003.out).2.2|(with_reducible refine Kd.C_alloc ?_ _)|(with_reducible refine Kd.C_drewN ?_ _)|(with_reducible refine Kd.C_drew ?_)));(case side2 => exact (Kd.V_reads' HO_208003.out).2.1);(case side3 => exact LaidAt.of HLD.out (by repeat (first|(with_reducible first|exact HB.out|apply below_alloc|apply pw_below_drewN|apply below_drew1|refine below_set ?_ GE207.out|refine below_set ?_ GE208.out)|exact HB.out)));rintro e w27 ⟨rfl,hb⟩;refine ⟨_,rfl,?_⟩;have n0_:=Aside0.mk (Kd.V_below (by (with_reducible repeat (first|apply Kd.V_alloc|apply Kd.V_drewN|apply Kd.V_drew));exact HO_208003.out) hb);have n1_:=Aside0.mk (blk_below (g:=gb207) (o:=.cells #[.string t209,.string t210,.int .u64 t211,.slice Ao11 t212.length co11] 25 (0,0)) (by (with_reducible repeat (first|refine zN ?_|refine zD ?_|refine zA ?_));exact BK207.out) hb);have n2_:=Aside0.mk (blk_below (g:=gb208) (o:=.cells #[.int .i64 a1_0,.slice A1_1 l1_1.length c1_1,.int .i64 a1_2,.int .u64 a1_3,.string a1_4,.int .u64 a1_5] 28 (0,0)) (by (with_reducible repeat (first|refine zN ?_|refine zD ?_|refine zA ?_));exact BK208.out) hb);have n3_:=Aside0.mk (below_step (by repeat (first|(with_reducible first|exact HB.out|apply below_alloc|apply pw_below_drewN|apply below_drew1|refine below_set ?_ GE207.out|refine below_set ?_ GE208.out)|exact HB.out)) hb);clear HO_208003;clear BK207;clear BK208;clear HB;have HO_208003:=n0_;have BK207:=n1_;have BK208:=n2_;have HB:=n3_;clear n0_ n1_ n2_ n3_;(try clear hb);(try clear hb2);(try clear hk);(try clear hi)))
    (try simp only [Act.put,List.setIfInBounds_toArray,List.set_cons_zero,List.set_cons_succ])
    go_cut [53] (fun v53 wc =>∃(kq:Nat) (x53_21:Bool),v53=.bool x53_21∧Aside0 (doorwardlaw17_ShowPrints.j1 kq x53_21 a1_0 l1_1 a1_2 a1_3 a1_4 a1_5=some r)∧Aside0 (kq≤kj3)∧Aside0 (Kd.V k47 47 wc w.heap.size (fun k_ => k_ ≠ gb207∧k_ ≠ gb208) (.slice Ao11 t212.length co11) t212)∧Aside0 (wc.heap[gb207]?=some (.cells #[.string t209,.string t210,.int .u64 t211,(.slice Ao11 t212.length co11)] 25 (0,0)))∧Aside0 (wc.heap[gb208]?=some (.cells #[.int .i64 a1_0,(.slice A1_1 l1_1.length c1_1),.int .i64 a1_2,.int .u64 a1_3,.string a1_4,.int .u64 a1_5] 28 (0,0)))∧Aside0 (Below w.heap.size w wc))
    case first =>
     have H:=HC22.out
     clear HC22
     by_cases c28:t218.toList=t220.toList
     ·rw [if_pos c28] at H
      have c28b0:(t218.toList==t220.toList)=true:=beq_iff_eq.mpr c28
      have c28b1:(t218.toList != t220.toList)=false:=bne_eq_false_iff_eq.mpr c28
      clear c28
      (first|rw [c28b0]|(simp only [i64_w,i32_w];rw [c28b0])|skip)
      by_cases c29:t219=t221
      ·rw [if_pos c29] at H
       have c29b0:(t219==t221)=true:=beq_iff_eq.mpr c29
       have c29b1:(t219 != t221)=false:=bne_eq_false_iff_eq.mpr c29
       clear c29
       replace H:=Option.bind_eq_some_iff.mp H
       obtain ⟨t222,A300,H⟩:=H
       replace H:(if (t222 != (t221==0))=true then (doorwardlaw17_ShowPrints.j1 kj3 true a1_0 l1_1 a1_2 a1_3 a1_4 a1_5) else ((doorwardlaw17_alive.f).bind fun t223 => (doorwardlaw17_ShowPrints.j1 kj3 (!t223) a1_0 l1_1 a1_2 a1_3 a1_4 a1_5)))=some r:=H
       have A30:=Aside0.mk A300
       clear A300
       by_cases c31:(t222 != (t221==0))=true
       ·rw [if_pos c31] at H
        have c31b0:(t222 != (t221==0))=true:=c31
        (try (have c31b1:decide (t222=(t221==0))=false:=by simpa using c31))
        (try (have c31b2:(t222==(t221==0))=false:=by simpa using c31))
        (try (have c31b3:¬ (t222=(t221==0)):=by simpa using c31))
        clear c31
        have H':=Aside0.mk H
        clear H
        have hnb32:=NB207_208.out
        have hnc32:=NB208_207.out
        have hcz33_0:w27.cell? ⟨gb207,0,none⟩=some (.string t209):=(blk_cell BK207.out 0).trans rfl
        have hcz33_1:w27.cell? ⟨gb207,1,none⟩=some (.string t210):=(blk_cell BK207.out 1).trans rfl
        have hcz33_2:w27.cell? ⟨gb207,2,none⟩=some (.int .u64 t211):=(blk_cell BK207.out 2).trans rfl
        have hcz33_3:w27.cell? ⟨gb207,3,none⟩=some (.slice Ao11 t212.length co11):=(blk_cell BK207.out 3).trans rfl
        have hfz33_0:=blk_frozen BK207.out 0
        have hfz33_1:=blk_frozen BK207.out 1
        have hfz33_2:=blk_frozen BK207.out 2
        have hfz33_3:=blk_frozen BK207.out 3
        go_wp2_with (first|(go_at_call 11;(with_reducible refine (show_Right.calls t209 t210 t211 _ _ t212 t222 _ ?side1 ?side2 ?side3 A30.out).mono ?_);(case side1 => repeat (first|exact (Kd.V_reads' HO_208003.out).2.2|(with_reducible refine Kd.C_alloc ?_ _)|(with_reducible refine Kd.C_drewN ?_ _)|(with_reducible refine Kd.C_drew ?_)));(case side2 => exact (Kd.V_reads' HO_208003.out).2.1);(case side3 => exact LaidAt.of HLD.out (by repeat (first|(with_reducible first|exact HB.out|apply below_alloc|apply pw_below_drewN|apply below_drew1|refine below_set ?_ GE207.out|refine below_set ?_ GE208.out)|exact HB.out)));rintro e w34 ⟨rfl,hb⟩;have n0_:=Aside0.mk (Kd.V_below (by (with_reducible repeat (first|apply Kd.V_alloc|apply Kd.V_drewN|apply Kd.V_drew));exact HO_208003.out) hb);have n1_:=Aside0.mk (blk_below (g:=gb207) (o:=.cells #[.string t209,.string t210,.int .u64 t211,.slice Ao11 t212.length co11] 25 (0,0)) (by (with_reducible repeat (first|refine zN ?_|refine zD ?_|refine zA ?_));exact BK207.out) hb);have n2_:=Aside0.mk (blk_below (g:=gb208) (o:=.cells #[.int .i64 a1_0,.slice A1_1 l1_1.length c1_1,.int .i64 a1_2,.int .u64 a1_3,.string a1_4,.int .u64 a1_5] 28 (0,0)) (by (with_reducible repeat (first|refine zN ?_|refine zD ?_|refine zA ?_));exact BK208.out) hb);have n3_:=Aside0.mk (below_step (by repeat (first|(with_reducible first|exact HB.out|apply below_alloc|apply pw_below_drewN|apply below_drew1|refine below_set ?_ GE207.out|refine below_set ?_ GE208.out)|exact HB.out)) hb);clear HO_208003;clear BK207;clear BK208;clear HB;have HO_208003:=n0_;have BK207:=n1_;have BK208:=n2_;have HB:=n3_;clear n0_ n1_ n2_ n3_;(try clear hb);(try clear hb2);(try clear hk);(try clear hi)))
        go_meet
        case rel => exact ⟨_,(true),(by first|rfl|(simp;done)|(simp [*];done)),H',⟨by have:=HJ3.out;first|omega|exact Nat.le_refl _⟩,⟨by (with_reducible repeat (first|apply Kd.V_alloc|apply Kd.V_drewN|apply Kd.V_drew));exact HO_208003.out⟩,⟨by (with_reducible repeat (first|refine zN ?_|refine zD ?_|refine zA ?_));exact BK207.out⟩,⟨by (with_reducible repeat (first|refine zN ?_|refine zD ?_|refine zA ?_));exact BK208.out⟩,⟨by repeat (first|(with_reducible first|exact HB.out|apply below_alloc|apply pw_below_drewN|apply below_drew1|refine below_set ?_ GE207.out|refine below_set ?_ GE208.out)|exact HB.out)⟩⟩
       ·rw [if_neg c31] at H
        have c31b0:(t222 != (t221==0))=false:=by simpa using c31
        (try (have c31b1:decide (t222=(t221==0))=true:=by simpa using c31))
        (try (have c31b2:(t222==(t221==0))=true:=by simpa using c31))
        clear c31
        replace H:=Option.bind_eq_some_iff.mp H
        obtain ⟨t223,A350,H⟩:=H
        replace H:(doorwardlaw17_ShowPrints.j1 kj3 (!t223) a1_0 l1_1 a1_2 a1_3 a1_4 a1_5)=some r:=H
        have A35:=Aside0.mk A350
        clear A350
        have H':=Aside0.mk H
        clear H
        have hnb36:=NB207_208.out
        have hnc36:=NB208_207.out
        have hcz37_0:w27.cell? ⟨gb207,0,none⟩=some (.string t209):=(blk_cell BK207.out 0).trans rfl
        have hcz37_1:w27.cell? ⟨gb207,1,none⟩=some (.string t210):=(blk_cell BK207.out 1).trans rfl
        have hcz37_2:w27.cell? ⟨gb207,2,none⟩=some (.int .u64 t211):=(blk_cell BK207.out 2).trans rfl
        have hcz37_3:w27.cell? ⟨gb207,3,none⟩=some (.slice Ao11 t212.length co11):=(blk_cell BK207.out 3).trans rfl
        have hfz37_0:=blk_frozen BK207.out 0
        have hfz37_1:=blk_frozen BK207.out 1
        have hfz37_2:=blk_frozen BK207.out 2
        have hfz37_3:=blk_frozen BK207.out 3
        go_wp2_with (first|(go_at_call 11;(with_reducible refine (show_Right.calls t209 t210 t211 _ _ t212 t222 _ ?side1 ?side2 ?side3 A30.out).mono ?_);(case side1 => repeat (first|exact (Kd.V_reads' HO_208003.out).2.2|(with_reducible refine Kd.C_alloc ?_ _)|(with_reducible refine Kd.C_drewN ?_ _)|(with_reducible refine Kd.C_drew ?_)));(case side2 => exact (Kd.V_reads' HO_208003.out).2.1);(case side3 => exact LaidAt.of HLD.out (by repeat (first|(with_reducible first|exact HB.out|apply below_alloc|apply pw_below_drewN|apply below_drew1|refine below_set ?_ GE207.out|refine below_set ?_ GE208.out)|exact HB.out)));rintro e w38 ⟨rfl,hb⟩;have n0_:=Aside0.mk (Kd.V_below (by (with_reducible repeat (first|apply Kd.V_alloc|apply Kd.V_drewN|apply Kd.V_drew));exact HO_208003.out) hb);have n1_:=Aside0.mk (blk_below (g:=gb207) (o:=.cells #[.string t209,.string t210,.int .u64 t211,.slice Ao11 t212.length co11] 25 (0,0)) (by (with_reducible repeat (first|refine zN ?_|refine zD ?_|refine zA ?_));exact BK207.out) hb);have n2_:=Aside0.mk (blk_below (g:=gb208) (o:=.cells #[.int .i64 a1_0,.slice A1_1 l1_1.length c1_1,.int .i64 a1_2,.int .u64 a1_3,.string a1_4,.int .u64 a1_5] 28 (0,0)) (by (with_reducible repeat (first|refine zN ?_|refine zD ?_|refine zA ?_));exact BK208.out) hb);have n3_:=Aside0.mk (below_step (by repeat (first|(with_reducible first|exact HB.out|apply below_alloc|apply pw_below_drewN|apply below_drew1|refine below_set ?_ GE207.out|refine below_set ?_ GE208.out)|exact HB.out)) hb);clear HO_208003;clear BK207;clear BK208;clear HB;have HO_208003:=n0_;have BK207:=n1_;have BK208:=n2_;have HB:=n3_;clear n0_ n1_ n2_ n3_;(try clear hb);(try clear hb2);(try clear hk);(try clear hi))|(go_at_call 8;(with_reducible refine (doorwardlaw17_alive.calls  t223 _ ?side1 A35.out).mono ?_);(case side1 => exact LaidAt.of HLD.out (by repeat (first|(with_reducible first|exact HB.out|apply below_alloc|apply pw_below_drewN|apply below_drew1|refine below_set ?_ GE207.out|refine below_set ?_ GE208.out)|exact HB.out)));rintro e w39 ⟨rfl,hb⟩;have n0_:=Aside0.mk (Kd.V_below (by (with_reducible repeat (first|apply Kd.V_alloc|apply Kd.V_drewN|apply Kd.V_drew));exact HO_208003.out) hb);have n1_:=Aside0.mk (blk_below (g:=gb207) (o:=.cells #[.string t209,.string t210,.int .u64 t211,.slice Ao11 t212.length co11] 25 (0,0)) (by (with_reducible repeat (first|refine zN ?_|refine zD ?_|refine zA ?_));exact BK207.out) hb);have n2_:=Aside0.mk (blk_below (g:=gb208) (o:=.cells #[.int .i64 a1_0,.slice A1_1 l1_1.length c1_1,.int .i64 a1_2,.int .u64 a1_3,.string a1_4,.int .u64 a1_5] 28 (0,0)) (by (with_reducible repeat (first|refine zN ?_|refine zD ?_|refine zA ?_));exact BK208.out) hb);have n3_:=Aside0.mk (below_step (by repeat (first|(with_reducible first|exact HB.out|apply below_alloc|apply pw_below_drewN|apply below_drew1|refine below_set ?_ GE207.out|refine below_set ?_ GE208.out)|exact HB.out)) hb);clear HO_208003;clear BK207;clear BK208;clear HB;have HO_208003:=n0_;have BK207:=n1_;have BK208:=n2_;have HB:=n3_;clear n0_ n1_ n2_ n3_;(try clear hb);(try clear hb2);(try clear hk);(try clear hi)))
        go_meet
        case rel => exact ⟨_,(!t223),(by first|rfl|(simp;done)|(simp [*];done)),H',⟨by have:=HJ3.out;first|omega|exact Nat.le_refl _⟩,⟨by (with_reducible repeat (first|apply Kd.V_alloc|apply Kd.V_drewN|apply Kd.V_drew));exact HO_208003.out⟩,⟨by (with_reducible repeat (first|refine zN ?_|refine zD ?_|refine zA ?_));exact BK207.out⟩,⟨by (with_reducible repeat (first|refine zN ?_|refine zD ?_|refine zA ?_));exact BK208.out⟩,⟨by repeat (first|(with_reducible first|exact HB.out|apply below_alloc|apply pw_below_drewN|apply below_drew1|refine below_set ?_ GE207.out|refine below_set ?_ GE208.out)|exact HB.out)⟩⟩
      ·rw [if_neg c29] at H
       have c29b0:(t219==t221)=false:=beq_eq_false_iff_ne.mpr c29
       have c29b1:(t219 != t221)=true:=bne_iff_ne.mpr c29
       have H':=Aside0.mk H
       clear H
       go_wp2
       go_meet
       case rel => exact ⟨_,(true),(by first|rfl|(simp;done)|(simp [*];done)),H',⟨by have:=HJ3.out;first|omega|exact Nat.le_refl _⟩,⟨by (with_reducible repeat (first|apply Kd.V_alloc|apply Kd.V_drewN|apply Kd.V_drew));exact HO_208003.out⟩,⟨by (with_reducible repeat (first|refine zN ?_|refine zD ?_|refine zA ?_));exact BK207.out⟩,⟨by (with_reducible repeat (first|refine zN ?_|refine zD ?_|refine zA ?_));exact BK208.out⟩,⟨by repeat (first|(with_reducible first|exact HB.out|apply below_alloc|apply pw_below_drewN|apply below_drew1|refine below_set ?_ GE207.out|refine below_set ?_ GE208.out)|exact HB.out)⟩⟩
     ·rw [if_neg c28] at H
      have c28b0:(t218.toList==t220.toList)=false:=beq_eq_false_iff_ne.mpr c28
      have c28b1:(t218.toList != t220.toList)=true:=bne_iff_ne.mpr c28
      (first|rw [c28b0]|(simp only [i64_w,i32_w];rw [c28b0])|skip)
      have H':=Aside0.mk H
      clear H
      go_wp2
      go_meet
      case rel => exact ⟨_,(true),(by first|rfl|(simp;done)|(simp [*];done)),H',⟨by have:=HJ3.out;first|omega|exact Nat.le_refl _⟩,⟨by (with_reducible repeat (first|apply Kd.V_alloc|apply Kd.V_drewN|apply Kd.V_drew));exact HO_208003.out⟩,⟨by (with_reducible repeat (first|refine zN ?_|refine zD ?_|refine zA ?_));exact BK207.out⟩,⟨by (with_reducible repeat (first|refine zN ?_|refine zD ?_|refine zA ?_));exact BK208.out⟩,⟨by repeat (first|(with_reducible first|exact HB.out|apply below_alloc|apply pw_below_drewN|apply below_drew1|refine below_set ?_ GE207.out|refine below_set ?_ GE208.out)|exact HB.out)⟩⟩
    case rest =>
     clear HC22
     obtain ⟨kq,x53_21,rfl,HA,HJ21,HO_208003,BK207,BK208,HB⟩:=hcut
     cases kq with
     |  zero => exact absurd HA.out (by simp [doorwardlaw17_ShowPrints.j1])
     |  succ kj21 =>
      have H:=HA.out
      clear HA
      simp only [doorwardlaw17_ShowPrints.j1] at H
      by_cases c40:x53_21=true
      ·subst c40
       have H1:(some false)=some r:=by rw [if_pos rfl] at H;exact H
       clear H
       have H:=H1
       clear H1
       obtain rfl:=Option.some.inj H
       go_wp2
       go_ret
       exact ⟨by first|rfl|(simp [errW_none,errW_some]<;>rfl)|(simp [*,errW_none,errW_some]<;>rfl),by repeat (first|(with_reducible first|exact HB.out|apply below_alloc|apply pw_below_drewN|apply below_drew1|refine below_set ?_ GE207.out|refine below_set ?_ GE208.out)|exact HB.out)⟩
      ·replace c40:=Bool.eq_false_iff.mpr c40
       subst c40
       have H1:((show_Cond.f a1_0 l1_1 a1_2 a1_3 a1_4 a1_5).bind fun bt224 => ((doorwardref16_Right.f kj21 a1_0 l1_1 a1_2 a1_3 a1_4 a1_5).bind fun t226 => (if t226=true then (if bt224.2=0 then ((doorwardref17_Text.f a1_0 l1_1 a1_2 a1_3 a1_4 a1_5).bind fun t227 => (some (bt224.1.toList==t227.toList))) else (some false)) else (if bt224.2=1 then (some (bt224.1.toList==([]:List UInt8))) else (some false)))))=some r:=by rw [if_neg (show ¬ (false=true) by decide)] at H;exact H
       clear H
       have H:=H1
       clear H1
       replace H:=Option.bind_eq_some_iff.mp H
       obtain ⟨⟨t224,t225⟩,A410,H⟩:=H
       replace H:((doorwardref16_Right.f kj21 a1_0 l1_1 a1_2 a1_3 a1_4 a1_5).bind fun t226 => (if t226=true then (if t225=0 then ((doorwardref17_Text.f a1_0 l1_1 a1_2 a1_3 a1_4 a1_5).bind fun t227 => (some (t224.toList==t227.toList))) else (some false)) else (if t225=1 then (some (t224.toList==([]:List UInt8))) else (some false))))=some r:=H
       have A41:=Aside0.mk A410
       clear A410
       replace H:=Option.bind_eq_some_iff.mp H
       obtain ⟨t226,A420,H⟩:=H
       replace H:(if t226=true then (if t225=0 then ((doorwardref17_Text.f a1_0 l1_1 a1_2 a1_3 a1_4 a1_5).bind fun t227 => (some (t224.toList==t227.toList))) else (some false)) else (if t225=1 then (some (t224.toList==([]:List UInt8))) else (some false)))=some r:=H
       have A42:=Aside0.mk A420
       clear A420
       by_cases c43:t226=true
       ·subst c43
        have H1:(if t225=0 then ((doorwardref17_Text.f a1_0 l1_1 a1_2 a1_3 a1_4 a1_5).bind fun t227 => (some (t224.toList==t227.toList))) else (some false))=some r:=by rw [if_pos rfl] at H;exact H
        clear H
        have H:=H1
        clear H1
        by_cases c44:t225=0
        ·rw [if_pos c44] at H
         have c44b0:(t225==0)=true:=beq_iff_eq.mpr c44
         have c44b1:(t225 != 0)=false:=bne_eq_false_iff_eq.mpr c44
         clear c44
         replace H:=Option.bind_eq_some_iff.mp H
         obtain ⟨t227,A450,H⟩:=H
         replace H:(some (t224.toList==t227.toList))=some r:=H
         have A45:=Aside0.mk A450
         clear A450
         obtain rfl:=Option.some.inj H
         have hnb46:=NB208_207.out
         have hnc46:=NB207_208.out
         have hcz47_0:wc.cell? ⟨gb208,0,none⟩=some (.int .i64 a1_0):=(blk_cell BK208.out 0).trans rfl
         have hcz47_1:wc.cell? ⟨gb208,1,none⟩=some (.slice A1_1 l1_1.length c1_1):=(blk_cell BK208.out 1).trans rfl
         have hcz47_2:wc.cell? ⟨gb208,2,none⟩=some (.int .i64 a1_2):=(blk_cell BK208.out 2).trans rfl
         have hcz47_3:wc.cell? ⟨gb208,3,none⟩=some (.int .u64 a1_3):=(blk_cell BK208.out 3).trans rfl
         have hcz47_4:wc.cell? ⟨gb208,4,none⟩=some (.string a1_4):=(blk_cell BK208.out 4).trans rfl
         have hcz47_5:wc.cell? ⟨gb208,5,none⟩=some (.int .u64 a1_5):=(blk_cell BK208.out 5).trans rfl
         have hfz47_0:=blk_frozen BK208.out 0
         have hfz47_1:=blk_frozen BK208.out 1
         have hfz47_2:=blk_frozen BK208.out 2
         have hfz47_3:=blk_frozen BK208.out 3
         have hfz47_4:=blk_frozen BK208.out 4
         have hfz47_5:=blk_frozen BK208.out 5
         go_wp2_with (first|((with_reducible refine gate_callee (f:=12) rfl ?_);refine goesL_ (some 56) rfl rfl Tryz.func12 (by kernel_rfl) rfl #[.agg #[.int .i64 a1_0,.slice A1_1 l1_1.length c1_1,.int .i64 a1_2,.int .u64 a1_3,.string a1_4,.int .u64 a1_5]] rfl (by (try simp only [List.map_toArray,List.map_cons,List.map_nil]);first|done|rfl|(simp only [List.length_drop,List.length_take];rfl)) ?_;(with_reducible refine (show_Cond.calls a1_0 _ _ l1_1 a1_2 a1_3 a1_4 a1_5 t224 t225 _ ?side1 ?side2 ?side3 A41.out).mono ?_);(case side1 => repeat (first|exact (Kd.C_below HR1_1.out HB.out)|(with_reducible refine Kd.C_alloc ?_ _)|(with_reducible refine Kd.C_drewN ?_ _)|(with_reducible refine Kd.C_drew ?_)));(case side2 => exact HC1_1.out);(case side3 => exact LaidAt.of HLD.out (by repeat (first|(with_reducible first|exact HB.out|apply below_alloc|apply pw_below_drewN|apply below_drew1|refine below_set ?_ GE207.out|refine below_set ?_ GE208.out)|exact HB.out)));rintro e w48 ⟨rfl,hb⟩;refine ⟨_,rfl,?_⟩;have n0_:=Aside0.mk (Kd.V_below (by (with_reducible repeat (first|apply Kd.V_alloc|apply Kd.V_drewN|apply Kd.V_drew));exact HO_208003.out) hb);have n1_:=Aside0.mk (blk_below (g:=gb207) (o:=.cells #[.string t209,.string t210,.int .u64 t211,.slice Ao11 t212.length co11] 25 (0,0)) (by (with_reducible repeat (first|refine zN ?_|refine zD ?_|refine zA ?_));exact BK207.out) hb);have n2_:=Aside0.mk (blk_below (g:=gb208) (o:=.cells #[.int .i64 a1_0,.slice A1_1 l1_1.length c1_1,.int .i64 a1_2,.int .u64 a1_3,.string a1_4,.int .u64 a1_5] 28 (0,0)) (by (with_reducible repeat (first|refine zN ?_|refine zD ?_|refine zA ?_));exact BK208.out) hb);have n3_:=Aside0.mk (below_step (by repeat (first|(with_reducible first|exact HB.out|apply below_alloc|apply pw_below_drewN|apply below_drew1|refine below_set ?_ GE207.out|refine below_set ?_ GE208.out)|exact HB.out)) hb);clear HO_208003;clear BK207;clear BK208;clear HB;have HO_208003:=n0_;have BK207:=n1_;have BK208:=n2_;have HB:=n3_;clear n0_ n1_ n2_ n3_;(try clear hb);(try clear hb2);(try clear hk);(try clear hi);have hcz49_0:w48.cell? ⟨gb208,0,none⟩=some (.int .i64 a1_0):=(blk_cell BK208.out 0).trans rfl;have hcz49_1:w48.cell? ⟨gb208,1,none⟩=some (.slice A1_1 l1_1.length c1_1):=(blk_cell BK208.out 1).trans rfl;have hcz49_2:w48.cell? ⟨gb208,2,none⟩=some (.int .i64 a1_2):=(blk_cell BK208.out 2).trans rfl;have hcz49_3:w48.cell? ⟨gb208,3,none⟩=some (.int .u64 a1_3):=(blk_cell BK208.out 3).trans rfl;have hcz49_4:w48.cell? ⟨gb208,4,none⟩=some (.string a1_4):=(blk_cell BK208.out 4).trans rfl;have hcz49_5:w48.cell? ⟨gb208,5,none⟩=some (.int .u64 a1_5):=(blk_cell BK208.out 5).trans rfl;have hfz49_0:=blk_frozen BK208.out 0;have hfz49_1:=blk_frozen BK208.out 1;have hfz49_2:=blk_frozen BK208.out 2;have hfz49_3:=blk_frozen BK208.out 3;have hfz49_4:=blk_frozen BK208.out 4;have hfz49_5:=blk_frozen BK208.out 5)|((with_reducible refine gate_callee (f:=13) rfl ?_);refine goesL_ (some 60) rfl rfl Tryz.func13 (by kernel_rfl) rfl #[.agg #[.int .i64 a1_0,.slice A1_1 l1_1.length c1_1,.int .i64 a1_2,.int .u64 a1_3,.string a1_4,.int .u64 a1_5]] rfl (by (try simp only [List.map_toArray,List.map_cons,List.map_nil]);first|done|rfl|(simp only [List.length_drop,List.length_take];rfl)) ?_;(with_reducible refine (doorwardref16_Right.calls kj21 a1_0 _ _ l1_1 a1_2 a1_3 a1_4 a1_5 true _ ?side1 ?side2 ?side3 A42.out).mono ?_);(case side1 => repeat (first|exact (Kd.C_below HR1_1.out HB.out)|(with_reducible refine Kd.C_alloc ?_ _)|(with_reducible refine Kd.C_drewN ?_ _)|(with_reducible refine Kd.C_drew ?_)));(case side2 => exact HC1_1.out);(case side3 => exact LaidAt.of HLD.out (by repeat (first|(with_reducible first|exact HB.out|apply below_alloc|apply pw_below_drewN|apply below_drew1|refine below_set ?_ GE207.out|refine below_set ?_ GE208.out)|exact HB.out)));rintro e w50 ⟨rfl,hb⟩;refine ⟨_,rfl,?_⟩;have n0_:=Aside0.mk (Kd.V_below (by (with_reducible repeat (first|apply Kd.V_alloc|apply Kd.V_drewN|apply Kd.V_drew));exact HO_208003.out) hb);have n1_:=Aside0.mk (blk_below (g:=gb207) (o:=.cells #[.string t209,.string t210,.int .u64 t211,.slice Ao11 t212.length co11] 25 (0,0)) (by (with_reducible repeat (first|refine zN ?_|refine zD ?_|refine zA ?_));exact BK207.out) hb);have n2_:=Aside0.mk (blk_below (g:=gb208) (o:=.cells #[.int .i64 a1_0,.slice A1_1 l1_1.length c1_1,.int .i64 a1_2,.int .u64 a1_3,.string a1_4,.int .u64 a1_5] 28 (0,0)) (by (with_reducible repeat (first|refine zN ?_|refine zD ?_|refine zA ?_));exact BK208.out) hb);have n3_:=Aside0.mk (below_step (by repeat (first|(with_reducible first|exact HB.out|apply below_alloc|apply pw_below_drewN|apply below_drew1|refine below_set ?_ GE207.out|refine below_set ?_ GE208.out)|exact HB.out)) hb);clear HO_208003;clear BK207;clear BK208;clear HB;have HO_208003:=n0_;have BK207:=n1_;have BK208:=n2_;have HB:=n3_;clear n0_ n1_ n2_ n3_;(try clear hb);(try clear hb2);(try clear hk);(try clear hi);have hcz51_0:w50.cell? ⟨gb208,0,none⟩=some (.int .i64 a1_0):=(blk_cell BK208.out 0).trans rfl;have hcz51_1:w50.cell? ⟨gb208,1,none⟩=some (.slice A1_1 l1_1.length c1_1):=(blk_cell BK208.out 1).trans rfl;have hcz51_2:w50.cell? ⟨gb208,2,none⟩=some (.int .i64 a1_2):=(blk_cell BK208.out 2).trans rfl;have hcz51_3:w50.cell? ⟨gb208,3,none⟩=some (.int .u64 a1_3):=(blk_cell BK208.out 3).trans rfl;have hcz51_4:w50.cell? ⟨gb208,4,none⟩=some (.string a1_4):=(blk_cell BK208.out 4).trans rfl;have hcz51_5:w50.cell? ⟨gb208,5,none⟩=some (.int .u64 a1_5):=(blk_cell BK208.out 5).trans rfl;have hfz51_0:=blk_frozen BK208.out 0;have hfz51_1:=blk_frozen BK208.out 1;have hfz51_2:=blk_frozen BK208.out 2;have hfz51_3:=blk_frozen BK208.out 3;have hfz51_4:=blk_frozen BK208.out 4;have hfz51_5:=blk_frozen BK208.out 5)|(go_at_call 14;(with_reducible refine (doorwardref17_Text.calls a1_0 _ _ l1_1 a1_2 a1_3 a1_4 a1_5 t227 _ ?side1 ?side2 ?side3 A45.out).mono ?_);(case side1 => repeat (first|exact (Kd.C_below HR1_1.out HB.out)|(with_reducible refine Kd.C_alloc ?_ _)|(with_reducible refine Kd.C_drewN ?_ _)|(with_reducible refine Kd.C_drew ?_)));(case side2 => exact HC1_1.out);(case side3 => exact LaidAt.of HLD.out (by repeat (first|(with_reducible first|exact HB.out|apply below_alloc|apply pw_below_drewN|apply below_drew1|refine below_set ?_ GE207.out|refine below_set ?_ GE208.out)|exact HB.out)));rintro e w52 ⟨rfl,hb⟩;have n0_:=Aside0.mk (Kd.V_below (by (with_reducible repeat (first|apply Kd.V_alloc|apply Kd.V_drewN|apply Kd.V_drew));exact HO_208003.out) hb);have n1_:=Aside0.mk (blk_below (g:=gb207) (o:=.cells #[.string t209,.string t210,.int .u64 t211,.slice Ao11 t212.length co11] 25 (0,0)) (by (with_reducible repeat (first|refine zN ?_|refine zD ?_|refine zA ?_));exact BK207.out) hb);have n2_:=Aside0.mk (blk_below (g:=gb208) (o:=.cells #[.int .i64 a1_0,.slice A1_1 l1_1.length c1_1,.int .i64 a1_2,.int .u64 a1_3,.string a1_4,.int .u64 a1_5] 28 (0,0)) (by (with_reducible repeat (first|refine zN ?_|refine zD ?_|refine zA ?_));exact BK208.out) hb);have n3_:=Aside0.mk (below_step (by repeat (first|(with_reducible first|exact HB.out|apply below_alloc|apply pw_below_drewN|apply below_drew1|refine below_set ?_ GE207.out|refine below_set ?_ GE208.out)|exact HB.out)) hb);clear HO_208003;clear BK207;clear BK208;clear HB;have HO_208003:=n0_;have BK207:=n1_;have BK208:=n2_;have HB:=n3_;clear n0_ n1_ n2_ n3_;(try clear hb);(try clear hb2);(try clear hk);(try clear hi)))
         go_ret
         exact ⟨by first|rfl|(simp [errW_none,errW_some]<;>rfl)|(simp [*,errW_none,errW_some]<;>rfl),by repeat (first|(with_reducible first|exact HB.out|apply below_alloc|apply pw_below_drewN|apply below_drew1|refine below_set ?_ GE207.out|refine below_set ?_ GE208.out)|exact HB.out)⟩
        ·rw [if_neg c44] at H
         have c44b0:(t225==0)=false:=beq_eq_false_iff_ne.mpr c44
         have c44b1:(t225 != 0)=true:=bne_iff_ne.mpr c44
         obtain rfl:=Option.some.inj H
         have hnb53:=NB208_207.out
         have hnc53:=NB207_208.out
         have hcz54_0:wc.cell? ⟨gb208,0,none⟩=some (.int .i64 a1_0):=(blk_cell BK208.out 0).trans rfl
         have hcz54_1:wc.cell? ⟨gb208,1,none⟩=some (.slice A1_1 l1_1.length c1_1):=(blk_cell BK208.out 1).trans rfl
         have hcz54_2:wc.cell? ⟨gb208,2,none⟩=some (.int .i64 a1_2):=(blk_cell BK208.out 2).trans rfl
         have hcz54_3:wc.cell? ⟨gb208,3,none⟩=some (.int .u64 a1_3):=(blk_cell BK208.out 3).trans rfl
         have hcz54_4:wc.cell? ⟨gb208,4,none⟩=some (.string a1_4):=(blk_cell BK208.out 4).trans rfl
         have hcz54_5:wc.cell? ⟨gb208,5,none⟩=some (.int .u64 a1_5):=(blk_cell BK208.out 5).trans rfl
         have hfz54_0:=blk_frozen BK208.out 0
         have hfz54_1:=blk_frozen BK208.out 1
         have hfz54_2:=blk_frozen BK208.out 2
         have hfz54_3:=blk_frozen BK208.out 3
         have hfz54_4:=blk_frozen BK208.out 4
         have hfz54_5:=blk_frozen BK208.out 5
         go_wp2_with (first|((with_reducible refine gate_callee (f:=12) rfl ?_);refine goesL_ (some 56) rfl rfl Tryz.func12 (by kernel_rfl) rfl #[.agg #[.int .i64 a1_0,.slice A1_1 l1_1.length c1_1,.int .i64 a1_2,.int .u64 a1_3,.string a1_4,.int .u64 a1_5]] rfl (by (try simp only [List.map_toArray,List.map_cons,List.map_nil]);first|done|rfl|(simp only [List.length_drop,List.length_take];rfl)) ?_;(with_reducible refine (show_Cond.calls a1_0 _ _ l1_1 a1_2 a1_3 a1_4 a1_5 t224 t225 _ ?side1 ?side2 ?side3 A41.out).mono ?_);(case side1 => repeat (first|exact (Kd.C_below HR1_1.out HB.out)|(with_reducible refine Kd.C_alloc ?_ _)|(with_reducible refine Kd.C_drewN ?_ _)|(with_reducible refine Kd.C_drew ?_)));(case side2 => exact HC1_1.out);(case side3 => exact LaidAt.of HLD.out (by repeat (first|(with_reducible first|exact HB.out|apply below_alloc|apply pw_below_drewN|apply below_drew1|refine below_set ?_ GE207.out|refine below_set ?_ GE208.out)|exact HB.out)));rintro e w55 ⟨rfl,hb⟩;refine ⟨_,rfl,?_⟩;have n0_:=Aside0.mk (Kd.V_below (by (with_reducible repeat (first|apply Kd.V_alloc|apply Kd.V_drewN|apply Kd.V_drew));exact HO_208003.out) hb);have n1_:=Aside0.mk (blk_below (g:=gb207) (o:=.cells #[.string t209,.string t210,.int .u64 t211,.slice Ao11 t212.length co11] 25 (0,0)) (by (with_reducible repeat (first|refine zN ?_|refine zD ?_|refine zA ?_));exact BK207.out) hb);have n2_:=Aside0.mk (blk_below (g:=gb208) (o:=.cells #[.int .i64 a1_0,.slice A1_1 l1_1.length c1_1,.int .i64 a1_2,.int .u64 a1_3,.string a1_4,.int .u64 a1_5] 28 (0,0)) (by (with_reducible repeat (first|refine zN ?_|refine zD ?_|refine zA ?_));exact BK208.out) hb);have n3_:=Aside0.mk (below_step (by repeat (first|(with_reducible first|exact HB.out|apply below_alloc|apply pw_below_drewN|apply below_drew1|refine below_set ?_ GE207.out|refine below_set ?_ GE208.out)|exact HB.out)) hb);clear HO_208003;clear BK207;clear BK208;clear HB;have HO_208003:=n0_;have BK207:=n1_;have BK208:=n2_;have HB:=n3_;clear n0_ n1_ n2_ n3_;(try clear hb);(try clear hb2);(try clear hk);(try clear hi);have hcz56_0:w55.cell? ⟨gb208,0,none⟩=some (.int .i64 a1_0):=(blk_cell BK208.out 0).trans rfl;have hcz56_1:w55.cell? ⟨gb208,1,none⟩=some (.slice A1_1 l1_1.length c1_1):=(blk_cell BK208.out 1).trans rfl;have hcz56_2:w55.cell? ⟨gb208,2,none⟩=some (.int .i64 a1_2):=(blk_cell BK208.out 2).trans rfl;have hcz56_3:w55.cell? ⟨gb208,3,none⟩=some (.int .u64 a1_3):=(blk_cell BK208.out 3).trans rfl;have hcz56_4:w55.cell? ⟨gb208,4,none⟩=some (.string a1_4):=(blk_cell BK208.out 4).trans rfl;have hcz56_5:w55.cell? ⟨gb208,5,none⟩=some (.int .u64 a1_5):=(blk_cell BK208.out 5).trans rfl;have hfz56_0:=blk_frozen BK208.out 0;have hfz56_1:=blk_frozen BK208.out 1;have hfz56_2:=blk_frozen BK208.out 2;have hfz56_3:=blk_frozen BK208.out 3;have hfz56_4:=blk_frozen BK208.out 4;have hfz56_5:=blk_frozen BK208.out 5)|((with_reducible refine gate_callee (f:=13) rfl ?_);refine goesL_ (some 60) rfl rfl Tryz.func13 (by kernel_rfl) rfl #[.agg #[.int .i64 a1_0,.slice A1_1 l1_1.length c1_1,.int .i64 a1_2,.int .u64 a1_3,.string a1_4,.int .u64 a1_5]] rfl (by (try simp only [List.map_toArray,List.map_cons,List.map_nil]);first|done|rfl|(simp only [List.length_drop,List.length_take];rfl)) ?_;(with_reducible refine (doorwardref16_Right.calls kj21 a1_0 _ _ l1_1 a1_2 a1_3 a1_4 a1_5 true _ ?side1 ?side2 ?side3 A42.out).mono ?_);(case side1 => repeat (first|exact (Kd.C_below HR1_1.out HB.out)|(with_reducible refine Kd.C_alloc ?_ _)|(with_reducible refine Kd.C_drewN ?_ _)|(with_reducible refine Kd.C_drew ?_)));(case side2 => exact HC1_1.out);(case side3 => exact LaidAt.of HLD.out (by repeat (first|(with_reducible first|exact HB.out|apply below_alloc|apply pw_below_drewN|apply below_drew1|refine below_set ?_ GE207.out|refine below_set ?_ GE208.out)|exact HB.out)));rintro e w57 ⟨rfl,hb⟩;refine ⟨_,rfl,?_⟩;have n0_:=Aside0.mk (Kd.V_below (by (with_reducible repeat (first|apply Kd.V_alloc|apply Kd.V_drewN|apply Kd.V_drew));exact HO_208003.out) hb);have n1_:=Aside0.mk (blk_below (g:=gb207) (o:=.cells #[.string t209,.string t210,.int .u64 t211,.slice Ao11 t212.length co11] 25 (0,0)) (by (with_reducible repeat (first|refine zN ?_|refine zD ?_|refine zA ?_));exact BK207.out) hb);have n2_:=Aside0.mk (blk_below (g:=gb208) (o:=.cells #[.int .i64 a1_0,.slice A1_1 l1_1.length c1_1,.int .i64 a1_2,.int .u64 a1_3,.string a1_4,.int .u64 a1_5] 28 (0,0)) (by (with_reducible repeat (first|refine zN ?_|refine zD ?_|refine zA ?_));exact BK208.out) hb);have n3_:=Aside0.mk (below_step (by repeat (first|(with_reducible first|exact HB.out|apply below_alloc|apply pw_below_drewN|apply below_drew1|refine below_set ?_ GE207.out|refine below_set ?_ GE208.out)|exact HB.out)) hb);clear HO_208003;clear BK207;clear BK208;clear HB;have HO_208003:=n0_;have BK207:=n1_;have BK208:=n2_;have HB:=n3_;clear n0_ n1_ n2_ n3_;(try clear hb);(try clear hb2);(try clear hk);(try clear hi)))
         go_ret
         exact ⟨by first|rfl|(simp [errW_none,errW_some]<;>rfl)|(simp [*,errW_none,errW_some]<;>rfl),by repeat (first|(with_reducible first|exact HB.out|apply below_alloc|apply pw_below_drewN|apply below_drew1|refine below_set ?_ GE207.out|refine below_set ?_ GE208.out)|exact HB.out)⟩
       ·replace c43:=Bool.eq_false_iff.mpr c43
        subst c43
        have H1:(if t225=1 then (some (t224.toList==([]:List UInt8))) else (some false))=some r:=by rw [if_neg (show ¬ (false=true) by decide)] at H;exact H
        clear H
        have H:=H1
        clear H1
        by_cases c58:t225=1
        ·rw [if_pos c58] at H
         have c58b0:(t225==1)=true:=beq_iff_eq.mpr c58
         have c58b1:(t225 != 1)=false:=bne_eq_false_iff_eq.mpr c58
         clear c58
         obtain rfl:=Option.some.inj H
         have hnb59:=NB208_207.out
         have hnc59:=NB207_208.out
         have hcz60_0:wc.cell? ⟨gb208,0,none⟩=some (.int .i64 a1_0):=(blk_cell BK208.out 0).trans rfl
         have hcz60_1:wc.cell? ⟨gb208,1,none⟩=some (.slice A1_1 l1_1.length c1_1):=(blk_cell BK208.out 1).trans rfl
         have hcz60_2:wc.cell? ⟨gb208,2,none⟩=some (.int .i64 a1_2):=(blk_cell BK208.out 2).trans rfl
         have hcz60_3:wc.cell? ⟨gb208,3,none⟩=some (.int .u64 a1_3):=(blk_cell BK208.out 3).trans rfl
         have hcz60_4:wc.cell? ⟨gb208,4,none⟩=some (.string a1_4):=(blk_cell BK208.out 4).trans rfl
         have hcz60_5:wc.cell? ⟨gb208,5,none⟩=some (.int .u64 a1_5):=(blk_cell BK208.out 5).trans rfl
         have hfz60_0:=blk_frozen BK208.out 0
         have hfz60_1:=blk_frozen BK208.out 1
         have hfz60_2:=blk_frozen BK208.out 2
         have hfz60_3:=blk_frozen BK208.out 3
         have hfz60_4:=blk_frozen BK208.out 4
         have hfz60_5:=blk_frozen BK208.out 5
         go_wp2_with (first|((with_reducible refine gate_callee (f:=12) rfl ?_);refine goesL_ (some 56) rfl rfl Tryz.func12 (by kernel_rfl) rfl #[.agg #[.int .i64 a1_0,.slice A1_1 l1_1.length c1_1,.int .i64 a1_2,.int .u64 a1_3,.string a1_4,.int .u64 a1_5]] rfl (by (try simp only [List.map_toArray,List.map_cons,List.map_nil]);first|done|rfl|(simp only [List.length_drop,List.length_take];rfl)) ?_;(with_reducible refine (show_Cond.calls a1_0 _ _ l1_1 a1_2 a1_3 a1_4 a1_5 t224 t225 _ ?side1 ?side2 ?side3 A41.out).mono ?_);(case side1 => repeat (first|exact (Kd.C_below HR1_1.out HB.out)|(with_reducible refine Kd.C_alloc ?_ _)|(with_reducible refine Kd.C_drewN ?_ _)|(with_reducible refine Kd.C_drew ?_)));(case side2 => exact HC1_1.out);(case side3 => exact LaidAt.of HLD.out (by repeat (first|(with_reducible first|exact HB.out|apply below_alloc|apply pw_below_drewN|apply below_drew1|refine below_set ?_ GE207.out|refine below_set ?_ GE208.out)|exact HB.out)));rintro e w61 ⟨rfl,hb⟩;refine ⟨_,rfl,?_⟩;have n0_:=Aside0.mk (Kd.V_below (by (with_reducible repeat (first|apply Kd.V_alloc|apply Kd.V_drewN|apply Kd.V_drew));exact HO_208003.out) hb);have n1_:=Aside0.mk (blk_below (g:=gb207) (o:=.cells #[.string t209,.string t210,.int .u64 t211,.slice Ao11 t212.length co11] 25 (0,0)) (by (with_reducible repeat (first|refine zN ?_|refine zD ?_|refine zA ?_));exact BK207.out) hb);have n2_:=Aside0.mk (blk_below (g:=gb208) (o:=.cells #[.int .i64 a1_0,.slice A1_1 l1_1.length c1_1,.int .i64 a1_2,.int .u64 a1_3,.string a1_4,.int .u64 a1_5] 28 (0,0)) (by (with_reducible repeat (first|refine zN ?_|refine zD ?_|refine zA ?_));exact BK208.out) hb);have n3_:=Aside0.mk (below_step (by repeat (first|(with_reducible first|exact HB.out|apply below_alloc|apply pw_below_drewN|apply below_drew1|refine below_set ?_ GE207.out|refine below_set ?_ GE208.out)|exact HB.out)) hb);clear HO_208003;clear BK207;clear BK208;clear HB;have HO_208003:=n0_;have BK207:=n1_;have BK208:=n2_;have HB:=n3_;clear n0_ n1_ n2_ n3_;(try clear hb);(try clear hb2);(try clear hk);(try clear hi);have hcz62_0:w61.cell? ⟨gb208,0,none⟩=some (.int .i64 a1_0):=(blk_cell BK208.out 0).trans rfl;have hcz62_1:w61.cell? ⟨gb208,1,none⟩=some (.slice A1_1 l1_1.length c1_1):=(blk_cell BK208.out 1).trans rfl;have hcz62_2:w61.cell? ⟨gb208,2,none⟩=some (.int .i64 a1_2):=(blk_cell BK208.out 2).trans rfl;have hcz62_3:w61.cell? ⟨gb208,3,none⟩=some (.int .u64 a1_3):=(blk_cell BK208.out 3).trans rfl;have hcz62_4:w61.cell? ⟨gb208,4,none⟩=some (.string a1_4):=(blk_cell BK208.out 4).trans rfl;have hcz62_5:w61.cell? ⟨gb208,5,none⟩=some (.int .u64 a1_5):=(blk_cell BK208.out 5).trans rfl;have hfz62_0:=blk_frozen BK208.out 0;have hfz62_1:=blk_frozen BK208.out 1;have hfz62_2:=blk_frozen BK208.out 2;have hfz62_3:=blk_frozen BK208.out 3;have hfz62_4:=blk_frozen BK208.out 4;have hfz62_5:=blk_frozen BK208.out 5)|((with_reducible refine gate_callee (f:=13) rfl ?_);refine goesL_ (some 60) rfl rfl Tryz.func13 (by kernel_rfl) rfl #[.agg #[.int .i64 a1_0,.slice A1_1 l1_1.length c1_1,.int .i64 a1_2,.int .u64 a1_3,.string a1_4,.int .u64 a1_5]] rfl (by (try simp only [List.map_toArray,List.map_cons,List.map_nil]);first|done|rfl|(simp only [List.length_drop,List.length_take];rfl)) ?_;(with_reducible refine (doorwardref16_Right.calls kj21 a1_0 _ _ l1_1 a1_2 a1_3 a1_4 a1_5 false _ ?side1 ?side2 ?side3 A42.out).mono ?_);(case side1 => repeat (first|exact (Kd.C_below HR1_1.out HB.out)|(with_reducible refine Kd.C_alloc ?_ _)|(with_reducible refine Kd.C_drewN ?_ _)|(with_reducible refine Kd.C_drew ?_)));(case side2 => exact HC1_1.out);(case side3 => exact LaidAt.of HLD.out (by repeat (first|(with_reducible first|exact HB.out|apply below_alloc|apply pw_below_drewN|apply below_drew1|refine below_set ?_ GE207.out|refine below_set ?_ GE208.out)|exact HB.out)));rintro e w63 ⟨rfl,hb⟩;refine ⟨_,rfl,?_⟩;have n0_:=Aside0.mk (Kd.V_below (by (with_reducible repeat (first|apply Kd.V_alloc|apply Kd.V_drewN|apply Kd.V_drew));exact HO_208003.out) hb);have n1_:=Aside0.mk (blk_below (g:=gb207) (o:=.cells #[.string t209,.string t210,.int .u64 t211,.slice Ao11 t212.length co11] 25 (0,0)) (by (with_reducible repeat (first|refine zN ?_|refine zD ?_|refine zA ?_));exact BK207.out) hb);have n2_:=Aside0.mk (blk_below (g:=gb208) (o:=.cells #[.int .i64 a1_0,.slice A1_1 l1_1.length c1_1,.int .i64 a1_2,.int .u64 a1_3,.string a1_4,.int .u64 a1_5] 28 (0,0)) (by (with_reducible repeat (first|refine zN ?_|refine zD ?_|refine zA ?_));exact BK208.out) hb);have n3_:=Aside0.mk (below_step (by repeat (first|(with_reducible first|exact HB.out|apply below_alloc|apply pw_below_drewN|apply below_drew1|refine below_set ?_ GE207.out|refine below_set ?_ GE208.out)|exact HB.out)) hb);clear HO_208003;clear BK207;clear BK208;clear HB;have HO_208003:=n0_;have BK207:=n1_;have BK208:=n2_;have HB:=n3_;clear n0_ n1_ n2_ n3_;(try clear hb);(try clear hb2);(try clear hk);(try clear hi)))
         go_ret
         exact ⟨by first|rfl|(simp [errW_none,errW_some]<;>rfl)|(simp [*,errW_none,errW_some]<;>rfl),by repeat (first|(with_reducible first|exact HB.out|apply below_alloc|apply pw_below_drewN|apply below_drew1|refine below_set ?_ GE207.out|refine below_set ?_ GE208.out)|exact HB.out)⟩
        ·rw [if_neg c58] at H
         have c58b0:(t225==1)=false:=beq_eq_false_iff_ne.mpr c58
         have c58b1:(t225 != 1)=true:=bne_iff_ne.mpr c58
         obtain rfl:=Option.some.inj H
         have hnb64:=NB208_207.out
         have hnc64:=NB207_208.out
         have hcz65_0:wc.cell? ⟨gb208,0,none⟩=some (.int .i64 a1_0):=(blk_cell BK208.out 0).trans rfl
         have hcz65_1:wc.cell? ⟨gb208,1,none⟩=some (.slice A1_1 l1_1.length c1_1):=(blk_cell BK208.out 1).trans rfl
         have hcz65_2:wc.cell? ⟨gb208,2,none⟩=some (.int .i64 a1_2):=(blk_cell BK208.out 2).trans rfl
         have hcz65_3:wc.cell? ⟨gb208,3,none⟩=some (.int .u64 a1_3):=(blk_cell BK208.out 3).trans rfl
         have hcz65_4:wc.cell? ⟨gb208,4,none⟩=some (.string a1_4):=(blk_cell BK208.out 4).trans rfl
         have hcz65_5:wc.cell? ⟨gb208,5,none⟩=some (.int .u64 a1_5):=(blk_cell BK208.out 5).trans rfl
         have hfz65_0:=blk_frozen BK208.out 0
         have hfz65_1:=blk_frozen BK208.out 1
         have hfz65_2:=blk_frozen BK208.out 2
         have hfz65_3:=blk_frozen BK208.out 3
         have hfz65_4:=blk_frozen BK208.out 4
         have hfz65_5:=blk_frozen BK208.out 5
         go_wp2_with (first|((with_reducible refine gate_callee (f:=12) rfl ?_);refine goesL_ (some 56) rfl rfl Tryz.func12 (by kernel_rfl) rfl #[.agg #[.int .i64 a1_0,.slice A1_1 l1_1.length c1_1,.int .i64 a1_2,.int .u64 a1_3,.string a1_4,.int .u64 a1_5]] rfl (by (try simp only [List.map_toArray,List.map_cons,List.map_nil]);first|done|rfl|(simp only [List.length_drop,List.length_take];rfl)) ?_;(with_reducible refine (show_Cond.calls a1_0 _ _ l1_1 a1_2 a1_3 a1_4 a1_5 t224 t225 _ ?side1 ?side2 ?side3 A41.out).mono ?_);(case side1 => repeat (first|exact (Kd.C_below HR1_1.out HB.out)|(with_reducible refine Kd.C_alloc ?_ _)|(with_reducible refine Kd.C_drewN ?_ _)|(with_reducible refine Kd.C_drew ?_)));(case side2 => exact HC1_1.out);(case side3 => exact LaidAt.of HLD.out (by repeat (first|(with_reducible first|exact HB.out|apply below_alloc|apply pw_below_drewN|apply below_drew1|refine below_set ?_ GE207.out|refine below_set ?_ GE208.out)|exact HB.out)));rintro e w66 ⟨rfl,hb⟩;refine ⟨_,rfl,?_⟩;have n0_:=Aside0.mk (Kd.V_below (by (with_reducible repeat (first|apply Kd.V_alloc|apply Kd.V_drewN|apply Kd.V_drew));exact HO_208003.out) hb);have n1_:=Aside0.mk (blk_below (g:=gb207) (o:=.cells #[.string t209,.string t210,.int .u64 t211,.slice Ao11 t212.length co11] 25 (0,0)) (by (with_reducible repeat (first|refine zN ?_|refine zD ?_|refine zA ?_));exact BK207.out) hb);have n2_:=Aside0.mk (blk_below (g:=gb208) (o:=.cells #[.int .i64 a1_0,.slice A1_1 l1_1.length c1_1,.int .i64 a1_2,.int .u64 a1_3,.string a1_4,.int .u64 a1_5] 28 (0,0)) (by (with_reducible repeat (first|refine zN ?_|refine zD ?_|refine zA ?_));exact BK208.out) hb);have n3_:=Aside0.mk (below_step (by repeat (first|(with_reducible first|exact HB.out|apply below_alloc|apply pw_below_drewN|apply below_drew1|refine below_set ?_ GE207.out|refine below_set ?_ GE208.out)|exact HB.out)) hb);clear HO_208003;clear BK207;clear BK208;clear HB;have HO_208003:=n0_;have BK207:=n1_;have BK208:=n2_;have HB:=n3_;clear n0_ n1_ n2_ n3_;(try clear hb);(try clear hb2);(try clear hk);(try clear hi);have hcz67_0:w66.cell? ⟨gb208,0,none⟩=some (.int .i64 a1_0):=(blk_cell BK208.out 0).trans rfl;have hcz67_1:w66.cell? ⟨gb208,1,none⟩=some (.slice A1_1 l1_1.length c1_1):=(blk_cell BK208.out 1).trans rfl;have hcz67_2:w66.cell? ⟨gb208,2,none⟩=some (.int .i64 a1_2):=(blk_cell BK208.out 2).trans rfl;have hcz67_3:w66.cell? ⟨gb208,3,none⟩=some (.int .u64 a1_3):=(blk_cell BK208.out 3).trans rfl;have hcz67_4:w66.cell? ⟨gb208,4,none⟩=some (.string a1_4):=(blk_cell BK208.out 4).trans rfl;have hcz67_5:w66.cell? ⟨gb208,5,none⟩=some (.int .u64 a1_5):=(blk_cell BK208.out 5).trans rfl;have hfz67_0:=blk_frozen BK208.out 0;have hfz67_1:=blk_frozen BK208.out 1;have hfz67_2:=blk_frozen BK208.out 2;have hfz67_3:=blk_frozen BK208.out 3;have hfz67_4:=blk_frozen BK208.out 4;have hfz67_5:=blk_frozen BK208.out 5)|((with_reducible refine gate_callee (f:=13) rfl ?_);refine goesL_ (some 60) rfl rfl Tryz.func13 (by kernel_rfl) rfl #[.agg #[.int .i64 a1_0,.slice A1_1 l1_1.length c1_1,.int .i64 a1_2,.int .u64 a1_3,.string a1_4,.int .u64 a1_5]] rfl (by (try simp only [List.map_toArray,List.map_cons,List.map_nil]);first|done|rfl|(simp only [List.length_drop,List.length_take];rfl)) ?_;(with_reducible refine (doorwardref16_Right.calls kj21 a1_0 _ _ l1_1 a1_2 a1_3 a1_4 a1_5 false _ ?side1 ?side2 ?side3 A42.out).mono ?_);(case side1 => repeat (first|exact (Kd.C_below HR1_1.out HB.out)|(with_reducible refine Kd.C_alloc ?_ _)|(with_reducible refine Kd.C_drewN ?_ _)|(with_reducible refine Kd.C_drew ?_)));(case side2 => exact HC1_1.out);(case side3 => exact LaidAt.of HLD.out (by repeat (first|(with_reducible first|exact HB.out|apply below_alloc|apply pw_below_drewN|apply below_drew1|refine below_set ?_ GE207.out|refine below_set ?_ GE208.out)|exact HB.out)));rintro e w68 ⟨rfl,hb⟩;refine ⟨_,rfl,?_⟩;have n0_:=Aside0.mk (Kd.V_below (by (with_reducible repeat (first|apply Kd.V_alloc|apply Kd.V_drewN|apply Kd.V_drew));exact HO_208003.out) hb);have n1_:=Aside0.mk (blk_below (g:=gb207) (o:=.cells #[.string t209,.string t210,.int .u64 t211,.slice Ao11 t212.length co11] 25 (0,0)) (by (with_reducible repeat (first|refine zN ?_|refine zD ?_|refine zA ?_));exact BK207.out) hb);have n2_:=Aside0.mk (blk_below (g:=gb208) (o:=.cells #[.int .i64 a1_0,.slice A1_1 l1_1.length c1_1,.int .i64 a1_2,.int .u64 a1_3,.string a1_4,.int .u64 a1_5] 28 (0,0)) (by (with_reducible repeat (first|refine zN ?_|refine zD ?_|refine zA ?_));exact BK208.out) hb);have n3_:=Aside0.mk (below_step (by repeat (first|(with_reducible first|exact HB.out|apply below_alloc|apply pw_below_drewN|apply below_drew1|refine below_set ?_ GE207.out|refine below_set ?_ GE208.out)|exact HB.out)) hb);clear HO_208003;clear BK207;clear BK208;clear HB;have HO_208003:=n0_;have BK207:=n1_;have BK208:=n2_;have HB:=n3_;clear n0_ n1_ n2_ n3_;(try clear hb);(try clear hb2);(try clear hk);(try clear hi)))
         go_ret
         exact ⟨by first|rfl|(simp [errW_none,errW_some]<;>rfl)|(simp [*,errW_none,errW_some]<;>rfl),by repeat (first|(with_reducible first|exact HB.out|apply below_alloc|apply pw_below_drewN|apply below_drew1|refine below_set ?_ GE207.out|refine below_set ?_ GE208.out)|exact HB.out)⟩

end Go.Proofs.YtdfjjimmnbijmaaGreatDoor.ZQ

-- Written for this claim by myprint.py over the kit's print (functions of this session supplied)
import Derived.Test.YtdfjjimmnbijmaaGreatDoorZQ0
import Derived.Test.YtdfjjimmnbijmaaGreatDoorZQ3
import Derived.Test.YtdfjjimmnbijmaaGreatDoorZQ13
import Derived.Test.YtdfjjimmnbijmaaGreatDoorZQ14
import Derived.Test.YtdfjjimmnbijmaaGreatDoorZQ16
import Derived.Test.YtdfjjimmnbijmaaGreatDoorZQ17
namespace Go.Proofs.YtdfjjimmnbijmaaGreatDoor.ZQ
open Go.RowKit Go.Proofs.YtdfjjimmnbijmaaGreatDoorW.PrintWords Go.Proofs.YtdfjjimmnbijmaaGreatDoorW.PrintLast Go.Proofs.YtdfjjimmnbijmaaGreatDoorW.PrintMore Go.Proofs.YtdfjjimmnbijmaaGreatDoor.Base
attribute [local go_sem] max2_int min2_int max_two min_two max_three min_three max_four min_four   -- for this text's walks alone
set_option linter.unusedVariables false
set_option linter.unusedSimpArgs false

/-! ### doorwardref17_Print: function 10 -/
mutual
def doorwardref17_Print.j0:Nat→Bool→ByteArray→ByteArray→Int→List (S47)→Option (ByteArray × Int)
 |  0,_,_,_,_,_ => none
 |  k+1,x18,x191000,x191001,x191002,x191003 => if x18=true then (some ((⟨#[]⟩:ByteArray),1)) else (if 5+x191000.size≤9223372036854775807 then (if ((⟨#[97,114,99,104,32]⟩:ByteArray)++x191000).size+1≤9223372036854775807 then (if (((⟨#[97,114,99,104,32]⟩:ByteArray)++x191000)++(⟨#[10]⟩:ByteArray)).size+8≤9223372036854775807 then ((doorwardref17_action.f x191001 x191002).bind fun t193 => (if ((((⟨#[97,114,99,104,32]⟩:ByteArray)++x191000)++(⟨#[10]⟩:ByteArray))++(⟨#[100,101,102,97,117,108,116,32]⟩:ByteArray)).size+t193.size≤9223372036854775807 then (if (((((⟨#[97,114,99,104,32]⟩:ByteArray)++x191000)++(⟨#[10]⟩:ByteArray))++(⟨#[100,101,102,97,117,108,116,32]⟩:ByteArray))++t193).size+1≤9223372036854775807 then (doorwardref17_Print.l0 k ((((((⟨#[97,114,99,104,32]⟩:ByteArray)++x191000)++(⟨#[10]⟩:ByteArray))++(⟨#[100,101,102,97,117,108,116,32]⟩:ByteArray))++t193)++(⟨#[10]⟩:ByteArray)) x191003 (x191003.length:Int) 0) else (none)) else (none))) else (none)) else (none)) else (none))
def doorwardref17_Print.l0:Nat→ByteArray→List (S47)→Int→Int→Option (ByteArray × Int)
 |  0,_,_,_,_ => none
 |  k+1,x4,x32,x33,x34 => if x34<x33 then (if 0≤x34 then (if x34<(x32.length:Int) then ((doorwardref17_word.f k ((rd_T47 x32 x34).f0)).bind fun t196 => (if t196=true then (doorwardref17_Print.j2 k x4 x32 x33 x34 ((((rd_T47 x32 x34).f2).length:Int)==0) ((rd_T47 x32 x34).f0) ((rd_T47 x32 x34).f1) ((rd_T47 x32 x34).f2) ((rd_T47 x32 x34).f3.f0) ((rd_T47 x32 x34).f3.f1) ((rd_T47 x32 x34).f3.f2) ((rd_T47 x32 x34).f3.f3) ((rd_T47 x32 x34).f3.f4) ((rd_T47 x32 x34).f3.f5)) else (doorwardref17_Print.j2 k x4 x32 x33 x34 true ((rd_T47 x32 x34).f0) ((rd_T47 x32 x34).f1) ((rd_T47 x32 x34).f2) ((rd_T47 x32 x34).f3.f0) ((rd_T47 x32 x34).f3.f1) ((rd_T47 x32 x34).f3.f2) ((rd_T47 x32 x34).f3.f3) ((rd_T47 x32 x34).f3.f4) ((rd_T47 x32 x34).f3.f5)))) else (none)) else (none)) else (if (x4.size:Int)>2000 then (some ((⟨#[]⟩:ByteArray),1)) else (some (x4,0)))
def doorwardref17_Print.j2:Nat→ByteArray→List (S47)→Int→Int→Bool→ByteArray→Int→List ByteArray→Int→List (S28)→Int→Int→ByteArray→Int→Option (ByteArray × Int)
 |  0,_,_,_,_,_,_,_,_,_,_,_,_,_,_ => none
 |  k+1,x4,x32,x33,x34,x47,x196000,x196001,x196002,x196003,x196004,x196005,x196006,x196007,x196008 => if x47=true then (some ((⟨#[]⟩:ByteArray),1)) else ((doorwardref17_action.f x196000 x196001).bind fun t197 => (if x4.size+t197.size≤9223372036854775807 then (doorwardref17_Print.l1 k (x4++t197) x32 x33 x34 x196002 (x196002.length:Int) 0 x196000 x196001 x196002 x196003 x196004 x196005 x196006 x196007 x196008) else (none)))
def doorwardref17_Print.l1:Nat→ByteArray→List (S47)→Int→Int→List ByteArray→Int→Int→ByteArray→Int→List ByteArray→Int→List (S28)→Int→Int→ByteArray→Int→Option (ByteArray × Int)
 |  0,_,_,_,_,_,_,_,_,_,_,_,_,_,_,_,_ => none
 |  k+1,x4,x32,x33,x34,x56,x57,x58,x196000,x196001,x196002,x196003,x196004,x196005,x196006,x196007,x196008 => if x58<x57 then (if 0≤x58 then (if x58<(x56.length:Int) then ((doorwardref17_word.f k (rdOf ByteArray.empty x56 x58)).bind fun t199 => (if t199=true then (if x4.size+1≤9223372036854775807 then (if (x4++(⟨#[32]⟩:ByteArray)).size+(rdOf ByteArray.empty x56 x58).size≤9223372036854775807 then (doorwardref17_Print.l1 k ((x4++(⟨#[32]⟩:ByteArray))++(rdOf ByteArray.empty x56 x58)) x32 x33 x34 x56 x57 (wrap64 (x58+1)) x196000 x196001 x196002 x196003 x196004 x196005 x196006 x196007 x196008) else (none)) else (none)) else (some ((⟨#[]⟩:ByteArray),1)))) else (none)) else (none)) else ((doorwardref16_None.f x196003 x196004 x196005 x196006 x196007 x196008).bind fun t200 => (if t200=true then (if x4.size+1≤9223372036854775807 then (if ((x4++(⟨#[10]⟩:ByteArray)).size:Int)>2000 then (some ((⟨#[]⟩:ByteArray),1)) else (doorwardref17_Print.l0 k (x4++(⟨#[10]⟩:ByteArray)) x32 x33 (wrap64 (x34+1)))) else (none)) else ((doorwardref16_Right.f k x196003 x196004 x196005 x196006 x196007 x196008).bind fun t201 => (if t201=true then ((doorwardref17_Depth.f k x196003 x196004 x196005 x196006 x196007 x196008).bind fun t202 => (doorwardref17_Print.j4 k x4 x32 x33 x34 (decide (t202>8)) x196000 x196001 x196002 x196003 x196004 x196005 x196006 x196007 x196008)) else (doorwardref17_Print.j4 k x4 x32 x33 x34 true x196000 x196001 x196002 x196003 x196004 x196005 x196006 x196007 x196008)))))
def doorwardref17_Print.j4:Nat→ByteArray→List (S47)→Int→Int→Bool→ByteArray→Int→List ByteArray→Int→List (S28)→Int→Int→ByteArray→Int→Option (ByteArray × Int)
 |  0,_,_,_,_,_,_,_,_,_,_,_,_,_,_ => none
 |  k+1,x4,x32,x33,x34,x83,x196000,x196001,x196002,x196003,x196004,x196005,x196006,x196007,x196008 => if x83=true then (some ((⟨#[]⟩:ByteArray),1)) else (if x4.size+4≤9223372036854775807 then ((doorwardref17_Text.f x196003 x196004 x196005 x196006 x196007 x196008).bind fun t203 => (if (x4++(⟨#[32,105,102,32]⟩:ByteArray)).size+t203.size≤9223372036854775807 then (if ((x4++(⟨#[32,105,102,32]⟩:ByteArray))++t203).size+1≤9223372036854775807 then (if ((((x4++(⟨#[32,105,102,32]⟩:ByteArray))++t203)++(⟨#[10]⟩:ByteArray)).size:Int)>2000 then (some ((⟨#[]⟩:ByteArray),1)) else (doorwardref17_Print.l0 k (((x4++(⟨#[32,105,102,32]⟩:ByteArray))++t203)++(⟨#[10]⟩:ByteArray)) x32 x33 (wrap64 (x34+1)))) else (none)) else (none))) else (none))
end
def doorwardref17_Print.f (k:Nat) (a0_0:ByteArray) (a0_1:ByteArray) (a0_2:Int) (l0_3:List (S47)):Option (ByteArray × Int):=(doorwardref17_word.f k a0_0).bind fun t191 => (if t191=true then ((doorwardref17_word.f k a0_1).bind fun t192 => (doorwardref17_Print.j0 k (!t192) a0_0 a0_1 a0_2 l0_3)) else (doorwardref17_Print.j0 k true a0_0 a0_1 a0_2 l0_3))
theorem doorwardref17_Print.mono_l:∀ k,(∀ y0 y1 y2 y3 y4,LeO (doorwardref17_Print.j0 k y0 y1 y2 y3 y4) (doorwardref17_Print.j0 (k+1) y0 y1 y2 y3 y4))∧(∀ y0 y1 y2 y3,LeO (doorwardref17_Print.l0 k y0 y1 y2 y3) (doorwardref17_Print.l0 (k+1) y0 y1 y2 y3))∧(∀ y0 y1 y2 y3 y4 y5 y6 y7 y8 y9 y10 y11 y12 y13,LeO (doorwardref17_Print.j2 k y0 y1 y2 y3 y4 y5 y6 y7 y8 y9 y10 y11 y12 y13) (doorwardref17_Print.j2 (k+1) y0 y1 y2 y3 y4 y5 y6 y7 y8 y9 y10 y11 y12 y13))∧(∀ y0 y1 y2 y3 y4 y5 y6 y7 y8 y9 y10 y11 y12 y13 y14 y15,LeO (doorwardref17_Print.l1 k y0 y1 y2 y3 y4 y5 y6 y7 y8 y9 y10 y11 y12 y13 y14 y15) (doorwardref17_Print.l1 (k+1) y0 y1 y2 y3 y4 y5 y6 y7 y8 y9 y10 y11 y12 y13 y14 y15))∧(∀ y0 y1 y2 y3 y4 y5 y6 y7 y8 y9 y10 y11 y12 y13,LeO (doorwardref17_Print.j4 k y0 y1 y2 y3 y4 y5 y6 y7 y8 y9 y10 y11 y12 y13) (doorwardref17_Print.j4 (k+1) y0 y1 y2 y3 y4 y5 y6 y7 y8 y9 y10 y11 y12 y13))
 |  0 => ⟨fun _ _ _ _ _ r h => by simp [doorwardref17_Print.j0] at h,fun _ _ _ _ r h => by simp [doorwardref17_Print.l0] at h,fun _ _ _ _ _ _ _ _ _ _ _ _ _ _ r h => by simp [doorwardref17_Print.j2] at h,fun _ _ _ _ _ _ _ _ _ _ _ _ _ _ _ _ r h => by simp [doorwardref17_Print.l1] at h,fun _ _ _ _ _ _ _ _ _ _ _ _ _ _ r h => by simp [doorwardref17_Print.j4] at h⟩
 |  k+1 => by
  obtain ⟨ih0,ih1,ih2,ih3,ih4⟩:=doorwardref17_Print.mono_l k
  refine ⟨?_,?_,?_,?_,?_⟩
  ·intro y0 y1 y2 y3 y4
   unfold doorwardref17_Print.j0
   repeat' first
   |  (with_reducible exact ih0 _ _ _ _ _)
   |  (with_reducible exact ih1 _ _ _ _)
   |  (with_reducible exact ih2 _ _ _ _ _ _ _ _ _ _ _ _ _ _)
   |  (with_reducible exact ih3 _ _ _ _ _ _ _ _ _ _ _ _ _ _ _ _)
   |  (with_reducible exact ih4 _ _ _ _ _ _ _ _ _ _ _ _ _ _)
   |  (with_reducible exact doorwardref16_Right.mono _ _ _ _ _ _ _)
   |  (with_reducible exact doorwardref17_Depth.mono _ _ _ _ _ _ _)
   |  (with_reducible exact doorwardref17_word.mono _ _)
   |  (with_reducible exact LeO.refl _)
   |  (with_reducible exact LeO.none _)
   |  (with_reducible refine LeO.ite ?_ ?_)
   |  (with_reducible refine LeO.bind ?_ (fun _ => ?_))
   |  exact ih0 _ _ _ _ _
   |  exact ih1 _ _ _ _
   |  exact ih2 _ _ _ _ _ _ _ _ _ _ _ _ _ _
   |  exact ih3 _ _ _ _ _ _ _ _ _ _ _ _ _ _ _ _
   |  exact ih4 _ _ _ _ _ _ _ _ _ _ _ _ _ _
   |  exact doorwardref16_Right.mono _ _ _ _ _ _ _
   |  exact doorwardref17_Depth.mono _ _ _ _ _ _ _
   |  exact doorwardref17_word.mono _ _
   |  exact LeO.none _
   |  refine LeO.ite ?_ ?_
   |  refine LeO.bind ?_ (fun _ => ?_)
  ·intro y0 y1 y2 y3
   unfold doorwardref17_Print.l0
   repeat' first
   |  (with_reducible exact ih0 _ _ _ _ _)
   |  (with_reducible exact ih1 _ _ _ _)
   |  (with_reducible exact ih2 _ _ _ _ _ _ _ _ _ _ _ _ _ _)
   |  (with_reducible exact ih3 _ _ _ _ _ _ _ _ _ _ _ _ _ _ _ _)
   |  (with_reducible exact ih4 _ _ _ _ _ _ _ _ _ _ _ _ _ _)
   |  (with_reducible exact doorwardref16_Right.mono _ _ _ _ _ _ _)
   |  (with_reducible exact doorwardref17_Depth.mono _ _ _ _ _ _ _)
   |  (with_reducible exact doorwardref17_word.mono _ _)
   |  (with_reducible exact LeO.refl _)
   |  (with_reducible exact LeO.none _)
   |  (with_reducible refine LeO.ite ?_ ?_)
   |  (with_reducible refine LeO.bind ?_ (fun _ => ?_))
   |  exact ih0 _ _ _ _ _
   |  exact ih1 _ _ _ _
   |  exact ih2 _ _ _ _ _ _ _ _ _ _ _ _ _ _
   |  exact ih3 _ _ _ _ _ _ _ _ _ _ _ _ _ _ _ _
   |  exact ih4 _ _ _ _ _ _ _ _ _ _ _ _ _ _
   |  exact doorwardref16_Right.mono _ _ _ _ _ _ _
   |  exact doorwardref17_Depth.mono _ _ _ _ _ _ _
   |  exact doorwardref17_word.mono _ _
   |  exact LeO.none _
   |  refine LeO.ite ?_ ?_
   |  refine LeO.bind ?_ (fun _ => ?_)
  ·intro y0 y1 y2 y3 y4 y5 y6 y7 y8 y9 y10 y11 y12 y13
   unfold doorwardref17_Print.j2
   repeat' first
   |  (with_reducible exact ih0 _ _ _ _ _)
   |  (with_reducible exact ih1 _ _ _ _)
   |  (with_reducible exact ih2 _ _ _ _ _ _ _ _ _ _ _ _ _ _)
   |  (with_reducible exact ih3 _ _ _ _ _ _ _ _ _ _ _ _ _ _ _ _)
   |  (with_reducible exact ih4 _ _ _ _ _ _ _ _ _ _ _ _ _ _)
   |  (with_reducible exact doorwardref16_Right.mono _ _ _ _ _ _ _)
   |  (with_reducible exact doorwardref17_Depth.mono _ _ _ _ _ _ _)
   |  (with_reducible exact doorwardref17_word.mono _ _)
   |  (with_reducible exact LeO.refl _)
   |  (with_reducible exact LeO.none _)
   |  (with_reducible refine LeO.ite ?_ ?_)
   |  (with_reducible refine LeO.bind ?_ (fun _ => ?_))
   |  exact ih0 _ _ _ _ _
   |  exact ih1 _ _ _ _
   |  exact ih2 _ _ _ _ _ _ _ _ _ _ _ _ _ _
   |  exact ih3 _ _ _ _ _ _ _ _ _ _ _ _ _ _ _ _
   |  exact ih4 _ _ _ _ _ _ _ _ _ _ _ _ _ _
   |  exact doorwardref16_Right.mono _ _ _ _ _ _ _
   |  exact doorwardref17_Depth.mono _ _ _ _ _ _ _
   |  exact doorwardref17_word.mono _ _
   |  exact LeO.none _
   |  refine LeO.ite ?_ ?_
   |  refine LeO.bind ?_ (fun _ => ?_)
  ·intro y0 y1 y2 y3 y4 y5 y6 y7 y8 y9 y10 y11 y12 y13 y14 y15
   unfold doorwardref17_Print.l1
   repeat' first
   |  (with_reducible exact ih0 _ _ _ _ _)
   |  (with_reducible exact ih1 _ _ _ _)
   |  (with_reducible exact ih2 _ _ _ _ _ _ _ _ _ _ _ _ _ _)
   |  (with_reducible exact ih3 _ _ _ _ _ _ _ _ _ _ _ _ _ _ _ _)
   |  (with_reducible exact ih4 _ _ _ _ _ _ _ _ _ _ _ _ _ _)
   |  (with_reducible exact doorwardref16_Right.mono _ _ _ _ _ _ _)
   |  (with_reducible exact doorwardref17_Depth.mono _ _ _ _ _ _ _)
   |  (with_reducible exact doorwardref17_word.mono _ _)
   |  (with_reducible exact LeO.refl _)
   |  (with_reducible exact LeO.none _)
   |  (with_reducible refine LeO.ite ?_ ?_)
   |  (with_reducible refine LeO.bind ?_ (fun _ => ?_))
   |  exact ih0 _ _ _ _ _
   |  exact ih1 _ _ _ _
   |  exact ih2 _ _ _ _ _ _ _ _ _ _ _ _ _ _
   |  exact ih3 _ _ _ _ _ _ _ _ _ _ _ _ _ _ _ _
   |  exact ih4 _ _ _ _ _ _ _ _ _ _ _ _ _ _
   |  exact doorwardref16_Right.mono _ _ _ _ _ _ _
   |  exact doorwardref17_Depth.mono _ _ _ _ _ _ _
   |  exact doorwardref17_word.mono _ _
   |  exact LeO.none _
   |  refine LeO.ite ?_ ?_
   |  refine LeO.bind ?_ (fun _ => ?_)
  ·intro y0 y1 y2 y3 y4 y5 y6 y7 y8 y9 y10 y11 y12 y13
   unfold doorwardref17_Print.j4
   repeat' first
   |  (with_reducible exact ih0 _ _ _ _ _)
   |  (with_reducible exact ih1 _ _ _ _)
   |  (with_reducible exact ih2 _ _ _ _ _ _ _ _ _ _ _ _ _ _)
   |  (with_reducible exact ih3 _ _ _ _ _ _ _ _ _ _ _ _ _ _ _ _)
   |  (with_reducible exact ih4 _ _ _ _ _ _ _ _ _ _ _ _ _ _)
   |  (with_reducible exact doorwardref16_Right.mono _ _ _ _ _ _ _)
   |  (with_reducible exact doorwardref17_Depth.mono _ _ _ _ _ _ _)
   |  (with_reducible exact doorwardref17_word.mono _ _)
   |  (with_reducible exact LeO.refl _)
   |  (with_reducible exact LeO.none _)
   |  (with_reducible refine LeO.ite ?_ ?_)
   |  (with_reducible refine LeO.bind ?_ (fun _ => ?_))
   |  exact ih0 _ _ _ _ _
   |  exact ih1 _ _ _ _
   |  exact ih2 _ _ _ _ _ _ _ _ _ _ _ _ _ _
   |  exact ih3 _ _ _ _ _ _ _ _ _ _ _ _ _ _ _ _
   |  exact ih4 _ _ _ _ _ _ _ _ _ _ _ _ _ _
   |  exact doorwardref16_Right.mono _ _ _ _ _ _ _
   |  exact doorwardref17_Depth.mono _ _ _ _ _ _ _
   |  exact doorwardref17_word.mono _ _
   |  exact LeO.none _
   |  refine LeO.ite ?_ ?_
   |  refine LeO.bind ?_ (fun _ => ?_)
theorem doorwardref17_Print.mono:∀ a0 a1 a2 a3 k,LeO (doorwardref17_Print.f k a0 a1 a2 a3) (doorwardref17_Print.f (k+1) a0 a1 a2 a3):=by
 intro a0 a1 a2 a3 k
 obtain ⟨ih0,ih1,ih2,ih3,ih4⟩:=doorwardref17_Print.mono_l k
 unfold doorwardref17_Print.f
 repeat' first
   |  (with_reducible exact ih0 _ _ _ _ _)
   |  (with_reducible exact ih1 _ _ _ _)
   |  (with_reducible exact ih2 _ _ _ _ _ _ _ _ _ _ _ _ _ _)
   |  (with_reducible exact ih3 _ _ _ _ _ _ _ _ _ _ _ _ _ _ _ _)
   |  (with_reducible exact ih4 _ _ _ _ _ _ _ _ _ _ _ _ _ _)
   |  (with_reducible exact doorwardref16_Right.mono _ _ _ _ _ _ _)
   |  (with_reducible exact doorwardref17_Depth.mono _ _ _ _ _ _ _)
   |  (with_reducible exact doorwardref17_word.mono _ _)
   |  (with_reducible exact LeO.refl _)
   |  (with_reducible exact LeO.none _)
   |  (with_reducible refine LeO.ite ?_ ?_)
   |  (with_reducible refine LeO.bind ?_ (fun _ => ?_))
   |  exact ih0 _ _ _ _ _
   |  exact ih1 _ _ _ _
   |  exact ih2 _ _ _ _ _ _ _ _ _ _ _ _ _ _
   |  exact ih3 _ _ _ _ _ _ _ _ _ _ _ _ _ _ _ _
   |  exact ih4 _ _ _ _ _ _ _ _ _ _ _ _ _ _
   |  exact doorwardref16_Right.mono _ _ _ _ _ _ _
   |  exact doorwardref17_Depth.mono _ _ _ _ _ _ _
   |  exact doorwardref17_word.mono _ _
   |  exact LeO.none _
   |  refine LeO.ite ?_ ?_
   |  refine LeO.bind ?_ (fun _ => ?_)
def doorwardref17_Print.T3:Bool × List (List Nat × List Nat):=(true,[([],[]),([0],[0]),([1],[1]),([2],[2]),([3],[3]),([],[]),([5],[5]),([],[]),([7],[7]),([6,8],[6,8]),([4,9],[4,9]),([10],[10]),([11,9,0,1,2,3,4,5,6,7,8,9,10,11],[11])])
def doorwardref17_Print.B3:List Nat:=[0,1,3,7,15,0,32,0,128,480,1023,2047,4095]
theorem doorwardref17_Print.tab3:rtab .any (opsOf Tryz.f10 3)=doorwardref17_Print.T3:=by kernel_rfl
theorem doorwardref17_Print.bits3:waitsOk doorwardref17_Print.T3.2 doorwardref17_Print.B3=true:=by kernel_rfl
set_option maxHeartbeats 8000000 in
set_option maxRecDepth 100000 in
theorem doorwardref17_Print.calls (k:Nat) (a0_0:ByteArray) (a0_1:ByteArray) (a0_2:Int) (A0_3:Option Addr) (c0_3:Nat) (l0_3:List (S47)) (r1:ByteArray) (r2:Int) (w:World) (hr0_3:Kd.C k47 w A0_3 l0_3.length l0_3) (hc0_3:l0_3.length≤c0_3) (hLd:LaidAt w) (h:doorwardref17_Print.f k a0_0 a0_1 a0_2 l0_3=some (r1,r2)) :
  Calls Tryz.prog 10 #[.agg #[.string a0_0,.string a0_1,.int .u64 a0_2,.slice A0_3 l0_3.length c0_3]] w fun e w' => e=.returned (.tuple #[.string r1,.int .i64 r2])∧Below w.heap.size w w':=by
 have hu25:=Tryz.underlying25
 have hu47:=Tryz.underlying47
 have hu28:=Tryz.underlying28
 have HLD:=Aside0.mk hLd
 clear hLd
 have HR0_3:=Aside0.mk hr0_3
 have HC0_3:=Aside0.mk hc0_3
 clear hr0_3 hc0_3
 have HB:=Aside0.mk (Below.refl w.heap.size w)
 have H:((doorwardref17_word.f k a0_0).bind fun t191 => (if t191=true then ((doorwardref17_word.f k a0_1).bind fun t192 => (doorwardref17_Print.j0 k (!t192) a0_0 a0_1 a0_2 l0_3)) else (doorwardref17_Print.j0 k true a0_0 a0_1 a0_2 l0_3)))=some (r1,r2):=h
 clear h
 have HC2:=Aside0.mk H
 clear H
 go_enter Tryz.func10,Tryz.ntmps10
 go_upto_region 1 with (first|((with_reducible refine gate_dst (N:=1) rfl ?_);(try (refine gate_guard (by rfl) ?_;dsimp only));refine box_event ?hg (N:=1) ?hd (cs:=#[.string a0_0,.string a0_1,.int .u64 a0_2,.slice A0_3 l0_3.length c0_3]) (t:=25) ?hr ?_;(case hd => rfl);(case hg => rfl);(case hr => first|(go_simp;done)|(go_simp;rfl));intro gb190 hg w3 hbox hb;have n0_:=Aside0.mk (below_step (by repeat (with_reducible first|exact HB.out|apply below_alloc|apply pw_below_drewN|apply below_drew1)) hb);have n1_:=Aside0.mk (hbox);have n2_:=Aside0.mk ((by rw [hg];exact (below_size (by repeat (with_reducible first|exact HB.out|apply below_alloc|apply pw_below_drewN|apply below_drew1))):w.heap.size≤gb190));have n3_:=Aside0.mk ((by rw [hg];exact (below_size (by repeat (with_reducible first|exact HB.out|apply below_alloc|apply pw_below_drewN|apply below_drew1))):w.heap.size≤gb190));clear HB;have HB:=n0_;have BK190:=n1_;have GW190:=n2_;have GE190:=n3_;clear n0_ n1_ n2_ n3_;clear hb hbox hg))
 (try simp only [Act.put,List.setIfInBounds_toArray,List.set_cons_zero,List.set_cons_succ])
 go_cut [18] (fun v18 wc =>∃(kq:Nat) (x18_1:Bool),v18=.bool x18_1∧Aside0 (doorwardref17_Print.j0 kq x18_1 a0_0 a0_1 a0_2 l0_3=some (r1,r2))∧Aside0 (kq≤k)∧Aside0 (wc.heap[gb190]?=some (.cells #[.string a0_0,.string a0_1,.int .u64 a0_2,(.slice A0_3 l0_3.length c0_3)] 25 (0,0)))∧Aside0 (Below w.heap.size w wc))
 case first =>
  have H:=HC2.out
  clear HC2
  replace H:=Option.bind_eq_some_iff.mp H
  obtain ⟨t191,A40,H⟩:=H
  replace H:(if t191=true then ((doorwardref17_word.f k a0_1).bind fun t192 => (doorwardref17_Print.j0 k (!t192) a0_0 a0_1 a0_2 l0_3)) else (doorwardref17_Print.j0 k true a0_0 a0_1 a0_2 l0_3))=some (r1,r2):=H
  have A4:=Aside0.mk A40
  clear A40
  by_cases c5:t191=true
  ·subst c5
   have H1:((doorwardref17_word.f k a0_1).bind fun t192 => (doorwardref17_Print.j0 k (!t192) a0_0 a0_1 a0_2 l0_3))=some (r1,r2):=by rw [if_pos rfl] at H;exact H
   clear H
   have H:=H1
   clear H1
   replace H:=Option.bind_eq_some_iff.mp H
   obtain ⟨t192,A60,H⟩:=H
   replace H:(doorwardref17_Print.j0 k (!t192) a0_0 a0_1 a0_2 l0_3)=some (r1,r2):=H
   have A6:=Aside0.mk A60
   clear A60
   have H':=Aside0.mk H
   clear H
   have hcz7_0:w3.cell? ⟨gb190,0,none⟩=some (.string a0_0):=(blk_cell BK190.out 0).trans rfl
   have hcz7_1:w3.cell? ⟨gb190,1,none⟩=some (.string a0_1):=(blk_cell BK190.out 1).trans rfl
   have hcz7_2:w3.cell? ⟨gb190,2,none⟩=some (.int .u64 a0_2):=(blk_cell BK190.out 2).trans rfl
   have hcz7_3:w3.cell? ⟨gb190,3,none⟩=some (.slice A0_3 l0_3.length c0_3):=(blk_cell BK190.out 3).trans rfl
   have hfz7_0:=blk_frozen BK190.out 0
   have hfz7_1:=blk_frozen BK190.out 1
   have hfz7_2:=blk_frozen BK190.out 2
   have hfz7_3:=blk_frozen BK190.out 3
   go_wp2_with (first|((with_reducible refine gate_callee (f:=18) rfl ?_);refine goesL_ (some 11) rfl rfl Tryz.func18 (by kernel_rfl) rfl #[.string a0_0] rfl (by (try simp only [List.map_toArray,List.map_cons,List.map_nil]);first|done|rfl|(simp only [List.length_drop,List.length_take];rfl)) ?_;(with_reducible refine (doorwardref17_word.calls k a0_0 true _ ?side1 A4.out).mono ?_);(case side1 => exact LaidAt.of HLD.out (by repeat (first|(with_reducible first|exact HB.out|apply below_alloc|apply pw_below_drewN|apply below_drew1|refine below_set ?_ GE190.out)|exact HB.out)));rintro e w' ⟨rfl,⟨nd,rfl⟩⟩;refine ⟨_,rfl,?_⟩)|(go_at_call 18;(with_reducible refine (doorwardref17_word.calls k a0_1 t192 _ ?side1 A6.out).mono ?_);(case side1 => exact LaidAt.of HLD.out (by repeat (first|(with_reducible first|exact HB.out|apply below_alloc|apply pw_below_drewN|apply below_drew1|refine below_set ?_ GE190.out)|exact HB.out)));rintro e w' ⟨rfl,⟨nd,rfl⟩⟩))
   go_meet
   case rel => exact ⟨_,(!t192),(by first|rfl|(simp;done)|(simp [*];done)),H',⟨by first|omega|exact Nat.le_refl _⟩,⟨by (with_reducible repeat (first|refine zN ?_|refine zD ?_|refine zA ?_));exact BK190.out⟩,⟨by repeat (first|(with_reducible first|exact HB.out|apply below_alloc|apply pw_below_drewN|apply below_drew1|refine below_set ?_ GE190.out)|exact HB.out)⟩⟩
  ·replace c5:=Bool.eq_false_iff.mpr c5
   subst c5
   have H1:(doorwardref17_Print.j0 k true a0_0 a0_1 a0_2 l0_3)=some (r1,r2):=by rw [if_neg (show ¬ (false=true) by decide)] at H;exact H
   clear H
   have H:=H1
   clear H1
   have H':=Aside0.mk H
   clear H
   have hcz8_0:w3.cell? ⟨gb190,0,none⟩=some (.string a0_0):=(blk_cell BK190.out 0).trans rfl
   have hcz8_1:w3.cell? ⟨gb190,1,none⟩=some (.string a0_1):=(blk_cell BK190.out 1).trans rfl
   have hcz8_2:w3.cell? ⟨gb190,2,none⟩=some (.int .u64 a0_2):=(blk_cell BK190.out 2).trans rfl
   have hcz8_3:w3.cell? ⟨gb190,3,none⟩=some (.slice A0_3 l0_3.length c0_3):=(blk_cell BK190.out 3).trans rfl
   have hfz8_0:=blk_frozen BK190.out 0
   have hfz8_1:=blk_frozen BK190.out 1
   have hfz8_2:=blk_frozen BK190.out 2
   have hfz8_3:=blk_frozen BK190.out 3
   go_wp2_with (first|((with_reducible refine gate_callee (f:=18) rfl ?_);refine goesL_ (some 11) rfl rfl Tryz.func18 (by kernel_rfl) rfl #[.string a0_0] rfl (by (try simp only [List.map_toArray,List.map_cons,List.map_nil]);first|done|rfl|(simp only [List.length_drop,List.length_take];rfl)) ?_;(with_reducible refine (doorwardref17_word.calls k a0_0 false _ ?side1 A4.out).mono ?_);(case side1 => exact LaidAt.of HLD.out (by repeat (first|(with_reducible first|exact HB.out|apply below_alloc|apply pw_below_drewN|apply below_drew1|refine below_set ?_ GE190.out)|exact HB.out)));rintro e w' ⟨rfl,⟨nd,rfl⟩⟩;refine ⟨_,rfl,?_⟩))
   go_meet
   case rel => exact ⟨_,(true),(by first|rfl|(simp;done)|(simp [*];done)),H',⟨by first|omega|exact Nat.le_refl _⟩,⟨by (with_reducible repeat (first|refine zN ?_|refine zD ?_|refine zA ?_));exact BK190.out⟩,⟨by repeat (first|(with_reducible first|exact HB.out|apply below_alloc|apply pw_below_drewN|apply below_drew1|refine below_set ?_ GE190.out)|exact HB.out)⟩⟩
 case rest =>
  clear HC2
  obtain ⟨kq,x18_1,rfl,HA,HJ1,BK190,HB⟩:=hcut
  cases kq with
  |  zero => exact absurd HA.out (by simp [doorwardref17_Print.j0])
  |  succ kj1 =>
   have H:=HA.out
   clear HA
   simp only [doorwardref17_Print.j0] at H
   by_cases c9:x18_1=true
   ·subst c9
    have H1:(some ((⟨#[]⟩:ByteArray),1))=some (r1,r2):=by rw [if_pos rfl] at H;exact H
    clear H
    have H:=H1
    clear H1
    simp only [Option.some.injEq,Prod.mk.injEq] at H
    obtain ⟨rfl,rfl⟩:=H
    go_wp2
    go_ret2
    exact ⟨by first|rfl|(simp [errW_none,errW_some]<;>rfl)|(simp [*,errW_none,errW_some]<;>rfl),by repeat (first|(with_reducible first|exact HB.out|apply below_alloc|apply pw_below_drewN|apply below_drew1|refine below_set ?_ GE190.out)|exact HB.out)⟩
   ·replace c9:=Bool.eq_false_iff.mpr c9
    subst c9
    have H1:(if 5+a0_0.size≤9223372036854775807 then (if ((⟨#[97,114,99,104,32]⟩:ByteArray)++a0_0).size+1≤9223372036854775807 then (if (((⟨#[97,114,99,104,32]⟩:ByteArray)++a0_0)++(⟨#[10]⟩:ByteArray)).size+8≤9223372036854775807 then ((doorwardref17_action.f a0_1 a0_2).bind fun t193 => (if ((((⟨#[97,114,99,104,32]⟩:ByteArray)++a0_0)++(⟨#[10]⟩:ByteArray))++(⟨#[100,101,102,97,117,108,116,32]⟩:ByteArray)).size+t193.size≤9223372036854775807 then (if (((((⟨#[97,114,99,104,32]⟩:ByteArray)++a0_0)++(⟨#[10]⟩:ByteArray))++(⟨#[100,101,102,97,117,108,116,32]⟩:ByteArray))++t193).size+1≤9223372036854775807 then (doorwardref17_Print.l0 kj1 ((((((⟨#[97,114,99,104,32]⟩:ByteArray)++a0_0)++(⟨#[10]⟩:ByteArray))++(⟨#[100,101,102,97,117,108,116,32]⟩:ByteArray))++t193)++(⟨#[10]⟩:ByteArray)) l0_3 (l0_3.length:Int) 0) else (none)) else (none))) else (none)) else (none)) else (none))=some (r1,r2):=by rw [if_neg (show ¬ (false=true) by decide)] at H;exact H
    clear H
    have H:=H1
    clear H1
    by_cases c10:5+a0_0.size≤9223372036854775807
    ·rw [if_pos c10] at H
     have c10b0:=eq_true c10
     have c10b1:decide (5+a0_0.size≤9223372036854775807)=true:=decide_eq_true c10
     try have c10b2:(9223372036854775807<5+a0_0.size)=False:=eq_false (Nat.not_lt.2 c10)
     by_cases c11:((⟨#[97,114,99,104,32]⟩:ByteArray)++a0_0).size+1≤9223372036854775807
     ·rw [if_pos c11] at H
      have c11b0:=eq_true c11
      have c11b1:decide (((⟨#[97,114,99,104,32]⟩:ByteArray)++a0_0).size+1≤9223372036854775807)=true:=decide_eq_true c11
      try have c11b2:(9223372036854775807<((⟨#[97,114,99,104,32]⟩:ByteArray)++a0_0).size+1)=False:=eq_false (Nat.not_lt.2 c11)
      try have c11b3:(9223372036854775807<5+a0_0.size+1)=False:=eq_false (by have h_:=c11;simp only [ByteArray.size_append] at h_;have e0_:(⟨#[97,114,99,104,32]⟩:ByteArray).size=5:=rfl;omega)
      by_cases c12:(((⟨#[97,114,99,104,32]⟩:ByteArray)++a0_0)++(⟨#[10]⟩:ByteArray)).size+8≤9223372036854775807
      ·rw [if_pos c12] at H
       have c12b0:=eq_true c12
       have c12b1:decide ((((⟨#[97,114,99,104,32]⟩:ByteArray)++a0_0)++(⟨#[10]⟩:ByteArray)).size+8≤9223372036854775807)=true:=decide_eq_true c12
       try have c12b2:(9223372036854775807<(((⟨#[97,114,99,104,32]⟩:ByteArray)++a0_0)++(⟨#[10]⟩:ByteArray)).size+8)=False:=eq_false (Nat.not_lt.2 c12)
       try have c12b3:(9223372036854775807<5+a0_0.size+1+8)=False:=eq_false (by have h_:=c12;simp only [ByteArray.size_append] at h_;have e0_:(⟨#[97,114,99,104,32]⟩:ByteArray).size=5:=rfl;have e1_:(⟨#[10]⟩:ByteArray).size=1:=rfl;omega)
       replace H:=Option.bind_eq_some_iff.mp H
       obtain ⟨t193,A130,H⟩:=H
       replace H:(if ((((⟨#[97,114,99,104,32]⟩:ByteArray)++a0_0)++(⟨#[10]⟩:ByteArray))++(⟨#[100,101,102,97,117,108,116,32]⟩:ByteArray)).size+t193.size≤9223372036854775807 then (if (((((⟨#[97,114,99,104,32]⟩:ByteArray)++a0_0)++(⟨#[10]⟩:ByteArray))++(⟨#[100,101,102,97,117,108,116,32]⟩:ByteArray))++t193).size+1≤9223372036854775807 then (doorwardref17_Print.l0 kj1 ((((((⟨#[97,114,99,104,32]⟩:ByteArray)++a0_0)++(⟨#[10]⟩:ByteArray))++(⟨#[100,101,102,97,117,108,116,32]⟩:ByteArray))++t193)++(⟨#[10]⟩:ByteArray)) l0_3 (l0_3.length:Int) 0) else (none)) else (none))=some (r1,r2):=H
       have A13:=Aside0.mk A130
       clear A130
       by_cases c14:((((⟨#[97,114,99,104,32]⟩:ByteArray)++a0_0)++(⟨#[10]⟩:ByteArray))++(⟨#[100,101,102,97,117,108,116,32]⟩:ByteArray)).size+t193.size≤9223372036854775807
       ·rw [if_pos c14] at H
        have c14b0:=eq_true c14
        have c14b1:decide (((((⟨#[97,114,99,104,32]⟩:ByteArray)++a0_0)++(⟨#[10]⟩:ByteArray))++(⟨#[100,101,102,97,117,108,116,32]⟩:ByteArray)).size+t193.size≤9223372036854775807)=true:=decide_eq_true c14
        try have c14b2:(9223372036854775807<((((⟨#[97,114,99,104,32]⟩:ByteArray)++a0_0)++(⟨#[10]⟩:ByteArray))++(⟨#[100,101,102,97,117,108,116,32]⟩:ByteArray)).size+t193.size)=False:=eq_false (Nat.not_lt.2 c14)
        try have c14b3:(9223372036854775807<5+a0_0.size+1+8+t193.size)=False:=eq_false (by have h_:=c14;simp only [ByteArray.size_append] at h_;have e0_:(⟨#[97,114,99,104,32]⟩:ByteArray).size=5:=rfl;have e1_:(⟨#[10]⟩:ByteArray).size=1:=rfl;have e2_:(⟨#[100,101,102,97,117,108,116,32]⟩:ByteArray).size=8:=rfl;omega)
        by_cases c15:(((((⟨#[97,114,99,104,32]⟩:ByteArray)++a0_0)++(⟨#[10]⟩:ByteArray))++(⟨#[100,101,102,97,117,108,116,32]⟩:ByteArray))++t193).size+1≤9223372036854775807
        ·rw [if_pos c15] at H
         have c15b0:=eq_true c15
         have c15b1:decide ((((((⟨#[97,114,99,104,32]⟩:ByteArray)++a0_0)++(⟨#[10]⟩:ByteArray))++(⟨#[100,101,102,97,117,108,116,32]⟩:ByteArray))++t193).size+1≤9223372036854775807)=true:=decide_eq_true c15
         try have c15b2:(9223372036854775807<(((((⟨#[97,114,99,104,32]⟩:ByteArray)++a0_0)++(⟨#[10]⟩:ByteArray))++(⟨#[100,101,102,97,117,108,116,32]⟩:ByteArray))++t193).size+1)=False:=eq_false (Nat.not_lt.2 c15)
         try have c15b3:(9223372036854775807<5+a0_0.size+1+8+t193.size+1)=False:=eq_false (by have h_:=c15;simp only [ByteArray.size_append] at h_;have e0_:(⟨#[97,114,99,104,32]⟩:ByteArray).size=5:=rfl;have e1_:(⟨#[10]⟩:ByteArray).size=1:=rfl;have e2_:(⟨#[100,101,102,97,117,108,116,32]⟩:ByteArray).size=8:=rfl;omega)
         have H':=Aside0.mk H
         clear H
         try go_wp2
         have n0_:=Aside0.mk (blk_drew BK190.out)
         have n1_:=Aside0.mk (below_drew1 HB.out)
         clear BK190
         clear HB
         have BK190:=n0_
         have HB:=n1_
         clear n0_ n1_
         refine start_ (n:=13) (S:=fun w' => w'.cell? ⟨gb190,0,none⟩=some (.string a0_0)∧w'.cell? ⟨gb190,1,none⟩=some (.string a0_1)∧w'.cell? ⟨gb190,2,none⟩=some (.int .u64 a0_2)∧w'.cell? ⟨gb190,3,none⟩=some (.slice A0_3 l0_3.length c0_3)) (ds:=[]) #[false,false,false,false,false,false,false,false,false,false,false,false,false] (by kernel_rfl) rfl rfl ⟨(blk_cell BK190.out 0).trans rfl,(blk_cell BK190.out 1).trans rfl,(blk_cell BK190.out 2).trans rfl,(blk_cell BK190.out 3).trans rfl⟩ (fun hHeld => ?_);refine with_tabW doorwardref17_Print.tab3 doorwardref17_Print.bits3 (fun HT_ HW_ => ?_)
         generalize wc.drew=w16 at BK190 HB hHeld ⊢
         refine pure_ (i:=0) (N:=some 19) (v:=?_) (a':=?_) #[true,false,false,false,false,false,false,false,false,false,false,false,false] rfl rfl (any_of HT_.out (by kernel_rfl)) (fun _ _ _ h => h) (Or.inl ⟨by rfl,?_⟩) ?_ ?_
         rotate_left
         ·intro w'
          go_simp
          with_reducible rfl
         rotate_left
         ·simp only [Act.put,List.setIfInBounds_toArray,List.set_cons_zero,List.set_cons_succ,i64_w,i32_w]
          rfl
         refine pure_ (i:=5) (N:=some 24) (v:=?_) (a':=?_) #[true,false,false,false,false,true,false,false,false,false,false,false,false] rfl rfl (any_of HT_.out (by kernel_rfl)) (fun _ _ _ h => h) (Or.inl ⟨by rfl,?_⟩) ?_ ?_
         rotate_left
         ·intro w'
          go_simp
          with_reducible rfl
         rotate_left
         ·simp only [Act.put,List.setIfInBounds_toArray,List.set_cons_zero,List.set_cons_succ,i64_w,i32_w]
          rfl
         refine pure_ (i:=7) (N:=some 26) (v:=?_) (a':=?_) #[true,false,false,false,false,true,false,true,false,false,false,false,false] rfl rfl (any_of HT_.out (by kernel_rfl)) (fun _ _ _ h => h) (Or.inl ⟨by rfl,?_⟩) ?_ ?_
         rotate_left
         ·intro w'
          go_simp
          with_reducible rfl
         rotate_left
         ·simp only [Act.put,List.setIfInBounds_toArray,List.set_cons_zero,List.set_cons_succ,i64_w,i32_w]
          rfl
         refine take_ (i:=1) (N:=some 20) (v:=?_) (a':=?_) #[true,true,false,false,false,true,false,true,false,false,false,false,false] rfl rfl (take_ofW HT_.out HW_.out (by kernel_rfl)) (fun _ _ _ h => h) (Or.inl ⟨by rfl,?_⟩) hHeld ?_ ?_
         rotate_left
         ·rintro w' ⟨s0,s1,s2,s3⟩
          go_simp
          with_reducible rfl
         rotate_left
         ·simp only [Act.put,List.setIfInBounds_toArray,List.set_cons_zero,List.set_cons_succ,i64_w,i32_w]
          rfl
         refine pure_ (i:=2) (N:=some 21) (v:=?_) (a':=?_) #[true,true,true,false,false,true,false,true,false,false,false,false,false] rfl rfl (any_of HT_.out (by kernel_rfl)) (fun _ _ _ h => h) (Or.inl ⟨by rfl,?_⟩) ?_ ?_
         rotate_left
         ·intro w'
          go_simp
          with_reducible rfl
         rotate_left
         ·simp only [Act.put,List.setIfInBounds_toArray,List.set_cons_zero,List.set_cons_succ,i64_w,i32_w]
          rfl
         refine pure_ (i:=3) (N:=some 22) (v:=?_) (a':=?_) #[true,true,true,true,false,true,false,true,false,false,false,false,false] rfl rfl (any_of HT_.out (by kernel_rfl)) (fun _ _ _ h => h) (Or.inl ⟨by rfl,?_⟩) ?_ ?_
         rotate_left
         ·intro w'
          go_simp
          with_reducible rfl
         rotate_left
         ·simp only [Act.put,List.setIfInBounds_toArray,List.set_cons_zero,List.set_cons_succ,i64_w,i32_w]
          rfl
         refine pure_ (i:=4) (N:=some 23) (v:=?_) (a':=?_) #[true,true,true,true,true,true,false,true,false,false,false,false,false] rfl rfl (any_of HT_.out (by kernel_rfl)) (fun _ _ _ h => h) (Or.inl ⟨by rfl,?_⟩) ?_ ?_
         rotate_left
         ·intro w'
          go_simp
          with_reducible rfl
         rotate_left
         ·simp only [Act.put,List.setIfInBounds_toArray,List.set_cons_zero,List.set_cons_succ,i64_w,i32_w]
          rfl
         refine take_ (i:=6) (N:=some 25) (v:=?_) (a':=?_) #[true,true,true,true,true,true,true,true,false,false,false,false,false] rfl rfl (take_ofW HT_.out HW_.out (by kernel_rfl)) (fun _ _ _ h => h) (Or.inl ⟨by rfl,?_⟩) hHeld ?_ ?_
         rotate_left
         ·rintro w' ⟨s0,s1,s2,s3⟩
          go_simp
          with_reducible rfl
         rotate_left
         ·simp only [Act.put,List.setIfInBounds_toArray,List.set_cons_zero,List.set_cons_succ,i64_w,i32_w]
          rfl
         refine take_ (i:=8) (N:=some 27) (v:=?_) (a':=?_) #[true,true,true,true,true,true,true,true,true,false,false,false,false] rfl rfl (take_ofW HT_.out HW_.out (by kernel_rfl)) (fun _ _ _ h => h) (Or.inl ⟨by rfl,?_⟩) hHeld ?_ ?_
         rotate_left
         ·rintro w' ⟨s0,s1,s2,s3⟩
          go_simp
          with_reducible rfl
         rotate_left
         ·simp only [Act.put,List.setIfInBounds_toArray,List.set_cons_zero,List.set_cons_succ,i64_w,i32_w]
          rfl
         refine one_ (i:=9) (N:=some 28) #[true,true,true,true,true,true,true,true,true,true,false,false,false] rfl rfl (one_of HT_.out (by kernel_rfl)) (by decide) (fun K hK => ?_)
         refine goes_ Tryz.func19 (by kernel_rfl) rfl #[.string a0_1,.int .u64 a0_2] (by rfl) rfl rfl (by (try simp only [List.map_toArray,List.map_cons,List.map_nil]);first|done|rfl|(simp only [List.length_drop,List.length_take];rfl)) ?_
         with_reducible refine (doorwardref17_action.calls a0_1 a0_2 t193 _ ?side1 A13.out).mono ?_
         (case side1 => exact LaidAt.of HLD.out (by repeat (first|(with_reducible first|exact HB.out|apply below_alloc|apply pw_below_drewN|apply below_drew1|refine below_set ?_ GE190.out)|exact HB.out)))
         rintro e w17 ⟨rfl,hb⟩
         refine ⟨_,rfl,?_⟩
         have n0_:=Aside0.mk (blk_below (g:=gb190) (o:=.cells #[.string a0_0,.string a0_1,.int .u64 a0_2,.slice A0_3 l0_3.length c0_3] 25 (0,0)) (by (with_reducible repeat (first|refine zN ?_|refine zD ?_|refine zA ?_));exact BK190.out) hb)
         have n1_:=Aside0.mk (below_step (by repeat (first|(with_reducible first|exact HB.out|apply below_alloc|apply pw_below_drewN|apply below_drew1|refine below_set ?_ GE190.out)|exact HB.out)) hb)
         clear BK190
         clear HB
         have BK190:=n0_
         have HB:=n1_
         clear n0_ n1_
         (try clear hb)
         (try clear hb2)
         (try clear hk)
         (try clear hi)
         refine hK.out _ _ ⟨(blk_cell BK190.out 0).trans rfl,(blk_cell BK190.out 1).trans rfl,(blk_cell BK190.out 2).trans rfl,(blk_cell BK190.out 3).trans rfl⟩ (fun hHeld => ?_)
         clear hK K
         refine norm_ (a':=?_) ?_ ?_
         rotate_left
         ·show Act.put _ (some 28) _=_
          simp only [Act.put,List.setIfInBounds_toArray,List.set_cons_zero,List.set_cons_succ,i64_w,i32_w]
          rfl
         refine pure_ (i:=10) (N:=some 29) (v:=?_) (a':=?_) #[true,true,true,true,true,true,true,true,true,true,true,false,false] rfl rfl (any_of HT_.out (by kernel_rfl)) (fun _ _ _ h => h) (Or.inl ⟨by rfl,?_⟩) ?_ ?_
         rotate_left
         ·intro w'
          go_simp
          with_reducible rfl
         rotate_left
         ·simp only [Act.put,List.setIfInBounds_toArray,List.set_cons_zero,List.set_cons_succ,i64_w,i32_w]
          rfl
         refine pure_ (i:=11) (N:=some 30) (v:=?_) (a':=?_) #[true,true,true,true,true,true,true,true,true,true,true,true,false] rfl rfl (any_of HT_.out (by kernel_rfl)) (fun _ _ _ h => h) (Or.inl ⟨by rfl,?_⟩) ?_ ?_
         rotate_left
         ·intro w'
          go_simp
          with_reducible rfl
         rotate_left
         ·simp only [Act.put,List.setIfInBounds_toArray,List.set_cons_zero,List.set_cons_succ,i64_w,i32_w]
          rfl
         refine pure_ (i:=12) (N:=some 4) (v:=?_) (a':=?_) #[true,true,true,true,true,true,true,true,true,true,true,true,true] rfl rfl (any_of HT_.out (by kernel_rfl)) (fun _ _ _ h => h) (Or.inl ⟨by rfl,?_⟩) ?_ ?_
         rotate_left
         ·intro w'
          go_simp
          with_reducible rfl
         rotate_left
         ·simp only [Act.put,List.setIfInBounds_toArray,List.set_cons_zero,List.set_cons_succ,i64_w,i32_w]
          rfl
         refine done_ (done_of HT_.out (by kernel_rfl)) ?_
         have hcz18_0:w17.cell? ⟨gb190,0,none⟩=some (.string a0_0):=(blk_cell BK190.out 0).trans rfl
         have hcz18_1:w17.cell? ⟨gb190,1,none⟩=some (.string a0_1):=(blk_cell BK190.out 1).trans rfl
         have hcz18_2:w17.cell? ⟨gb190,2,none⟩=some (.int .u64 a0_2):=(blk_cell BK190.out 2).trans rfl
         have hcz18_3:w17.cell? ⟨gb190,3,none⟩=some (.slice A0_3 l0_3.length c0_3):=(blk_cell BK190.out 3).trans rfl
         have hfz18_0:=blk_frozen BK190.out 0
         have hfz18_1:=blk_frozen BK190.out 1
         have hfz18_2:=blk_frozen BK190.out 2
         have hfz18_3:=blk_frozen BK190.out 3
         try go_wp2
         go_loopg [4,34] kj1 (fun kq v4 v34 w' =>∃(x4_2:ByteArray) (x34_2:Int),v4=.string x4_2∧v34=.int .i64 x34_2∧Aside0 (doorwardref17_Print.l0 kq x4_2 l0_3 (l0_3.length:Int) x34_2=some (r1,r2))∧Aside0 (kq≤kj1)∧Aside0 (w'.heap[gb190]?=some (.cells #[.string a0_0,.string a0_1,.int .u64 a0_2,(.slice A0_3 l0_3.length c0_3)] 25 (0,0)))∧Aside0 (Below w.heap.size w w'))
         case atStart => exact ⟨((((((⟨#[97,114,99,104,32]⟩:ByteArray)++a0_0)++(⟨#[10]⟩:ByteArray))++(⟨#[100,101,102,97,117,108,116,32]⟩:ByteArray))++t193)++(⟨#[10]⟩:ByteArray)),(0),(by first|rfl|(simp;done)|(simp [*];done)),(by first|rfl|(simp;done)|(simp [*];done)),H',⟨Nat.le_refl _⟩,⟨by (with_reducible repeat (first|refine zN ?_|refine zD ?_|refine zA ?_));exact BK190.out⟩,⟨by repeat (first|(with_reducible first|exact HB.out|apply below_alloc|apply pw_below_drewN|apply below_drew1|refine below_set ?_ GE190.out)|exact HB.out)⟩⟩
         case round =>
          clear H'
          obtain ⟨x4_2,x34_2,rfl,rfl,HA,HK2,BK190,HB⟩:=hrel
          cases gk with
          |  zero => exact absurd HA.out (by simp [doorwardref17_Print.l0])
          |  succ k2 =>
           have H:=HA.out
           clear HA
           simp only [doorwardref17_Print.l0] at H
           by_cases c19:x34_2<(l0_3.length:Int)
           ·rw [if_pos c19] at H
            have c19b0:decide (x34_2<(l0_3.length:Int))=true:=decide_eq_true c19
            clear c19
            by_cases c20:0≤x34_2
            ·rw [if_pos c20] at H
             have c20b0:decide (0≤x34_2)=true:=decide_eq_true c20
             clear c20
             by_cases c21:x34_2<(l0_3.length:Int)
             ·rw [if_pos c21] at H
              have c21b0:decide (x34_2<(l0_3.length:Int))=true:=decide_eq_true c21
              clear c21
              have HC22:=Aside0.mk H
              clear H
              have p194:0≤(x34_2:Int):=of_decide_eq_true (by first|(with_reducible assumption)|assumption)
              have q194:x34_2<(l0_3.length:Int):=of_decide_eq_true (by first|(with_reducible assumption)|assumption)
              obtain ⟨ad194,A194_2,c194_2,A194_4,c194_4,e194,hx194_0,hx194_1,hx194_2,hx194_3,hx194_4,hx194_5,hx194_6,hx194_7,hx194_8,hl194_2,hi194_2,hl194_4,hi194_4⟩:=at_T47 HR0_3.out x34_2 p194 q194
              cases e194
              replace hx194_0:=(HB.out.cell (World.block_lt_of_cell? w _ hx194_0)).trans hx194_0
              replace hx194_1:=(HB.out.cell (World.block_lt_of_cell? w _ hx194_1)).trans hx194_1
              replace hx194_2:=(HB.out.cell (World.block_lt_of_cell? w _ hx194_2)).trans hx194_2
              replace hx194_3:=(HB.out.cell (World.block_lt_of_cell? w _ hx194_3)).trans hx194_3
              replace hx194_4:=(HB.out.cell (World.block_lt_of_cell? w _ hx194_4)).trans hx194_4
              replace hx194_5:=(HB.out.cell (World.block_lt_of_cell? w _ hx194_5)).trans hx194_5
              replace hx194_6:=(HB.out.cell (World.block_lt_of_cell? w _ hx194_6)).trans hx194_6
              replace hx194_7:=(HB.out.cell (World.block_lt_of_cell? w _ hx194_7)).trans hx194_7
              replace hx194_8:=(HB.out.cell (World.block_lt_of_cell? w _ hx194_8)).trans hx194_8
              have HR194_2:=Aside0.mk hi194_2
              have HC194_2:=Aside0.mk hl194_2
              clear hi194_2 hl194_2
              have HR194_4:=Aside0.mk hi194_4
              have HC194_4:=Aside0.mk hl194_4
              clear hi194_4 hl194_4
              replace p194:=eq_true p194
              replace q194:=eq_true q194
              go_upto_region 7 with (first|((with_reducible refine gate_dst (N:=6) rfl ?_);(try (refine gate_guard (by rfl) ?_;dsimp only));refine box_event ?hg (N:=6) ?hd (cs:=#[.string ⟨#[]⟩,.int .u64 0,.slice none 0 0,.int .i64 0,.slice none 0 0,.int .i64 0,.int .u64 0,.string ⟨#[]⟩,.int .u64 0]) (t:=47) ?hr ?_;(case hd => rfl);(case hg => rfl);(case hr => first|(go_simp;done)|(go_simp;rfl));intro gb195 hg w23 hbox hb;have n0_:=Aside0.mk (blk_below (g:=gb190) (o:=.cells #[.string a0_0,.string a0_1,.int .u64 a0_2,.slice (some ad194) l0_3.length c0_3] 25 (0,0)) (by (with_reducible repeat (first|refine zN ?_|refine zD ?_|refine zA ?_));exact BK190.out) hb);have n1_:=Aside0.mk (below_step (by repeat (first|(with_reducible first|exact HB.out|apply below_alloc|apply pw_below_drewN|apply below_drew1|refine below_set ?_ GE190.out)|exact HB.out)) hb);have n2_:=Aside0.mk (hbox);have n3_:=Aside0.mk ((by rw [hg];exact (below_size (by repeat (first|(with_reducible first|exact HB.out|apply below_alloc|apply pw_below_drewN|apply below_drew1|refine below_set ?_ GE190.out)|exact HB.out))):w.heap.size≤gb195));have n4_:=Aside0.mk ((by rw [hg];exact (below_size (by repeat (first|(with_reducible first|exact HB.out|apply below_alloc|apply pw_below_drewN|apply below_drew1|refine below_set ?_ GE190.out)|exact HB.out))):w.heap.size≤gb195));have n5_:=Aside0.mk ((by rw [hg];exact Nat.ne_of_lt (blk_lt (g:=gb190) (o:=.cells #[.string a0_0,.string a0_1,.int .u64 a0_2,.slice (some ad194) l0_3.length c0_3] 25 (0,0)) (by (with_reducible repeat (first|refine zN ?_|refine zD ?_|refine zA ?_));exact BK190.out)):gb190 ≠ gb195));have n6_:=Aside0.mk ((by rw [hg];exact Nat.ne_of_gt (blk_lt (g:=gb190) (o:=.cells #[.string a0_0,.string a0_1,.int .u64 a0_2,.slice (some ad194) l0_3.length c0_3] 25 (0,0)) (by (with_reducible repeat (first|refine zN ?_|refine zD ?_|refine zA ?_));exact BK190.out)):gb195 ≠ gb190));clear BK190;clear HB;have BK190:=n0_;have HB:=n1_;have BK195:=n2_;have GW195:=n3_;have GE195:=n4_;have NB190_195:=n5_;have NB195_190:=n6_;clear n0_ n1_ n2_ n3_ n4_ n5_ n6_;clear hb hbox hg;have hnb24:=NB195_190.out;have hnc24:=NB190_195.out;have hcz25_0:w23.cell? ⟨gb195,0,none⟩=some (.string ⟨#[]⟩):=(blk_cell BK195.out 0).trans rfl;have hcz25_1:w23.cell? ⟨gb195,1,none⟩=some (.int .u64 0):=(blk_cell BK195.out 1).trans rfl;have hcz25_2:w23.cell? ⟨gb195,2,none⟩=some (.slice none 0 0):=(blk_cell BK195.out 2).trans rfl;have hcz25_3:w23.cell? ⟨gb195,3,none⟩=some (.int .i64 0):=(blk_cell BK195.out 3).trans rfl;have hcz25_4:w23.cell? ⟨gb195,4,none⟩=some (.slice none 0 0):=(blk_cell BK195.out 4).trans rfl;have hcz25_5:w23.cell? ⟨gb195,5,none⟩=some (.int .i64 0):=(blk_cell BK195.out 5).trans rfl;have hcz25_6:w23.cell? ⟨gb195,6,none⟩=some (.int .u64 0):=(blk_cell BK195.out 6).trans rfl;have hcz25_7:w23.cell? ⟨gb195,7,none⟩=some (.string ⟨#[]⟩):=(blk_cell BK195.out 7).trans rfl;have hcz25_8:w23.cell? ⟨gb195,8,none⟩=some (.int .u64 0):=(blk_cell BK195.out 8).trans rfl;have hfz25_0:=blk_frozen BK195.out 0;have hfz25_1:=blk_frozen BK195.out 1;have hfz25_2:=blk_frozen BK195.out 2;have hfz25_3:=blk_frozen BK195.out 3;have hfz25_4:=blk_frozen BK195.out 4;have hfz25_5:=blk_frozen BK195.out 5;have hfz25_6:=blk_frozen BK195.out 6;have hfz25_7:=blk_frozen BK195.out 7;have hfz25_8:=blk_frozen BK195.out 8))
              (try simp only [Act.put,List.setIfInBounds_toArray,List.set_cons_zero,List.set_cons_succ])
              go_cut [47] (fun v47 wc =>∃(kq:Nat) (x47_21:Bool),v47=.bool x47_21∧Aside0 (doorwardref17_Print.j2 kq x4_2 l0_3 (l0_3.length:Int) x34_2 x47_21 ((rd_T47 l0_3 x34_2).f0) ((rd_T47 l0_3 x34_2).f1) ((rd_T47 l0_3 x34_2).f2) ((rd_T47 l0_3 x34_2).f3.f0) ((rd_T47 l0_3 x34_2).f3.f1) ((rd_T47 l0_3 x34_2).f3.f2) ((rd_T47 l0_3 x34_2).f3.f3) ((rd_T47 l0_3 x34_2).f3.f4) ((rd_T47 l0_3 x34_2).f3.f5)=some (r1,r2))∧Aside0 (kq≤k2)∧Aside0 (wc.heap[gb190]?=some (.cells #[.string a0_0,.string a0_1,.int .u64 a0_2,(.slice (some ad194) l0_3.length c0_3)] 25 (0,0)))∧Aside0 (wc.heap[gb195]?=some (.cells #[.string ((rd_T47 l0_3 x34_2).f0),.int .u64 ((rd_T47 l0_3 x34_2).f1),(.slice A194_2 ((rd_T47 l0_3 x34_2).f2).length c194_2),.int .i64 ((rd_T47 l0_3 x34_2).f3.f0),(.slice A194_4 ((rd_T47 l0_3 x34_2).f3.f1).length c194_4),.int .i64 ((rd_T47 l0_3 x34_2).f3.f2),.int .u64 ((rd_T47 l0_3 x34_2).f3.f3),.string ((rd_T47 l0_3 x34_2).f3.f4),.int .u64 ((rd_T47 l0_3 x34_2).f3.f5)] 47 (0,0)))∧Aside0 (Below w.heap.size w wc))
              case first =>
               have H:=HC22.out
               clear HC22
               replace H:=Option.bind_eq_some_iff.mp H
               obtain ⟨t196,A260,H⟩:=H
               replace H:(if t196=true then (doorwardref17_Print.j2 k2 x4_2 l0_3 (l0_3.length:Int) x34_2 ((((rd_T47 l0_3 x34_2).f2).length:Int)==0) ((rd_T47 l0_3 x34_2).f0) ((rd_T47 l0_3 x34_2).f1) ((rd_T47 l0_3 x34_2).f2) ((rd_T47 l0_3 x34_2).f3.f0) ((rd_T47 l0_3 x34_2).f3.f1) ((rd_T47 l0_3 x34_2).f3.f2) ((rd_T47 l0_3 x34_2).f3.f3) ((rd_T47 l0_3 x34_2).f3.f4) ((rd_T47 l0_3 x34_2).f3.f5)) else (doorwardref17_Print.j2 k2 x4_2 l0_3 (l0_3.length:Int) x34_2 true ((rd_T47 l0_3 x34_2).f0) ((rd_T47 l0_3 x34_2).f1) ((rd_T47 l0_3 x34_2).f2) ((rd_T47 l0_3 x34_2).f3.f0) ((rd_T47 l0_3 x34_2).f3.f1) ((rd_T47 l0_3 x34_2).f3.f2) ((rd_T47 l0_3 x34_2).f3.f3) ((rd_T47 l0_3 x34_2).f3.f4) ((rd_T47 l0_3 x34_2).f3.f5)))=some (r1,r2):=H
               have A26:=Aside0.mk A260
               clear A260
               by_cases c27:t196=true
               ·subst c27
                have H1:(doorwardref17_Print.j2 k2 x4_2 l0_3 (l0_3.length:Int) x34_2 ((((rd_T47 l0_3 x34_2).f2).length:Int)==0) ((rd_T47 l0_3 x34_2).f0) ((rd_T47 l0_3 x34_2).f1) ((rd_T47 l0_3 x34_2).f2) ((rd_T47 l0_3 x34_2).f3.f0) ((rd_T47 l0_3 x34_2).f3.f1) ((rd_T47 l0_3 x34_2).f3.f2) ((rd_T47 l0_3 x34_2).f3.f3) ((rd_T47 l0_3 x34_2).f3.f4) ((rd_T47 l0_3 x34_2).f3.f5))=some (r1,r2):=by rw [if_pos rfl] at H;exact H
                clear H
                have H:=H1
                clear H1
                have H':=Aside0.mk H
                clear H
                have hnb28:=NB195_190.out
                have hnc28:=NB190_195.out
                have hcz29_0:w23.cell? ⟨gb195,0,none⟩=some (.string ⟨#[]⟩):=(blk_cell BK195.out 0).trans rfl
                have hcz29_1:w23.cell? ⟨gb195,1,none⟩=some (.int .u64 0):=(blk_cell BK195.out 1).trans rfl
                have hcz29_2:w23.cell? ⟨gb195,2,none⟩=some (.slice none 0 0):=(blk_cell BK195.out 2).trans rfl
                have hcz29_3:w23.cell? ⟨gb195,3,none⟩=some (.int .i64 0):=(blk_cell BK195.out 3).trans rfl
                have hcz29_4:w23.cell? ⟨gb195,4,none⟩=some (.slice none 0 0):=(blk_cell BK195.out 4).trans rfl
                have hcz29_5:w23.cell? ⟨gb195,5,none⟩=some (.int .i64 0):=(blk_cell BK195.out 5).trans rfl
                have hcz29_6:w23.cell? ⟨gb195,6,none⟩=some (.int .u64 0):=(blk_cell BK195.out 6).trans rfl
                have hcz29_7:w23.cell? ⟨gb195,7,none⟩=some (.string ⟨#[]⟩):=(blk_cell BK195.out 7).trans rfl
                have hcz29_8:w23.cell? ⟨gb195,8,none⟩=some (.int .u64 0):=(blk_cell BK195.out 8).trans rfl
                have hfz29_0:=blk_frozen BK195.out 0
                have hfz29_1:=blk_frozen BK195.out 1
                have hfz29_2:=blk_frozen BK195.out 2
                have hfz29_3:=blk_frozen BK195.out 3
                have hfz29_4:=blk_frozen BK195.out 4
                have hfz29_5:=blk_frozen BK195.out 5
                have hfz29_6:=blk_frozen BK195.out 6
                have hfz29_7:=blk_frozen BK195.out 7
                have hfz29_8:=blk_frozen BK195.out 8
                go_wp2_with (first|((with_reducible refine gate_callee (f:=18) rfl ?_);refine goesL_ (some 40) rfl rfl Tryz.func18 (by kernel_rfl) rfl #[.string ((rd_T47 l0_3 x34_2).f0)] rfl (by (try simp only [List.map_toArray,List.map_cons,List.map_nil]);first|done|rfl|(simp only [List.length_drop,List.length_take];rfl)) ?_;(with_reducible refine (doorwardref17_word.calls k2 ((rd_T47 l0_3 x34_2).f0) true _ ?side1 A26.out).mono ?_);(case side1 => exact LaidAt.of HLD.out (by repeat (first|(with_reducible first|exact HB.out|apply below_alloc|apply pw_below_drewN|apply below_drew1|refine below_set ?_ GE190.out|refine below_set ?_ GE195.out)|exact HB.out)));rintro e w' ⟨rfl,⟨nd,rfl⟩⟩;refine ⟨_,rfl,?_⟩))
                go_meet
                case rel => exact ⟨_,(((((rd_T47 l0_3 x34_2).f2).length:Int)==0)),(by first|rfl|(simp;done)|(simp [*];done)),H',⟨by have:=HJ1.out;have:=HK2.out;first|omega|exact Nat.le_refl _⟩,⟨by (with_reducible repeat (first|refine zN ?_|refine zD ?_|refine zA ?_));refine blk_far ?_ NB190_195.out _;(with_reducible repeat (first|refine zN ?_|refine zD ?_|refine zA ?_));refine blk_far ?_ NB190_195.out _;(with_reducible repeat (first|refine zN ?_|refine zD ?_|refine zA ?_));refine blk_far ?_ NB190_195.out _;(with_reducible repeat (first|refine zN ?_|refine zD ?_|refine zA ?_));refine blk_far ?_ NB190_195.out _;(with_reducible repeat (first|refine zN ?_|refine zD ?_|refine zA ?_));refine blk_far ?_ NB190_195.out _;(with_reducible repeat (first|refine zN ?_|refine zD ?_|refine zA ?_));refine blk_far ?_ NB190_195.out _;(with_reducible repeat (first|refine zN ?_|refine zD ?_|refine zA ?_));refine blk_far ?_ NB190_195.out _;(with_reducible repeat (first|refine zN ?_|refine zD ?_|refine zA ?_));refine blk_far ?_ NB190_195.out _;(with_reducible repeat (first|refine zN ?_|refine zD ?_|refine zA ?_));refine blk_far ?_ NB190_195.out _;(with_reducible repeat (first|refine zN ?_|refine zD ?_|refine zA ?_));exact BK190.out⟩,⟨by (with_reducible repeat (first|refine zN ?_|refine zD ?_|refine zA ?_));refine blk_put (cs:=#[.string ((rd_T47 l0_3 x34_2).f0),.int .u64 ((rd_T47 l0_3 x34_2).f1),.slice A194_2 ((rd_T47 l0_3 x34_2).f2).length c194_2,.int .i64 ((rd_T47 l0_3 x34_2).f3.f0),.slice A194_4 ((rd_T47 l0_3 x34_2).f3.f1).length c194_4,.int .i64 ((rd_T47 l0_3 x34_2).f3.f2),.int .u64 ((rd_T47 l0_3 x34_2).f3.f3),.string ((rd_T47 l0_3 x34_2).f3.f4),.int .u64 0]) ?_ 8 _ rfl;(with_reducible repeat (first|refine zN ?_|refine zD ?_|refine zA ?_));refine blk_put (cs:=#[.string ((rd_T47 l0_3 x34_2).f0),.int .u64 ((rd_T47 l0_3 x34_2).f1),.slice A194_2 ((rd_T47 l0_3 x34_2).f2).length c194_2,.int .i64 ((rd_T47 l0_3 x34_2).f3.f0),.slice A194_4 ((rd_T47 l0_3 x34_2).f3.f1).length c194_4,.int .i64 ((rd_T47 l0_3 x34_2).f3.f2),.int .u64 ((rd_T47 l0_3 x34_2).f3.f3),.string ⟨#[]⟩,.int .u64 0]) ?_ 7 _ rfl;(with_reducible repeat (first|refine zN ?_|refine zD ?_|refine zA ?_));refine blk_put (cs:=#[.string ((rd_T47 l0_3 x34_2).f0),.int .u64 ((rd_T47 l0_3 x34_2).f1),.slice A194_2 ((rd_T47 l0_3 x34_2).f2).length c194_2,.int .i64 ((rd_T47 l0_3 x34_2).f3.f0),.slice A194_4 ((rd_T47 l0_3 x34_2).f3.f1).length c194_4,.int .i64 ((rd_T47 l0_3 x34_2).f3.f2),.int .u64 0,.string ⟨#[]⟩,.int .u64 0]) ?_ 6 _ rfl;(with_reducible repeat (first|refine zN ?_|refine zD ?_|refine zA ?_));refine blk_put (cs:=#[.string ((rd_T47 l0_3 x34_2).f0),.int .u64 ((rd_T47 l0_3 x34_2).f1),.slice A194_2 ((rd_T47 l0_3 x34_2).f2).length c194_2,.int .i64 ((rd_T47 l0_3 x34_2).f3.f0),.slice A194_4 ((rd_T47 l0_3 x34_2).f3.f1).length c194_4,.int .i64 0,.int .u64 0,.string ⟨#[]⟩,.int .u64 0]) ?_ 5 _ rfl;(with_reducible repeat (first|refine zN ?_|refine zD ?_|refine zA ?_));refine blk_put (cs:=#[.string ((rd_T47 l0_3 x34_2).f0),.int .u64 ((rd_T47 l0_3 x34_2).f1),.slice A194_2 ((rd_T47 l0_3 x34_2).f2).length c194_2,.int .i64 ((rd_T47 l0_3 x34_2).f3.f0),.slice none 0 0,.int .i64 0,.int .u64 0,.string ⟨#[]⟩,.int .u64 0]) ?_ 4 _ rfl;(with_reducible repeat (first|refine zN ?_|refine zD ?_|refine zA ?_));refine blk_put (cs:=#[.string ((rd_T47 l0_3 x34_2).f0),.int .u64 ((rd_T47 l0_3 x34_2).f1),.slice A194_2 ((rd_T47 l0_3 x34_2).f2).length c194_2,.int .i64 0,.slice none 0 0,.int .i64 0,.int .u64 0,.string ⟨#[]⟩,.int .u64 0]) ?_ 3 _ rfl;(with_reducible repeat (first|refine zN ?_|refine zD ?_|refine zA ?_));refine blk_put (cs:=#[.string ((rd_T47 l0_3 x34_2).f0),.int .u64 ((rd_T47 l0_3 x34_2).f1),.slice none 0 0,.int .i64 0,.slice none 0 0,.int .i64 0,.int .u64 0,.string ⟨#[]⟩,.int .u64 0]) ?_ 2 _ rfl;(with_reducible repeat (first|refine zN ?_|refine zD ?_|refine zA ?_));refine blk_put (cs:=#[.string ((rd_T47 l0_3 x34_2).f0),.int .u64 0,.slice none 0 0,.int .i64 0,.slice none 0 0,.int .i64 0,.int .u64 0,.string ⟨#[]⟩,.int .u64 0]) ?_ 1 _ rfl;(with_reducible repeat (first|refine zN ?_|refine zD ?_|refine zA ?_));refine blk_put (cs:=#[.string ⟨#[]⟩,.int .u64 0,.slice none 0 0,.int .i64 0,.slice none 0 0,.int .i64 0,.int .u64 0,.string ⟨#[]⟩,.int .u64 0]) ?_ 0 _ rfl;(with_reducible repeat (first|refine zN ?_|refine zD ?_|refine zA ?_));exact BK195.out⟩,⟨by repeat (first|(with_reducible first|exact HB.out|apply below_alloc|apply pw_below_drewN|apply below_drew1|refine below_set ?_ GE190.out|refine below_set ?_ GE195.out)|exact HB.out)⟩⟩
               ·replace c27:=Bool.eq_false_iff.mpr c27
                subst c27
                have H1:(doorwardref17_Print.j2 k2 x4_2 l0_3 (l0_3.length:Int) x34_2 true ((rd_T47 l0_3 x34_2).f0) ((rd_T47 l0_3 x34_2).f1) ((rd_T47 l0_3 x34_2).f2) ((rd_T47 l0_3 x34_2).f3.f0) ((rd_T47 l0_3 x34_2).f3.f1) ((rd_T47 l0_3 x34_2).f3.f2) ((rd_T47 l0_3 x34_2).f3.f3) ((rd_T47 l0_3 x34_2).f3.f4) ((rd_T47 l0_3 x34_2).f3.f5))=some (r1,r2):=by rw [if_neg (show ¬ (false=true) by decide)] at H;exact H
                clear H
                have H:=H1
                clear H1
                have H':=Aside0.mk H
                clear H
                have hnb30:=NB195_190.out
                have hnc30:=NB190_195.out
                have hcz31_0:w23.cell? ⟨gb195,0,none⟩=some (.string ⟨#[]⟩):=(blk_cell BK195.out 0).trans rfl
                have hcz31_1:w23.cell? ⟨gb195,1,none⟩=some (.int .u64 0):=(blk_cell BK195.out 1).trans rfl
                have hcz31_2:w23.cell? ⟨gb195,2,none⟩=some (.slice none 0 0):=(blk_cell BK195.out 2).trans rfl
                have hcz31_3:w23.cell? ⟨gb195,3,none⟩=some (.int .i64 0):=(blk_cell BK195.out 3).trans rfl
                have hcz31_4:w23.cell? ⟨gb195,4,none⟩=some (.slice none 0 0):=(blk_cell BK195.out 4).trans rfl
                have hcz31_5:w23.cell? ⟨gb195,5,none⟩=some (.int .i64 0):=(blk_cell BK195.out 5).trans rfl
                have hcz31_6:w23.cell? ⟨gb195,6,none⟩=some (.int .u64 0):=(blk_cell BK195.out 6).trans rfl
                have hcz31_7:w23.cell? ⟨gb195,7,none⟩=some (.string ⟨#[]⟩):=(blk_cell BK195.out 7).trans rfl
                have hcz31_8:w23.cell? ⟨gb195,8,none⟩=some (.int .u64 0):=(blk_cell BK195.out 8).trans rfl
                have hfz31_0:=blk_frozen BK195.out 0
                have hfz31_1:=blk_frozen BK195.out 1
                have hfz31_2:=blk_frozen BK195.out 2
                have hfz31_3:=blk_frozen BK195.out 3
                have hfz31_4:=blk_frozen BK195.out 4
                have hfz31_5:=blk_frozen BK195.out 5
                have hfz31_6:=blk_frozen BK195.out 6
                have hfz31_7:=blk_frozen BK195.out 7
                have hfz31_8:=blk_frozen BK195.out 8
                go_wp2_with (first|((with_reducible refine gate_callee (f:=18) rfl ?_);refine goesL_ (some 40) rfl rfl Tryz.func18 (by kernel_rfl) rfl #[.string ((rd_T47 l0_3 x34_2).f0)] rfl (by (try simp only [List.map_toArray,List.map_cons,List.map_nil]);first|done|rfl|(simp only [List.length_drop,List.length_take];rfl)) ?_;(with_reducible refine (doorwardref17_word.calls k2 ((rd_T47 l0_3 x34_2).f0) false _ ?side1 A26.out).mono ?_);(case side1 => exact LaidAt.of HLD.out (by repeat (first|(with_reducible first|exact HB.out|apply below_alloc|apply pw_below_drewN|apply below_drew1|refine below_set ?_ GE190.out|refine below_set ?_ GE195.out)|exact HB.out)));rintro e w' ⟨rfl,⟨nd,rfl⟩⟩;refine ⟨_,rfl,?_⟩))
                go_meet
                case rel => exact ⟨_,(true),(by first|rfl|(simp;done)|(simp [*];done)),H',⟨by have:=HJ1.out;have:=HK2.out;first|omega|exact Nat.le_refl _⟩,⟨by (with_reducible repeat (first|refine zN ?_|refine zD ?_|refine zA ?_));refine blk_far ?_ NB190_195.out _;(with_reducible repeat (first|refine zN ?_|refine zD ?_|refine zA ?_));refine blk_far ?_ NB190_195.out _;(with_reducible repeat (first|refine zN ?_|refine zD ?_|refine zA ?_));refine blk_far ?_ NB190_195.out _;(with_reducible repeat (first|refine zN ?_|refine zD ?_|refine zA ?_));refine blk_far ?_ NB190_195.out _;(with_reducible repeat (first|refine zN ?_|refine zD ?_|refine zA ?_));refine blk_far ?_ NB190_195.out _;(with_reducible repeat (first|refine zN ?_|refine zD ?_|refine zA ?_));refine blk_far ?_ NB190_195.out _;(with_reducible repeat (first|refine zN ?_|refine zD ?_|refine zA ?_));refine blk_far ?_ NB190_195.out _;(with_reducible repeat (first|refine zN ?_|refine zD ?_|refine zA ?_));refine blk_far ?_ NB190_195.out _;(with_reducible repeat (first|refine zN ?_|refine zD ?_|refine zA ?_));refine blk_far ?_ NB190_195.out _;(with_reducible repeat (first|refine zN ?_|refine zD ?_|refine zA ?_));exact BK190.out⟩,⟨by (with_reducible repeat (first|refine zN ?_|refine zD ?_|refine zA ?_));refine blk_put (cs:=#[.string ((rd_T47 l0_3 x34_2).f0),.int .u64 ((rd_T47 l0_3 x34_2).f1),.slice A194_2 ((rd_T47 l0_3 x34_2).f2).length c194_2,.int .i64 ((rd_T47 l0_3 x34_2).f3.f0),.slice A194_4 ((rd_T47 l0_3 x34_2).f3.f1).length c194_4,.int .i64 ((rd_T47 l0_3 x34_2).f3.f2),.int .u64 ((rd_T47 l0_3 x34_2).f3.f3),.string ((rd_T47 l0_3 x34_2).f3.f4),.int .u64 0]) ?_ 8 _ rfl;(with_reducible repeat (first|refine zN ?_|refine zD ?_|refine zA ?_));refine blk_put (cs:=#[.string ((rd_T47 l0_3 x34_2).f0),.int .u64 ((rd_T47 l0_3 x34_2).f1),.slice A194_2 ((rd_T47 l0_3 x34_2).f2).length c194_2,.int .i64 ((rd_T47 l0_3 x34_2).f3.f0),.slice A194_4 ((rd_T47 l0_3 x34_2).f3.f1).length c194_4,.int .i64 ((rd_T47 l0_3 x34_2).f3.f2),.int .u64 ((rd_T47 l0_3 x34_2).f3.f3),.string ⟨#[]⟩,.int .u64 0]) ?_ 7 _ rfl;(with_reducible repeat (first|refine zN ?_|refine zD ?_|refine zA ?_));refine blk_put (cs:=#[.string ((rd_T47 l0_3 x34_2).f0),.int .u64 ((rd_T47 l0_3 x34_2).f1),.slice A194_2 ((rd_T47 l0_3 x34_2).f2).length c194_2,.int .i64 ((rd_T47 l0_3 x34_2).f3.f0),.slice A194_4 ((rd_T47 l0_3 x34_2).f3.f1).length c194_4,.int .i64 ((rd_T47 l0_3 x34_2).f3.f2),.int .u64 0,.string ⟨#[]⟩,.int .u64 0]) ?_ 6 _ rfl;(with_reducible repeat (first|refine zN ?_|refine zD ?_|refine zA ?_));refine blk_put (cs:=#[.string ((rd_T47 l0_3 x34_2).f0),.int .u64 ((rd_T47 l0_3 x34_2).f1),.slice A194_2 ((rd_T47 l0_3 x34_2).f2).length c194_2,.int .i64 ((rd_T47 l0_3 x34_2).f3.f0),.slice A194_4 ((rd_T47 l0_3 x34_2).f3.f1).length c194_4,.int .i64 0,.int .u64 0,.string ⟨#[]⟩,.int .u64 0]) ?_ 5 _ rfl;(with_reducible repeat (first|refine zN ?_|refine zD ?_|refine zA ?_));refine blk_put (cs:=#[.string ((rd_T47 l0_3 x34_2).f0),.int .u64 ((rd_T47 l0_3 x34_2).f1),.slice A194_2 ((rd_T47 l0_3 x34_2).f2).length c194_2,.int .i64 ((rd_T47 l0_3 x34_2).f3.f0),.slice none 0 0,.int .i64 0,.int .u64 0,.string ⟨#[]⟩,.int .u64 0]) ?_ 4 _ rfl;(with_reducible repeat (first|refine zN ?_|refine zD ?_|refine zA ?_));refine blk_put (cs:=#[.string ((rd_T47 l0_3 x34_2).f0),.int .u64 ((rd_T47 l0_3 x34_2).f1),.slice A194_2 ((rd_T47 l0_3 x34_2).f2).length c194_2,.int .i64 0,.slice none 0 0,.int .i64 0,.int .u64 0,.string ⟨#[]⟩,.int .u64 0]) ?_ 3 _ rfl;(with_reducible repeat (first|refine zN ?_|refine zD ?_|refine zA ?_));refine blk_put (cs:=#[.string ((rd_T47 l0_3 x34_2).f0),.int .u64 ((rd_T47 l0_3 x34_2).f1),.slice none 0 0,.int .i64 0,.slice none 0 0,.int .i64 0,.int .u64 0,.string ⟨#[]⟩,.int .u64 0]) ?_ 2 _ rfl;(with_reducible repeat (first|refine zN ?_|refine zD ?_|refine zA ?_));refine blk_put (cs:=#[.string ((rd_T47 l0_3 x34_2).f0),.int .u64 0,.slice none 0 0,.int .i64 0,.slice none 0 0,.int .i64 0,.int .u64 0,.string ⟨#[]⟩,.int .u64 0]) ?_ 1 _ rfl;(with_reducible repeat (first|refine zN ?_|refine zD ?_|refine zA ?_));refine blk_put (cs:=#[.string ⟨#[]⟩,.int .u64 0,.slice none 0 0,.int .i64 0,.slice none 0 0,.int .i64 0,.int .u64 0,.string ⟨#[]⟩,.int .u64 0]) ?_ 0 _ rfl;(with_reducible repeat (first|refine zN ?_|refine zD ?_|refine zA ?_));exact BK195.out⟩,⟨by repeat (first|(with_reducible first|exact HB.out|apply below_alloc|apply pw_below_drewN|apply below_drew1|refine below_set ?_ GE190.out|refine below_set ?_ GE195.out)|exact HB.out)⟩⟩
              case rest =>
               clear HC22
               obtain ⟨kq,x47_21,rfl,HA,HJ21,BK190,BK195,HB⟩:=hcut
               cases kq with
               |  zero => exact absurd HA.out (by simp [doorwardref17_Print.j2])
               |  succ kj21 =>
                have H:=HA.out
                clear HA
                simp only [doorwardref17_Print.j2] at H
                by_cases c32:x47_21=true
                ·subst c32
                 have H1:(some ((⟨#[]⟩:ByteArray),1))=some (r1,r2):=by rw [if_pos rfl] at H;exact H
                 clear H
                 have H:=H1
                 clear H1
                 simp only [Option.some.injEq,Prod.mk.injEq] at H
                 obtain ⟨rfl,rfl⟩:=H
                 go_wp2
                 go_ret2
                 exact ⟨by first|rfl|(simp [errW_none,errW_some]<;>rfl)|(simp [*,errW_none,errW_some]<;>rfl),by repeat (first|(with_reducible first|exact HB.out|apply below_alloc|apply pw_below_drewN|apply below_drew1|refine below_set ?_ GE190.out|refine below_set ?_ GE195.out)|exact HB.out)⟩
                ·replace c32:=Bool.eq_false_iff.mpr c32
                 subst c32
                 have H1:((doorwardref17_action.f ((rd_T47 l0_3 x34_2).f0) ((rd_T47 l0_3 x34_2).f1)).bind fun t197 => (if x4_2.size+t197.size≤9223372036854775807 then (doorwardref17_Print.l1 kj21 (x4_2++t197) l0_3 (l0_3.length:Int) x34_2 ((rd_T47 l0_3 x34_2).f2) (((rd_T47 l0_3 x34_2).f2).length:Int) 0 ((rd_T47 l0_3 x34_2).f0) ((rd_T47 l0_3 x34_2).f1) ((rd_T47 l0_3 x34_2).f2) ((rd_T47 l0_3 x34_2).f3.f0) ((rd_T47 l0_3 x34_2).f3.f1) ((rd_T47 l0_3 x34_2).f3.f2) ((rd_T47 l0_3 x34_2).f3.f3) ((rd_T47 l0_3 x34_2).f3.f4) ((rd_T47 l0_3 x34_2).f3.f5)) else (none)))=some (r1,r2):=by rw [if_neg (show ¬ (false=true) by decide)] at H;exact H
                 clear H
                 have H:=H1
                 clear H1
                 replace H:=Option.bind_eq_some_iff.mp H
                 obtain ⟨t197,A330,H⟩:=H
                 replace H:(if x4_2.size+t197.size≤9223372036854775807 then (doorwardref17_Print.l1 kj21 (x4_2++t197) l0_3 (l0_3.length:Int) x34_2 ((rd_T47 l0_3 x34_2).f2) (((rd_T47 l0_3 x34_2).f2).length:Int) 0 ((rd_T47 l0_3 x34_2).f0) ((rd_T47 l0_3 x34_2).f1) ((rd_T47 l0_3 x34_2).f2) ((rd_T47 l0_3 x34_2).f3.f0) ((rd_T47 l0_3 x34_2).f3.f1) ((rd_T47 l0_3 x34_2).f3.f2) ((rd_T47 l0_3 x34_2).f3.f3) ((rd_T47 l0_3 x34_2).f3.f4) ((rd_T47 l0_3 x34_2).f3.f5)) else (none))=some (r1,r2):=H
                 have A33:=Aside0.mk A330
                 clear A330
                 by_cases c34:x4_2.size+t197.size≤9223372036854775807
                 ·rw [if_pos c34] at H
                  have c34b0:=eq_true c34
                  have c34b1:decide (x4_2.size+t197.size≤9223372036854775807)=true:=decide_eq_true c34
                  try have c34b2:(9223372036854775807<x4_2.size+t197.size)=False:=eq_false (Nat.not_lt.2 c34)
                  have H':=Aside0.mk H
                  clear H
                  have hnb35:=NB195_190.out
                  have hnc35:=NB190_195.out
                  have hcz36_0:wc.cell? ⟨gb195,0,none⟩=some (.string ((rd_T47 l0_3 x34_2).f0)):=(blk_cell BK195.out 0).trans rfl
                  have hcz36_1:wc.cell? ⟨gb195,1,none⟩=some (.int .u64 ((rd_T47 l0_3 x34_2).f1)):=(blk_cell BK195.out 1).trans rfl
                  have hcz36_2:wc.cell? ⟨gb195,2,none⟩=some (.slice A194_2 ((rd_T47 l0_3 x34_2).f2).length c194_2):=(blk_cell BK195.out 2).trans rfl
                  have hcz36_3:wc.cell? ⟨gb195,3,none⟩=some (.int .i64 ((rd_T47 l0_3 x34_2).f3.f0)):=(blk_cell BK195.out 3).trans rfl
                  have hcz36_4:wc.cell? ⟨gb195,4,none⟩=some (.slice A194_4 ((rd_T47 l0_3 x34_2).f3.f1).length c194_4):=(blk_cell BK195.out 4).trans rfl
                  have hcz36_5:wc.cell? ⟨gb195,5,none⟩=some (.int .i64 ((rd_T47 l0_3 x34_2).f3.f2)):=(blk_cell BK195.out 5).trans rfl
                  have hcz36_6:wc.cell? ⟨gb195,6,none⟩=some (.int .u64 ((rd_T47 l0_3 x34_2).f3.f3)):=(blk_cell BK195.out 6).trans rfl
                  have hcz36_7:wc.cell? ⟨gb195,7,none⟩=some (.string ((rd_T47 l0_3 x34_2).f3.f4)):=(blk_cell BK195.out 7).trans rfl
                  have hcz36_8:wc.cell? ⟨gb195,8,none⟩=some (.int .u64 ((rd_T47 l0_3 x34_2).f3.f5)):=(blk_cell BK195.out 8).trans rfl
                  have hfz36_0:=blk_frozen BK195.out 0
                  have hfz36_1:=blk_frozen BK195.out 1
                  have hfz36_2:=blk_frozen BK195.out 2
                  have hfz36_3:=blk_frozen BK195.out 3
                  have hfz36_4:=blk_frozen BK195.out 4
                  have hfz36_5:=blk_frozen BK195.out 5
                  have hfz36_6:=blk_frozen BK195.out 6
                  have hfz36_7:=blk_frozen BK195.out 7
                  have hfz36_8:=blk_frozen BK195.out 8
                  go_wp2_with (first|((with_reducible refine gate_callee (f:=19) rfl ?_);refine goesL_ (some 53) rfl rfl Tryz.func19 (by kernel_rfl) rfl #[.string ((rd_T47 l0_3 x34_2).f0),.int .u64 ((rd_T47 l0_3 x34_2).f1)] rfl (by (try simp only [List.map_toArray,List.map_cons,List.map_nil]);first|done|rfl|(simp only [List.length_drop,List.length_take];rfl)) ?_;(with_reducible refine (doorwardref17_action.calls ((rd_T47 l0_3 x34_2).f0) ((rd_T47 l0_3 x34_2).f1) t197 _ ?side1 A33.out).mono ?_);(case side1 => exact LaidAt.of HLD.out (by repeat (first|(with_reducible first|exact HB.out|apply below_alloc|apply pw_below_drewN|apply below_drew1|refine below_set ?_ GE190.out|refine below_set ?_ GE195.out)|exact HB.out)));rintro e w37 ⟨rfl,hb⟩;refine ⟨_,rfl,?_⟩;have n0_:=Aside0.mk (blk_below (g:=gb190) (o:=.cells #[.string a0_0,.string a0_1,.int .u64 a0_2,.slice (some ad194) l0_3.length c0_3] 25 (0,0)) (by (with_reducible repeat (first|refine zN ?_|refine zD ?_|refine zA ?_));exact BK190.out) hb);have n1_:=Aside0.mk (blk_below (g:=gb195) (o:=.cells #[.string ((rd_T47 l0_3 x34_2).f0),.int .u64 ((rd_T47 l0_3 x34_2).f1),.slice A194_2 ((rd_T47 l0_3 x34_2).f2).length c194_2,.int .i64 ((rd_T47 l0_3 x34_2).f3.f0),.slice A194_4 ((rd_T47 l0_3 x34_2).f3.f1).length c194_4,.int .i64 ((rd_T47 l0_3 x34_2).f3.f2),.int .u64 ((rd_T47 l0_3 x34_2).f3.f3),.string ((rd_T47 l0_3 x34_2).f3.f4),.int .u64 ((rd_T47 l0_3 x34_2).f3.f5)] 47 (0,0)) (by (with_reducible repeat (first|refine zN ?_|refine zD ?_|refine zA ?_));exact BK195.out) hb);have n2_:=Aside0.mk (below_step (by repeat (first|(with_reducible first|exact HB.out|apply below_alloc|apply pw_below_drewN|apply below_drew1|refine below_set ?_ GE190.out|refine below_set ?_ GE195.out)|exact HB.out)) hb);clear BK190;clear BK195;clear HB;have BK190:=n0_;have BK195:=n1_;have HB:=n2_;clear n0_ n1_ n2_;(try clear hb);(try clear hb2);(try clear hk);(try clear hi);have hcz38_0:w37.cell? ⟨gb195,0,none⟩=some (.string ((rd_T47 l0_3 x34_2).f0)):=(blk_cell BK195.out 0).trans rfl;have hcz38_1:w37.cell? ⟨gb195,1,none⟩=some (.int .u64 ((rd_T47 l0_3 x34_2).f1)):=(blk_cell BK195.out 1).trans rfl;have hcz38_2:w37.cell? ⟨gb195,2,none⟩=some (.slice A194_2 ((rd_T47 l0_3 x34_2).f2).length c194_2):=(blk_cell BK195.out 2).trans rfl;have hcz38_3:w37.cell? ⟨gb195,3,none⟩=some (.int .i64 ((rd_T47 l0_3 x34_2).f3.f0)):=(blk_cell BK195.out 3).trans rfl;have hcz38_4:w37.cell? ⟨gb195,4,none⟩=some (.slice A194_4 ((rd_T47 l0_3 x34_2).f3.f1).length c194_4):=(blk_cell BK195.out 4).trans rfl;have hcz38_5:w37.cell? ⟨gb195,5,none⟩=some (.int .i64 ((rd_T47 l0_3 x34_2).f3.f2)):=(blk_cell BK195.out 5).trans rfl;have hcz38_6:w37.cell? ⟨gb195,6,none⟩=some (.int .u64 ((rd_T47 l0_3 x34_2).f3.f3)):=(blk_cell BK195.out 6).trans rfl;have hcz38_7:w37.cell? ⟨gb195,7,none⟩=some (.string ((rd_T47 l0_3 x34_2).f3.f4)):=(blk_cell BK195.out 7).trans rfl;have hcz38_8:w37.cell? ⟨gb195,8,none⟩=some (.int .u64 ((rd_T47 l0_3 x34_2).f3.f5)):=(blk_cell BK195.out 8).trans rfl;have hfz38_0:=blk_frozen BK195.out 0;have hfz38_1:=blk_frozen BK195.out 1;have hfz38_2:=blk_frozen BK195.out 2;have hfz38_3:=blk_frozen BK195.out 3;have hfz38_4:=blk_frozen BK195.out 4;have hfz38_5:=blk_frozen BK195.out 5;have hfz38_6:=blk_frozen BK195.out 6;have hfz38_7:=blk_frozen BK195.out 7;have hfz38_8:=blk_frozen BK195.out 8))
                  go_loopg [4,58] kj21 (fun kq v4 v58 w' =>∃(x4_4:ByteArray) (x58_4:Int),v4=.string x4_4∧v58=.int .i64 x58_4∧Aside0 (doorwardref17_Print.l1 kq x4_4 l0_3 (l0_3.length:Int) x34_2 ((rd_T47 l0_3 x34_2).f2) (((rd_T47 l0_3 x34_2).f2).length:Int) x58_4 ((rd_T47 l0_3 x34_2).f0) ((rd_T47 l0_3 x34_2).f1) ((rd_T47 l0_3 x34_2).f2) ((rd_T47 l0_3 x34_2).f3.f0) ((rd_T47 l0_3 x34_2).f3.f1) ((rd_T47 l0_3 x34_2).f3.f2) ((rd_T47 l0_3 x34_2).f3.f3) ((rd_T47 l0_3 x34_2).f3.f4) ((rd_T47 l0_3 x34_2).f3.f5)=some (r1,r2))∧Aside0 (kq≤kj21)∧Aside0 (w'.heap[gb190]?=some (.cells #[.string a0_0,.string a0_1,.int .u64 a0_2,(.slice (some ad194) l0_3.length c0_3)] 25 (0,0)))∧Aside0 (w'.heap[gb195]?=some (.cells #[.string ((rd_T47 l0_3 x34_2).f0),.int .u64 ((rd_T47 l0_3 x34_2).f1),(.slice A194_2 ((rd_T47 l0_3 x34_2).f2).length c194_2),.int .i64 ((rd_T47 l0_3 x34_2).f3.f0),(.slice A194_4 ((rd_T47 l0_3 x34_2).f3.f1).length c194_4),.int .i64 ((rd_T47 l0_3 x34_2).f3.f2),.int .u64 ((rd_T47 l0_3 x34_2).f3.f3),.string ((rd_T47 l0_3 x34_2).f3.f4),.int .u64 ((rd_T47 l0_3 x34_2).f3.f5)] 47 (0,0)))∧Aside0 (Below w.heap.size w w'))
                  case atStart => exact ⟨(x4_2++t197),(0),(by first|rfl|(simp;done)|(simp [*];done)),(by first|rfl|(simp;done)|(simp [*];done)),H',⟨Nat.le_refl _⟩,⟨by (with_reducible repeat (first|refine zN ?_|refine zD ?_|refine zA ?_));exact BK190.out⟩,⟨by (with_reducible repeat (first|refine zN ?_|refine zD ?_|refine zA ?_));exact BK195.out⟩,⟨by repeat (first|(with_reducible first|exact HB.out|apply below_alloc|apply pw_below_drewN|apply below_drew1|refine below_set ?_ GE190.out|refine below_set ?_ GE195.out)|exact HB.out)⟩⟩
                  case round =>
                   clear H'
                   obtain ⟨x4_4,x58_4,rfl,rfl,HA,HK4,BK190,BK195,HB⟩:=hrel
                   cases gk with
                   |  zero => exact absurd HA.out (by simp [doorwardref17_Print.l1])
                   |  succ k4 =>
                    have H:=HA.out
                    clear HA
                    simp only [doorwardref17_Print.l1] at H
                    by_cases c39:x58_4<(((rd_T47 l0_3 x34_2).f2).length:Int)
                    ·rw [if_pos c39] at H
                     have c39b0:decide (x58_4<(((rd_T47 l0_3 x34_2).f2).length:Int))=true:=decide_eq_true c39
                     clear c39
                     by_cases c40:0≤x58_4
                     ·rw [if_pos c40] at H
                      have c40b0:decide (0≤x58_4)=true:=decide_eq_true c40
                      clear c40
                      by_cases c41:x58_4<(((rd_T47 l0_3 x34_2).f2).length:Int)
                      ·rw [if_pos c41] at H
                       have c41b0:decide (x58_4<(((rd_T47 l0_3 x34_2).f2).length:Int))=true:=decide_eq_true c41
                       clear c41
                       replace H:=Option.bind_eq_some_iff.mp H
                       obtain ⟨t199,A420,H⟩:=H
                       replace H:(if t199=true then (if x4_4.size+1≤9223372036854775807 then (if (x4_4++(⟨#[32]⟩:ByteArray)).size+(rdOf ByteArray.empty ((rd_T47 l0_3 x34_2).f2) x58_4).size≤9223372036854775807 then (doorwardref17_Print.l1 k4 ((x4_4++(⟨#[32]⟩:ByteArray))++(rdOf ByteArray.empty ((rd_T47 l0_3 x34_2).f2) x58_4)) l0_3 (l0_3.length:Int) x34_2 ((rd_T47 l0_3 x34_2).f2) (((rd_T47 l0_3 x34_2).f2).length:Int) (wrap64 (x58_4+1)) ((rd_T47 l0_3 x34_2).f0) ((rd_T47 l0_3 x34_2).f1) ((rd_T47 l0_3 x34_2).f2) ((rd_T47 l0_3 x34_2).f3.f0) ((rd_T47 l0_3 x34_2).f3.f1) ((rd_T47 l0_3 x34_2).f3.f2) ((rd_T47 l0_3 x34_2).f3.f3) ((rd_T47 l0_3 x34_2).f3.f4) ((rd_T47 l0_3 x34_2).f3.f5)) else (none)) else (none)) else (some ((⟨#[]⟩:ByteArray),1)))=some (r1,r2):=H
                       have A42:=Aside0.mk A420
                       clear A420
                       by_cases c43:t199=true
                       ·subst c43
                        have H1:(if x4_4.size+1≤9223372036854775807 then (if (x4_4++(⟨#[32]⟩:ByteArray)).size+(rdOf ByteArray.empty ((rd_T47 l0_3 x34_2).f2) x58_4).size≤9223372036854775807 then (doorwardref17_Print.l1 k4 ((x4_4++(⟨#[32]⟩:ByteArray))++(rdOf ByteArray.empty ((rd_T47 l0_3 x34_2).f2) x58_4)) l0_3 (l0_3.length:Int) x34_2 ((rd_T47 l0_3 x34_2).f2) (((rd_T47 l0_3 x34_2).f2).length:Int) (wrap64 (x58_4+1)) ((rd_T47 l0_3 x34_2).f0) ((rd_T47 l0_3 x34_2).f1) ((rd_T47 l0_3 x34_2).f2) ((rd_T47 l0_3 x34_2).f3.f0) ((rd_T47 l0_3 x34_2).f3.f1) ((rd_T47 l0_3 x34_2).f3.f2) ((rd_T47 l0_3 x34_2).f3.f3) ((rd_T47 l0_3 x34_2).f3.f4) ((rd_T47 l0_3 x34_2).f3.f5)) else (none)) else (none))=some (r1,r2):=by rw [if_pos rfl] at H;exact H
                        clear H
                        have H:=H1
                        clear H1
                        by_cases c44:x4_4.size+1≤9223372036854775807
                        ·rw [if_pos c44] at H
                         have c44b0:=eq_true c44
                         have c44b1:decide (x4_4.size+1≤9223372036854775807)=true:=decide_eq_true c44
                         try have c44b2:(9223372036854775807<x4_4.size+1)=False:=eq_false (Nat.not_lt.2 c44)
                         by_cases c45:(x4_4++(⟨#[32]⟩:ByteArray)).size+(rdOf ByteArray.empty ((rd_T47 l0_3 x34_2).f2) x58_4).size≤9223372036854775807
                         ·rw [if_pos c45] at H
                          have c45b0:=eq_true c45
                          have c45b1:decide ((x4_4++(⟨#[32]⟩:ByteArray)).size+(rdOf ByteArray.empty ((rd_T47 l0_3 x34_2).f2) x58_4).size≤9223372036854775807)=true:=decide_eq_true c45
                          try have c45b2:(9223372036854775807<(x4_4++(⟨#[32]⟩:ByteArray)).size+(rdOf ByteArray.empty ((rd_T47 l0_3 x34_2).f2) x58_4).size)=False:=eq_false (Nat.not_lt.2 c45)
                          try have c45b3:(9223372036854775807<x4_4.size+1+rdOf ByteArray.empty ((rd_T47 l0_3 x34_2).f2) x58_4.size)=False:=eq_false (by have h_:=c45;simp only [ByteArray.size_append] at h_;have e0_:(⟨#[32]⟩:ByteArray).size=1:=rfl;omega)
                          have H':=Aside0.mk H
                          clear H
                          have p198:0≤(x58_4:Int):=of_decide_eq_true (by first|(with_reducible assumption)|assumption)
                          have q198:x58_4<(((rd_T47 l0_3 x34_2).f2).length:Int):=of_decide_eq_true (by first|(with_reducible assumption)|assumption)
                          obtain ⟨ad198,e198,hx198_0⟩:=Kd.at_string HR194_2.out x58_4 p198 q198
                          cases e198
                          replace hx198_0:=(HB.out.cell (World.block_lt_of_cell? w _ hx198_0)).trans hx198_0
                          replace p198:=eq_true p198
                          replace q198:=eq_true q198
                          go_wp2_with (first|((with_reducible refine gate_callee (f:=18) rfl ?_);refine goesL_ (some 63) rfl rfl Tryz.func18 (by kernel_rfl) rfl #[.string (rdOf ByteArray.empty ((rd_T47 l0_3 x34_2).f2) x58_4)] rfl (by (try simp only [List.map_toArray,List.map_cons,List.map_nil]);first|done|rfl|(simp only [List.length_drop,List.length_take];rfl)) ?_;(with_reducible refine (doorwardref17_word.calls k4 (rdOf ByteArray.empty ((rd_T47 l0_3 x34_2).f2) x58_4) true _ ?side1 A42.out).mono ?_);(case side1 => exact LaidAt.of HLD.out (by repeat (first|(with_reducible first|exact HB.out|apply below_alloc|apply pw_below_drewN|apply below_drew1|refine below_set ?_ GE190.out|refine below_set ?_ GE195.out)|exact HB.out)));rintro e w' ⟨rfl,⟨nd,rfl⟩⟩;refine ⟨_,rfl,?_⟩))
                          go_roundg k4
                          case measure => have:=HJ1.out;have:=HK2.out;have:=HJ21.out;have:=HK4.out;omega
                          case rel => exact ⟨((x4_4++(⟨#[32]⟩:ByteArray))++(rdOf ByteArray.empty ((rd_T47 l0_3 x34_2).f2) x58_4)),(wrap64 (x58_4+1)),(by first|rfl|(simp;done)|(simp [*];done)),(by first|rfl|(simp;done)|(simp [*];done)),H',⟨by have:=HJ1.out;have:=HK2.out;have:=HJ21.out;have:=HK4.out;omega⟩,⟨by (with_reducible repeat (first|refine zN ?_|refine zD ?_|refine zA ?_));exact BK190.out⟩,⟨by (with_reducible repeat (first|refine zN ?_|refine zD ?_|refine zA ?_));exact BK195.out⟩,⟨by repeat (first|(with_reducible first|exact HB.out|apply below_alloc|apply pw_below_drewN|apply below_drew1|refine below_set ?_ GE190.out|refine below_set ?_ GE195.out)|exact HB.out)⟩⟩
                         ·rw [if_neg c45] at H
                          exact absurd H (by simp)
                        ·rw [if_neg c44] at H
                         exact absurd H (by simp)
                       ·replace c43:=Bool.eq_false_iff.mpr c43
                        subst c43
                        have H1:(some ((⟨#[]⟩:ByteArray),1))=some (r1,r2):=by rw [if_neg (show ¬ (false=true) by decide)] at H;exact H
                        clear H
                        have H:=H1
                        clear H1
                        simp only [Option.some.injEq,Prod.mk.injEq] at H
                        obtain ⟨rfl,rfl⟩:=H
                        have p198:0≤(x58_4:Int):=of_decide_eq_true (by first|(with_reducible assumption)|assumption)
                        have q198:x58_4<(((rd_T47 l0_3 x34_2).f2).length:Int):=of_decide_eq_true (by first|(with_reducible assumption)|assumption)
                        obtain ⟨ad198,e198,hx198_0⟩:=Kd.at_string HR194_2.out x58_4 p198 q198
                        cases e198
                        replace hx198_0:=(HB.out.cell (World.block_lt_of_cell? w _ hx198_0)).trans hx198_0
                        replace p198:=eq_true p198
                        replace q198:=eq_true q198
                        go_wp2_with (first|((with_reducible refine gate_callee (f:=18) rfl ?_);refine goesL_ (some 63) rfl rfl Tryz.func18 (by kernel_rfl) rfl #[.string (rdOf ByteArray.empty ((rd_T47 l0_3 x34_2).f2) x58_4)] rfl (by (try simp only [List.map_toArray,List.map_cons,List.map_nil]);first|done|rfl|(simp only [List.length_drop,List.length_take];rfl)) ?_;(with_reducible refine (doorwardref17_word.calls k4 (rdOf ByteArray.empty ((rd_T47 l0_3 x34_2).f2) x58_4) false _ ?side1 A42.out).mono ?_);(case side1 => exact LaidAt.of HLD.out (by repeat (first|(with_reducible first|exact HB.out|apply below_alloc|apply pw_below_drewN|apply below_drew1|refine below_set ?_ GE190.out|refine below_set ?_ GE195.out)|exact HB.out)));rintro e w' ⟨rfl,⟨nd,rfl⟩⟩;refine ⟨_,rfl,?_⟩))
                        go_ret2
                        exact ⟨by first|rfl|(simp [errW_none,errW_some]<;>rfl)|(simp [*,errW_none,errW_some]<;>rfl),by repeat (first|(with_reducible first|exact HB.out|apply below_alloc|apply pw_below_drewN|apply below_drew1|refine below_set ?_ GE190.out|refine below_set ?_ GE195.out)|exact HB.out)⟩
                      ·rw [if_neg c41] at H
                       exact absurd H (by simp)
                     ·rw [if_neg c40] at H
                      exact absurd H (by simp)
                    ·rw [if_neg c39] at H
                     have c39b0:decide (x58_4<(((rd_T47 l0_3 x34_2).f2).length:Int))=false:=decide_eq_false c39
                     clear c39
                     replace H:=Option.bind_eq_some_iff.mp H
                     obtain ⟨t200,A460,H⟩:=H
                     replace H:(if t200=true then (if x4_4.size+1≤9223372036854775807 then (if ((x4_4++(⟨#[10]⟩:ByteArray)).size:Int)>2000 then (some ((⟨#[]⟩:ByteArray),1)) else (doorwardref17_Print.l0 k4 (x4_4++(⟨#[10]⟩:ByteArray)) l0_3 (l0_3.length:Int) (wrap64 (x34_2+1)))) else (none)) else ((doorwardref16_Right.f k4 ((rd_T47 l0_3 x34_2).f3.f0) ((rd_T47 l0_3 x34_2).f3.f1) ((rd_T47 l0_3 x34_2).f3.f2) ((rd_T47 l0_3 x34_2).f3.f3) ((rd_T47 l0_3 x34_2).f3.f4) ((rd_T47 l0_3 x34_2).f3.f5)).bind fun t201 => (if t201=true then ((doorwardref17_Depth.f k4 ((rd_T47 l0_3 x34_2).f3.f0) ((rd_T47 l0_3 x34_2).f3.f1) ((rd_T47 l0_3 x34_2).f3.f2) ((rd_T47 l0_3 x34_2).f3.f3) ((rd_T47 l0_3 x34_2).f3.f4) ((rd_T47 l0_3 x34_2).f3.f5)).bind fun t202 => (doorwardref17_Print.j4 k4 x4_4 l0_3 (l0_3.length:Int) x34_2 (decide (t202>8)) ((rd_T47 l0_3 x34_2).f0) ((rd_T47 l0_3 x34_2).f1) ((rd_T47 l0_3 x34_2).f2) ((rd_T47 l0_3 x34_2).f3.f0) ((rd_T47 l0_3 x34_2).f3.f1) ((rd_T47 l0_3 x34_2).f3.f2) ((rd_T47 l0_3 x34_2).f3.f3) ((rd_T47 l0_3 x34_2).f3.f4) ((rd_T47 l0_3 x34_2).f3.f5))) else (doorwardref17_Print.j4 k4 x4_4 l0_3 (l0_3.length:Int) x34_2 true ((rd_T47 l0_3 x34_2).f0) ((rd_T47 l0_3 x34_2).f1) ((rd_T47 l0_3 x34_2).f2) ((rd_T47 l0_3 x34_2).f3.f0) ((rd_T47 l0_3 x34_2).f3.f1) ((rd_T47 l0_3 x34_2).f3.f2) ((rd_T47 l0_3 x34_2).f3.f3) ((rd_T47 l0_3 x34_2).f3.f4) ((rd_T47 l0_3 x34_2).f3.f5)))))=some (r1,r2):=H
                     have A46:=Aside0.mk A460
                     clear A460
                     by_cases c47:t200=true
                     ·subst c47
                      have H1:(if x4_4.size+1≤9223372036854775807 then (if ((x4_4++(⟨#[10]⟩:ByteArray)).size:Int)>2000 then (some ((⟨#[]⟩:ByteArray),1)) else (doorwardref17_Print.l0 k4 (x4_4++(⟨#[10]⟩:ByteArray)) l0_3 (l0_3.length:Int) (wrap64 (x34_2+1)))) else (none))=some (r1,r2):=by rw [if_pos rfl] at H;exact H
                      clear H
                      have H:=H1
                      clear H1
                      by_cases c48:x4_4.size+1≤9223372036854775807
                      ·rw [if_pos c48] at H
                       have c48b0:=eq_true c48
                       have c48b1:decide (x4_4.size+1≤9223372036854775807)=true:=decide_eq_true c48
                       try have c48b2:(9223372036854775807<x4_4.size+1)=False:=eq_false (Nat.not_lt.2 c48)
                       by_cases c49:((x4_4++(⟨#[10]⟩:ByteArray)).size:Int)>2000
                       ·rw [if_pos c49] at H
                        have c49b0:decide (2000<((x4_4++(⟨#[10]⟩:ByteArray)).size:Int))=true:=decide_eq_true c49
                        have c49b1:decide (2000<(x4_4++(⟨#[10]⟩:ByteArray)).size)=true:=decide_eq_true (by omega)
                        have c49b2:decide (2000<(x4_4.size:Int)+1)=true:=decide_eq_true (by have h_:=c49;simp only [ByteArray.size_append] at h_;have e0_:(⟨#[10]⟩:ByteArray).size=1:=rfl;omega)
                        clear c49
                        simp only [Option.some.injEq,Prod.mk.injEq] at H
                        obtain ⟨rfl,rfl⟩:=H
                        have hnb50:=NB195_190.out
                        have hnc50:=NB190_195.out
                        have hcz51_0:wr.cell? ⟨gb195,0,none⟩=some (.string ((rd_T47 l0_3 x34_2).f0)):=(blk_cell BK195.out 0).trans rfl
                        have hcz51_1:wr.cell? ⟨gb195,1,none⟩=some (.int .u64 ((rd_T47 l0_3 x34_2).f1)):=(blk_cell BK195.out 1).trans rfl
                        have hcz51_2:wr.cell? ⟨gb195,2,none⟩=some (.slice A194_2 ((rd_T47 l0_3 x34_2).f2).length c194_2):=(blk_cell BK195.out 2).trans rfl
                        have hcz51_3:wr.cell? ⟨gb195,3,none⟩=some (.int .i64 ((rd_T47 l0_3 x34_2).f3.f0)):=(blk_cell BK195.out 3).trans rfl
                        have hcz51_4:wr.cell? ⟨gb195,4,none⟩=some (.slice A194_4 ((rd_T47 l0_3 x34_2).f3.f1).length c194_4):=(blk_cell BK195.out 4).trans rfl
                        have hcz51_5:wr.cell? ⟨gb195,5,none⟩=some (.int .i64 ((rd_T47 l0_3 x34_2).f3.f2)):=(blk_cell BK195.out 5).trans rfl
                        have hcz51_6:wr.cell? ⟨gb195,6,none⟩=some (.int .u64 ((rd_T47 l0_3 x34_2).f3.f3)):=(blk_cell BK195.out 6).trans rfl
                        have hcz51_7:wr.cell? ⟨gb195,7,none⟩=some (.string ((rd_T47 l0_3 x34_2).f3.f4)):=(blk_cell BK195.out 7).trans rfl
                        have hcz51_8:wr.cell? ⟨gb195,8,none⟩=some (.int .u64 ((rd_T47 l0_3 x34_2).f3.f5)):=(blk_cell BK195.out 8).trans rfl
                        have hfz51_0:=blk_frozen BK195.out 0
                        have hfz51_1:=blk_frozen BK195.out 1
                        have hfz51_2:=blk_frozen BK195.out 2
                        have hfz51_3:=blk_frozen BK195.out 3
                        have hfz51_4:=blk_frozen BK195.out 4
                        have hfz51_5:=blk_frozen BK195.out 5
                        have hfz51_6:=blk_frozen BK195.out 6
                        have hfz51_7:=blk_frozen BK195.out 7
                        have hfz51_8:=blk_frozen BK195.out 8
                        go_wp2_with (first|((with_reducible refine gate_callee (f:=20) rfl ?_);refine goesL_ (some 72) rfl rfl Tryz.func20 (by kernel_rfl) rfl #[.agg #[.int .i64 ((rd_T47 l0_3 x34_2).f3.f0),.slice A194_4 ((rd_T47 l0_3 x34_2).f3.f1).length c194_4,.int .i64 ((rd_T47 l0_3 x34_2).f3.f2),.int .u64 ((rd_T47 l0_3 x34_2).f3.f3),.string ((rd_T47 l0_3 x34_2).f3.f4),.int .u64 ((rd_T47 l0_3 x34_2).f3.f5)]] rfl (by (try simp only [List.map_toArray,List.map_cons,List.map_nil]);first|done|rfl|(simp only [List.length_drop,List.length_take];rfl)) ?_;(with_reducible refine (doorwardref16_None.calls ((rd_T47 l0_3 x34_2).f3.f0) _ _ ((rd_T47 l0_3 x34_2).f3.f1) ((rd_T47 l0_3 x34_2).f3.f2) ((rd_T47 l0_3 x34_2).f3.f3) ((rd_T47 l0_3 x34_2).f3.f4) ((rd_T47 l0_3 x34_2).f3.f5) true _ ?side1 ?side2 ?side3 A46.out).mono ?_);(case side1 => repeat (first|exact (Kd.C_below HR194_4.out HB.out)|(with_reducible refine Kd.C_alloc ?_ _)|(with_reducible refine Kd.C_drewN ?_ _)|(with_reducible refine Kd.C_drew ?_)));(case side2 => exact HC194_4.out);(case side3 => exact LaidAt.of HLD.out (by repeat (first|(with_reducible first|exact HB.out|apply below_alloc|apply pw_below_drewN|apply below_drew1|refine below_set ?_ GE190.out|refine below_set ?_ GE195.out)|exact HB.out)));rintro e w52 ⟨rfl,hb⟩;refine ⟨_,rfl,?_⟩;have n0_:=Aside0.mk (blk_below (g:=gb190) (o:=.cells #[.string a0_0,.string a0_1,.int .u64 a0_2,.slice (some ad194) l0_3.length c0_3] 25 (0,0)) (by (with_reducible repeat (first|refine zN ?_|refine zD ?_|refine zA ?_));exact BK190.out) hb);have n1_:=Aside0.mk (blk_below (g:=gb195) (o:=.cells #[.string ((rd_T47 l0_3 x34_2).f0),.int .u64 ((rd_T47 l0_3 x34_2).f1),.slice A194_2 ((rd_T47 l0_3 x34_2).f2).length c194_2,.int .i64 ((rd_T47 l0_3 x34_2).f3.f0),.slice A194_4 ((rd_T47 l0_3 x34_2).f3.f1).length c194_4,.int .i64 ((rd_T47 l0_3 x34_2).f3.f2),.int .u64 ((rd_T47 l0_3 x34_2).f3.f3),.string ((rd_T47 l0_3 x34_2).f3.f4),.int .u64 ((rd_T47 l0_3 x34_2).f3.f5)] 47 (0,0)) (by (with_reducible repeat (first|refine zN ?_|refine zD ?_|refine zA ?_));exact BK195.out) hb);have n2_:=Aside0.mk (below_step (by repeat (first|(with_reducible first|exact HB.out|apply below_alloc|apply pw_below_drewN|apply below_drew1|refine below_set ?_ GE190.out|refine below_set ?_ GE195.out)|exact HB.out)) hb);clear BK190;clear BK195;clear HB;have BK190:=n0_;have BK195:=n1_;have HB:=n2_;clear n0_ n1_ n2_;(try clear hb);(try clear hb2);(try clear hk);(try clear hi)))
                        go_ret2
                        exact ⟨by first|rfl|(simp [errW_none,errW_some]<;>rfl)|(simp [*,errW_none,errW_some]<;>rfl),by repeat (first|(with_reducible first|exact HB.out|apply below_alloc|apply pw_below_drewN|apply below_drew1|refine below_set ?_ GE190.out|refine below_set ?_ GE195.out)|exact HB.out)⟩
                       ·rw [if_neg c49] at H
                        have c49b0:decide (2000<((x4_4++(⟨#[10]⟩:ByteArray)).size:Int))=false:=decide_eq_false c49
                        have c49b1:decide (2000<(x4_4++(⟨#[10]⟩:ByteArray)).size)=false:=decide_eq_false (by omega)
                        have c49b2:decide (2000<(x4_4.size:Int)+1)=false:=decide_eq_false (by have h_:=c49;simp only [ByteArray.size_append] at h_;have e0_:(⟨#[10]⟩:ByteArray).size=1:=rfl;omega)
                        clear c49
                        have H':=Aside0.mk H
                        clear H
                        have hnb53:=NB195_190.out
                        have hnc53:=NB190_195.out
                        have hcz54_0:wr.cell? ⟨gb195,0,none⟩=some (.string ((rd_T47 l0_3 x34_2).f0)):=(blk_cell BK195.out 0).trans rfl
                        have hcz54_1:wr.cell? ⟨gb195,1,none⟩=some (.int .u64 ((rd_T47 l0_3 x34_2).f1)):=(blk_cell BK195.out 1).trans rfl
                        have hcz54_2:wr.cell? ⟨gb195,2,none⟩=some (.slice A194_2 ((rd_T47 l0_3 x34_2).f2).length c194_2):=(blk_cell BK195.out 2).trans rfl
                        have hcz54_3:wr.cell? ⟨gb195,3,none⟩=some (.int .i64 ((rd_T47 l0_3 x34_2).f3.f0)):=(blk_cell BK195.out 3).trans rfl
                        have hcz54_4:wr.cell? ⟨gb195,4,none⟩=some (.slice A194_4 ((rd_T47 l0_3 x34_2).f3.f1).length c194_4):=(blk_cell BK195.out 4).trans rfl
                        have hcz54_5:wr.cell? ⟨gb195,5,none⟩=some (.int .i64 ((rd_T47 l0_3 x34_2).f3.f2)):=(blk_cell BK195.out 5).trans rfl
                        have hcz54_6:wr.cell? ⟨gb195,6,none⟩=some (.int .u64 ((rd_T47 l0_3 x34_2).f3.f3)):=(blk_cell BK195.out 6).trans rfl
                        have hcz54_7:wr.cell? ⟨gb195,7,none⟩=some (.string ((rd_T47 l0_3 x34_2).f3.f4)):=(blk_cell BK195.out 7).trans rfl
                        have hcz54_8:wr.cell? ⟨gb195,8,none⟩=some (.int .u64 ((rd_T47 l0_3 x34_2).f3.f5)):=(blk_cell BK195.out 8).trans rfl
                        have hfz54_0:=blk_frozen BK195.out 0
                        have hfz54_1:=blk_frozen BK195.out 1
                        have hfz54_2:=blk_frozen BK195.out 2
                        have hfz54_3:=blk_frozen BK195.out 3
                        have hfz54_4:=blk_frozen BK195.out 4
                        have hfz54_5:=blk_frozen BK195.out 5
                        have hfz54_6:=blk_frozen BK195.out 6
                        have hfz54_7:=blk_frozen BK195.out 7
                        have hfz54_8:=blk_frozen BK195.out 8
                        go_wp2_with (first|((with_reducible refine gate_callee (f:=20) rfl ?_);refine goesL_ (some 72) rfl rfl Tryz.func20 (by kernel_rfl) rfl #[.agg #[.int .i64 ((rd_T47 l0_3 x34_2).f3.f0),.slice A194_4 ((rd_T47 l0_3 x34_2).f3.f1).length c194_4,.int .i64 ((rd_T47 l0_3 x34_2).f3.f2),.int .u64 ((rd_T47 l0_3 x34_2).f3.f3),.string ((rd_T47 l0_3 x34_2).f3.f4),.int .u64 ((rd_T47 l0_3 x34_2).f3.f5)]] rfl (by (try simp only [List.map_toArray,List.map_cons,List.map_nil]);first|done|rfl|(simp only [List.length_drop,List.length_take];rfl)) ?_;(with_reducible refine (doorwardref16_None.calls ((rd_T47 l0_3 x34_2).f3.f0) _ _ ((rd_T47 l0_3 x34_2).f3.f1) ((rd_T47 l0_3 x34_2).f3.f2) ((rd_T47 l0_3 x34_2).f3.f3) ((rd_T47 l0_3 x34_2).f3.f4) ((rd_T47 l0_3 x34_2).f3.f5) true _ ?side1 ?side2 ?side3 A46.out).mono ?_);(case side1 => repeat (first|exact (Kd.C_below HR194_4.out HB.out)|(with_reducible refine Kd.C_alloc ?_ _)|(with_reducible refine Kd.C_drewN ?_ _)|(with_reducible refine Kd.C_drew ?_)));(case side2 => exact HC194_4.out);(case side3 => exact LaidAt.of HLD.out (by repeat (first|(with_reducible first|exact HB.out|apply below_alloc|apply pw_below_drewN|apply below_drew1|refine below_set ?_ GE190.out|refine below_set ?_ GE195.out)|exact HB.out)));rintro e w55 ⟨rfl,hb⟩;refine ⟨_,rfl,?_⟩;have n0_:=Aside0.mk (blk_below (g:=gb190) (o:=.cells #[.string a0_0,.string a0_1,.int .u64 a0_2,.slice (some ad194) l0_3.length c0_3] 25 (0,0)) (by (with_reducible repeat (first|refine zN ?_|refine zD ?_|refine zA ?_));exact BK190.out) hb);have n1_:=Aside0.mk (blk_below (g:=gb195) (o:=.cells #[.string ((rd_T47 l0_3 x34_2).f0),.int .u64 ((rd_T47 l0_3 x34_2).f1),.slice A194_2 ((rd_T47 l0_3 x34_2).f2).length c194_2,.int .i64 ((rd_T47 l0_3 x34_2).f3.f0),.slice A194_4 ((rd_T47 l0_3 x34_2).f3.f1).length c194_4,.int .i64 ((rd_T47 l0_3 x34_2).f3.f2),.int .u64 ((rd_T47 l0_3 x34_2).f3.f3),.string ((rd_T47 l0_3 x34_2).f3.f4),.int .u64 ((rd_T47 l0_3 x34_2).f3.f5)] 47 (0,0)) (by (with_reducible repeat (first|refine zN ?_|refine zD ?_|refine zA ?_));exact BK195.out) hb);have n2_:=Aside0.mk (below_step (by repeat (first|(with_reducible first|exact HB.out|apply below_alloc|apply pw_below_drewN|apply below_drew1|refine below_set ?_ GE190.out|refine below_set ?_ GE195.out)|exact HB.out)) hb);clear BK190;clear BK195;clear HB;have BK190:=n0_;have BK195:=n1_;have HB:=n2_;clear n0_ n1_ n2_;(try clear hb);(try clear hb2);(try clear hk);(try clear hi)))
                        go_roundg k4
                        case measure => have:=HJ1.out;have:=HK2.out;have:=HJ21.out;have:=HK4.out;omega
                        case rel => exact ⟨(x4_4++(⟨#[10]⟩:ByteArray)),(wrap64 (x34_2+1)),(by first|rfl|(simp;done)|(simp [*];done)),(by first|rfl|(simp;done)|(simp [*];done)),H',⟨by have:=HJ1.out;have:=HK2.out;have:=HJ21.out;have:=HK4.out;omega⟩,⟨by (with_reducible repeat (first|refine zN ?_|refine zD ?_|refine zA ?_));exact BK190.out⟩,⟨by repeat (first|(with_reducible first|exact HB.out|apply below_alloc|apply pw_below_drewN|apply below_drew1|refine below_set ?_ GE190.out|refine below_set ?_ GE195.out)|exact HB.out)⟩⟩
                      ·rw [if_neg c48] at H
                       exact absurd H (by simp)
                     ·replace c47:=Bool.eq_false_iff.mpr c47
                      subst c47
                      have H1:((doorwardref16_Right.f k4 ((rd_T47 l0_3 x34_2).f3.f0) ((rd_T47 l0_3 x34_2).f3.f1) ((rd_T47 l0_3 x34_2).f3.f2) ((rd_T47 l0_3 x34_2).f3.f3) ((rd_T47 l0_3 x34_2).f3.f4) ((rd_T47 l0_3 x34_2).f3.f5)).bind fun t201 => (if t201=true then ((doorwardref17_Depth.f k4 ((rd_T47 l0_3 x34_2).f3.f0) ((rd_T47 l0_3 x34_2).f3.f1) ((rd_T47 l0_3 x34_2).f3.f2) ((rd_T47 l0_3 x34_2).f3.f3) ((rd_T47 l0_3 x34_2).f3.f4) ((rd_T47 l0_3 x34_2).f3.f5)).bind fun t202 => (doorwardref17_Print.j4 k4 x4_4 l0_3 (l0_3.length:Int) x34_2 (decide (t202>8)) ((rd_T47 l0_3 x34_2).f0) ((rd_T47 l0_3 x34_2).f1) ((rd_T47 l0_3 x34_2).f2) ((rd_T47 l0_3 x34_2).f3.f0) ((rd_T47 l0_3 x34_2).f3.f1) ((rd_T47 l0_3 x34_2).f3.f2) ((rd_T47 l0_3 x34_2).f3.f3) ((rd_T47 l0_3 x34_2).f3.f4) ((rd_T47 l0_3 x34_2).f3.f5))) else (doorwardref17_Print.j4 k4 x4_4 l0_3 (l0_3.length:Int) x34_2 true ((rd_T47 l0_3 x34_2).f0) ((rd_T47 l0_3 x34_2).f1) ((rd_T47 l0_3 x34_2).f2) ((rd_T47 l0_3 x34_2).f3.f0) ((rd_T47 l0_3 x34_2).f3.f1) ((rd_T47 l0_3 x34_2).f3.f2) ((rd_T47 l0_3 x34_2).f3.f3) ((rd_T47 l0_3 x34_2).f3.f4) ((rd_T47 l0_3 x34_2).f3.f5))))=some (r1,r2):=by rw [if_neg (show ¬ (false=true) by decide)] at H;exact H
                      clear H
                      have H:=H1
                      clear H1
                      have HC56:=Aside0.mk H
                      clear H
                      have hnb57:=NB195_190.out
                      have hnc57:=NB190_195.out
                      have hcz58_0:wr.cell? ⟨gb195,0,none⟩=some (.string ((rd_T47 l0_3 x34_2).f0)):=(blk_cell BK195.out 0).trans rfl
                      have hcz58_1:wr.cell? ⟨gb195,1,none⟩=some (.int .u64 ((rd_T47 l0_3 x34_2).f1)):=(blk_cell BK195.out 1).trans rfl
                      have hcz58_2:wr.cell? ⟨gb195,2,none⟩=some (.slice A194_2 ((rd_T47 l0_3 x34_2).f2).length c194_2):=(blk_cell BK195.out 2).trans rfl
                      have hcz58_3:wr.cell? ⟨gb195,3,none⟩=some (.int .i64 ((rd_T47 l0_3 x34_2).f3.f0)):=(blk_cell BK195.out 3).trans rfl
                      have hcz58_4:wr.cell? ⟨gb195,4,none⟩=some (.slice A194_4 ((rd_T47 l0_3 x34_2).f3.f1).length c194_4):=(blk_cell BK195.out 4).trans rfl
                      have hcz58_5:wr.cell? ⟨gb195,5,none⟩=some (.int .i64 ((rd_T47 l0_3 x34_2).f3.f2)):=(blk_cell BK195.out 5).trans rfl
                      have hcz58_6:wr.cell? ⟨gb195,6,none⟩=some (.int .u64 ((rd_T47 l0_3 x34_2).f3.f3)):=(blk_cell BK195.out 6).trans rfl
                      have hcz58_7:wr.cell? ⟨gb195,7,none⟩=some (.string ((rd_T47 l0_3 x34_2).f3.f4)):=(blk_cell BK195.out 7).trans rfl
                      have hcz58_8:wr.cell? ⟨gb195,8,none⟩=some (.int .u64 ((rd_T47 l0_3 x34_2).f3.f5)):=(blk_cell BK195.out 8).trans rfl
                      have hfz58_0:=blk_frozen BK195.out 0
                      have hfz58_1:=blk_frozen BK195.out 1
                      have hfz58_2:=blk_frozen BK195.out 2
                      have hfz58_3:=blk_frozen BK195.out 3
                      have hfz58_4:=blk_frozen BK195.out 4
                      have hfz58_5:=blk_frozen BK195.out 5
                      have hfz58_6:=blk_frozen BK195.out 6
                      have hfz58_7:=blk_frozen BK195.out 7
                      have hfz58_8:=blk_frozen BK195.out 8
                      go_upto_region 18 with (first|((with_reducible refine gate_callee (f:=20) rfl ?_);refine goesL_ (some 72) rfl rfl Tryz.func20 (by kernel_rfl) rfl #[.agg #[.int .i64 ((rd_T47 l0_3 x34_2).f3.f0),.slice A194_4 ((rd_T47 l0_3 x34_2).f3.f1).length c194_4,.int .i64 ((rd_T47 l0_3 x34_2).f3.f2),.int .u64 ((rd_T47 l0_3 x34_2).f3.f3),.string ((rd_T47 l0_3 x34_2).f3.f4),.int .u64 ((rd_T47 l0_3 x34_2).f3.f5)]] rfl (by (try simp only [List.map_toArray,List.map_cons,List.map_nil]);first|done|rfl|(simp only [List.length_drop,List.length_take];rfl)) ?_;(with_reducible refine (doorwardref16_None.calls ((rd_T47 l0_3 x34_2).f3.f0) _ _ ((rd_T47 l0_3 x34_2).f3.f1) ((rd_T47 l0_3 x34_2).f3.f2) ((rd_T47 l0_3 x34_2).f3.f3) ((rd_T47 l0_3 x34_2).f3.f4) ((rd_T47 l0_3 x34_2).f3.f5) false _ ?side1 ?side2 ?side3 A46.out).mono ?_);(case side1 => repeat (first|exact (Kd.C_below HR194_4.out HB.out)|(with_reducible refine Kd.C_alloc ?_ _)|(with_reducible refine Kd.C_drewN ?_ _)|(with_reducible refine Kd.C_drew ?_)));(case side2 => exact HC194_4.out);(case side3 => exact LaidAt.of HLD.out (by repeat (first|(with_reducible first|exact HB.out|apply below_alloc|apply pw_below_drewN|apply below_drew1|refine below_set ?_ GE190.out|refine below_set ?_ GE195.out)|exact HB.out)));rintro e w59 ⟨rfl,hb⟩;refine ⟨_,rfl,?_⟩;have n0_:=Aside0.mk (blk_below (g:=gb190) (o:=.cells #[.string a0_0,.string a0_1,.int .u64 a0_2,.slice (some ad194) l0_3.length c0_3] 25 (0,0)) (by (with_reducible repeat (first|refine zN ?_|refine zD ?_|refine zA ?_));exact BK190.out) hb);have n1_:=Aside0.mk (blk_below (g:=gb195) (o:=.cells #[.string ((rd_T47 l0_3 x34_2).f0),.int .u64 ((rd_T47 l0_3 x34_2).f1),.slice A194_2 ((rd_T47 l0_3 x34_2).f2).length c194_2,.int .i64 ((rd_T47 l0_3 x34_2).f3.f0),.slice A194_4 ((rd_T47 l0_3 x34_2).f3.f1).length c194_4,.int .i64 ((rd_T47 l0_3 x34_2).f3.f2),.int .u64 ((rd_T47 l0_3 x34_2).f3.f3),.string ((rd_T47 l0_3 x34_2).f3.f4),.int .u64 ((rd_T47 l0_3 x34_2).f3.f5)] 47 (0,0)) (by (with_reducible repeat (first|refine zN ?_|refine zD ?_|refine zA ?_));exact BK195.out) hb);have n2_:=Aside0.mk (below_step (by repeat (first|(with_reducible first|exact HB.out|apply below_alloc|apply pw_below_drewN|apply below_drew1|refine below_set ?_ GE190.out|refine below_set ?_ GE195.out)|exact HB.out)) hb);clear BK190;clear BK195;clear HB;have BK190:=n0_;have BK195:=n1_;have HB:=n2_;clear n0_ n1_ n2_;(try clear hb);(try clear hb2);(try clear hk);(try clear hi)))
                      (try simp only [Act.put,List.setIfInBounds_toArray,List.set_cons_zero,List.set_cons_succ])
                      go_cut [83] (fun v83 wc =>∃(kq:Nat) (x83_55:Bool),v83=.bool x83_55∧Aside0 (doorwardref17_Print.j4 kq x4_4 l0_3 (l0_3.length:Int) x34_2 x83_55 ((rd_T47 l0_3 x34_2).f0) ((rd_T47 l0_3 x34_2).f1) ((rd_T47 l0_3 x34_2).f2) ((rd_T47 l0_3 x34_2).f3.f0) ((rd_T47 l0_3 x34_2).f3.f1) ((rd_T47 l0_3 x34_2).f3.f2) ((rd_T47 l0_3 x34_2).f3.f3) ((rd_T47 l0_3 x34_2).f3.f4) ((rd_T47 l0_3 x34_2).f3.f5)=some (r1,r2))∧Aside0 (kq≤k4)∧Aside0 (wc.heap[gb190]?=some (.cells #[.string a0_0,.string a0_1,.int .u64 a0_2,(.slice (some ad194) l0_3.length c0_3)] 25 (0,0)))∧Aside0 (wc.heap[gb195]?=some (.cells #[.string ((rd_T47 l0_3 x34_2).f0),.int .u64 ((rd_T47 l0_3 x34_2).f1),(.slice A194_2 ((rd_T47 l0_3 x34_2).f2).length c194_2),.int .i64 ((rd_T47 l0_3 x34_2).f3.f0),(.slice A194_4 ((rd_T47 l0_3 x34_2).f3.f1).length c194_4),.int .i64 ((rd_T47 l0_3 x34_2).f3.f2),.int .u64 ((rd_T47 l0_3 x34_2).f3.f3),.string ((rd_T47 l0_3 x34_2).f3.f4),.int .u64 ((rd_T47 l0_3 x34_2).f3.f5)] 47 (0,0)))∧Aside0 (Below w.heap.size w wc))
                      case first =>
                       have H:=HC56.out
                       clear HC56
                       replace H:=Option.bind_eq_some_iff.mp H
                       obtain ⟨t201,A600,H⟩:=H
                       replace H:(if t201=true then ((doorwardref17_Depth.f k4 ((rd_T47 l0_3 x34_2).f3.f0) ((rd_T47 l0_3 x34_2).f3.f1) ((rd_T47 l0_3 x34_2).f3.f2) ((rd_T47 l0_3 x34_2).f3.f3) ((rd_T47 l0_3 x34_2).f3.f4) ((rd_T47 l0_3 x34_2).f3.f5)).bind fun t202 => (doorwardref17_Print.j4 k4 x4_4 l0_3 (l0_3.length:Int) x34_2 (decide (t202>8)) ((rd_T47 l0_3 x34_2).f0) ((rd_T47 l0_3 x34_2).f1) ((rd_T47 l0_3 x34_2).f2) ((rd_T47 l0_3 x34_2).f3.f0) ((rd_T47 l0_3 x34_2).f3.f1) ((rd_T47 l0_3 x34_2).f3.f2) ((rd_T47 l0_3 x34_2).f3.f3) ((rd_T47 l0_3 x34_2).f3.f4) ((rd_T47 l0_3 x34_2).f3.f5))) else (doorwardref17_Print.j4 k4 x4_4 l0_3 (l0_3.length:Int) x34_2 true ((rd_T47 l0_3 x34_2).f0) ((rd_T47 l0_3 x34_2).f1) ((rd_T47 l0_3 x34_2).f2) ((rd_T47 l0_3 x34_2).f3.f0) ((rd_T47 l0_3 x34_2).f3.f1) ((rd_T47 l0_3 x34_2).f3.f2) ((rd_T47 l0_3 x34_2).f3.f3) ((rd_T47 l0_3 x34_2).f3.f4) ((rd_T47 l0_3 x34_2).f3.f5)))=some (r1,r2):=H
                       have A60:=Aside0.mk A600
                       clear A600
                       by_cases c61:t201=true
                       ·subst c61
                        have H1:((doorwardref17_Depth.f k4 ((rd_T47 l0_3 x34_2).f3.f0) ((rd_T47 l0_3 x34_2).f3.f1) ((rd_T47 l0_3 x34_2).f3.f2) ((rd_T47 l0_3 x34_2).f3.f3) ((rd_T47 l0_3 x34_2).f3.f4) ((rd_T47 l0_3 x34_2).f3.f5)).bind fun t202 => (doorwardref17_Print.j4 k4 x4_4 l0_3 (l0_3.length:Int) x34_2 (decide (t202>8)) ((rd_T47 l0_3 x34_2).f0) ((rd_T47 l0_3 x34_2).f1) ((rd_T47 l0_3 x34_2).f2) ((rd_T47 l0_3 x34_2).f3.f0) ((rd_T47 l0_3 x34_2).f3.f1) ((rd_T47 l0_3 x34_2).f3.f2) ((rd_T47 l0_3 x34_2).f3.f3) ((rd_T47 l0_3 x34_2).f3.f4) ((rd_T47 l0_3 x34_2).f3.f5)))=some (r1,r2):=by rw [if_pos rfl] at H;exact H
                        clear H
                        have H:=H1
                        clear H1
                        replace H:=Option.bind_eq_some_iff.mp H
                        obtain ⟨t202,A620,H⟩:=H
                        replace H:(doorwardref17_Print.j4 k4 x4_4 l0_3 (l0_3.length:Int) x34_2 (decide (t202>8)) ((rd_T47 l0_3 x34_2).f0) ((rd_T47 l0_3 x34_2).f1) ((rd_T47 l0_3 x34_2).f2) ((rd_T47 l0_3 x34_2).f3.f0) ((rd_T47 l0_3 x34_2).f3.f1) ((rd_T47 l0_3 x34_2).f3.f2) ((rd_T47 l0_3 x34_2).f3.f3) ((rd_T47 l0_3 x34_2).f3.f4) ((rd_T47 l0_3 x34_2).f3.f5))=some (r1,r2):=H
                        have A62:=Aside0.mk A620
                        clear A620
                        have H':=Aside0.mk H
                        clear H
                        have hnb63:=NB195_190.out
                        have hnc63:=NB190_195.out
                        have hcz64_0:w59.cell? ⟨gb195,0,none⟩=some (.string ((rd_T47 l0_3 x34_2).f0)):=(blk_cell BK195.out 0).trans rfl
                        have hcz64_1:w59.cell? ⟨gb195,1,none⟩=some (.int .u64 ((rd_T47 l0_3 x34_2).f1)):=(blk_cell BK195.out 1).trans rfl
                        have hcz64_2:w59.cell? ⟨gb195,2,none⟩=some (.slice A194_2 ((rd_T47 l0_3 x34_2).f2).length c194_2):=(blk_cell BK195.out 2).trans rfl
                        have hcz64_3:w59.cell? ⟨gb195,3,none⟩=some (.int .i64 ((rd_T47 l0_3 x34_2).f3.f0)):=(blk_cell BK195.out 3).trans rfl
                        have hcz64_4:w59.cell? ⟨gb195,4,none⟩=some (.slice A194_4 ((rd_T47 l0_3 x34_2).f3.f1).length c194_4):=(blk_cell BK195.out 4).trans rfl
                        have hcz64_5:w59.cell? ⟨gb195,5,none⟩=some (.int .i64 ((rd_T47 l0_3 x34_2).f3.f2)):=(blk_cell BK195.out 5).trans rfl
                        have hcz64_6:w59.cell? ⟨gb195,6,none⟩=some (.int .u64 ((rd_T47 l0_3 x34_2).f3.f3)):=(blk_cell BK195.out 6).trans rfl
                        have hcz64_7:w59.cell? ⟨gb195,7,none⟩=some (.string ((rd_T47 l0_3 x34_2).f3.f4)):=(blk_cell BK195.out 7).trans rfl
                        have hcz64_8:w59.cell? ⟨gb195,8,none⟩=some (.int .u64 ((rd_T47 l0_3 x34_2).f3.f5)):=(blk_cell BK195.out 8).trans rfl
                        have hfz64_0:=blk_frozen BK195.out 0
                        have hfz64_1:=blk_frozen BK195.out 1
                        have hfz64_2:=blk_frozen BK195.out 2
                        have hfz64_3:=blk_frozen BK195.out 3
                        have hfz64_4:=blk_frozen BK195.out 4
                        have hfz64_5:=blk_frozen BK195.out 5
                        have hfz64_6:=blk_frozen BK195.out 6
                        have hfz64_7:=blk_frozen BK195.out 7
                        have hfz64_8:=blk_frozen BK195.out 8
                        go_wp2_with (first|((with_reducible refine gate_callee (f:=13) rfl ?_);refine goesL_ (some 76) rfl rfl Tryz.func13 (by kernel_rfl) rfl #[.agg #[.int .i64 ((rd_T47 l0_3 x34_2).f3.f0),.slice A194_4 ((rd_T47 l0_3 x34_2).f3.f1).length c194_4,.int .i64 ((rd_T47 l0_3 x34_2).f3.f2),.int .u64 ((rd_T47 l0_3 x34_2).f3.f3),.string ((rd_T47 l0_3 x34_2).f3.f4),.int .u64 ((rd_T47 l0_3 x34_2).f3.f5)]] rfl (by (try simp only [List.map_toArray,List.map_cons,List.map_nil]);first|done|rfl|(simp only [List.length_drop,List.length_take];rfl)) ?_;(with_reducible refine (doorwardref16_Right.calls k4 ((rd_T47 l0_3 x34_2).f3.f0) _ _ ((rd_T47 l0_3 x34_2).f3.f1) ((rd_T47 l0_3 x34_2).f3.f2) ((rd_T47 l0_3 x34_2).f3.f3) ((rd_T47 l0_3 x34_2).f3.f4) ((rd_T47 l0_3 x34_2).f3.f5) true _ ?side1 ?side2 ?side3 A60.out).mono ?_);(case side1 => repeat (first|exact (Kd.C_below HR194_4.out HB.out)|(with_reducible refine Kd.C_alloc ?_ _)|(with_reducible refine Kd.C_drewN ?_ _)|(with_reducible refine Kd.C_drew ?_)));(case side2 => exact HC194_4.out);(case side3 => exact LaidAt.of HLD.out (by repeat (first|(with_reducible first|exact HB.out|apply below_alloc|apply pw_below_drewN|apply below_drew1|refine below_set ?_ GE190.out|refine below_set ?_ GE195.out)|exact HB.out)));rintro e w65 ⟨rfl,hb⟩;refine ⟨_,rfl,?_⟩;have n0_:=Aside0.mk (blk_below (g:=gb190) (o:=.cells #[.string a0_0,.string a0_1,.int .u64 a0_2,.slice (some ad194) l0_3.length c0_3] 25 (0,0)) (by (with_reducible repeat (first|refine zN ?_|refine zD ?_|refine zA ?_));exact BK190.out) hb);have n1_:=Aside0.mk (blk_below (g:=gb195) (o:=.cells #[.string ((rd_T47 l0_3 x34_2).f0),.int .u64 ((rd_T47 l0_3 x34_2).f1),.slice A194_2 ((rd_T47 l0_3 x34_2).f2).length c194_2,.int .i64 ((rd_T47 l0_3 x34_2).f3.f0),.slice A194_4 ((rd_T47 l0_3 x34_2).f3.f1).length c194_4,.int .i64 ((rd_T47 l0_3 x34_2).f3.f2),.int .u64 ((rd_T47 l0_3 x34_2).f3.f3),.string ((rd_T47 l0_3 x34_2).f3.f4),.int .u64 ((rd_T47 l0_3 x34_2).f3.f5)] 47 (0,0)) (by (with_reducible repeat (first|refine zN ?_|refine zD ?_|refine zA ?_));exact BK195.out) hb);have n2_:=Aside0.mk (below_step (by repeat (first|(with_reducible first|exact HB.out|apply below_alloc|apply pw_below_drewN|apply below_drew1|refine below_set ?_ GE190.out|refine below_set ?_ GE195.out)|exact HB.out)) hb);clear BK190;clear BK195;clear HB;have BK190:=n0_;have BK195:=n1_;have HB:=n2_;clear n0_ n1_ n2_;(try clear hb);(try clear hb2);(try clear hk);(try clear hi);have hcz66_0:w65.cell? ⟨gb195,0,none⟩=some (.string ((rd_T47 l0_3 x34_2).f0)):=(blk_cell BK195.out 0).trans rfl;have hcz66_1:w65.cell? ⟨gb195,1,none⟩=some (.int .u64 ((rd_T47 l0_3 x34_2).f1)):=(blk_cell BK195.out 1).trans rfl;have hcz66_2:w65.cell? ⟨gb195,2,none⟩=some (.slice A194_2 ((rd_T47 l0_3 x34_2).f2).length c194_2):=(blk_cell BK195.out 2).trans rfl;have hcz66_3:w65.cell? ⟨gb195,3,none⟩=some (.int .i64 ((rd_T47 l0_3 x34_2).f3.f0)):=(blk_cell BK195.out 3).trans rfl;have hcz66_4:w65.cell? ⟨gb195,4,none⟩=some (.slice A194_4 ((rd_T47 l0_3 x34_2).f3.f1).length c194_4):=(blk_cell BK195.out 4).trans rfl;have hcz66_5:w65.cell? ⟨gb195,5,none⟩=some (.int .i64 ((rd_T47 l0_3 x34_2).f3.f2)):=(blk_cell BK195.out 5).trans rfl;have hcz66_6:w65.cell? ⟨gb195,6,none⟩=some (.int .u64 ((rd_T47 l0_3 x34_2).f3.f3)):=(blk_cell BK195.out 6).trans rfl;have hcz66_7:w65.cell? ⟨gb195,7,none⟩=some (.string ((rd_T47 l0_3 x34_2).f3.f4)):=(blk_cell BK195.out 7).trans rfl;have hcz66_8:w65.cell? ⟨gb195,8,none⟩=some (.int .u64 ((rd_T47 l0_3 x34_2).f3.f5)):=(blk_cell BK195.out 8).trans rfl;have hfz66_0:=blk_frozen BK195.out 0;have hfz66_1:=blk_frozen BK195.out 1;have hfz66_2:=blk_frozen BK195.out 2;have hfz66_3:=blk_frozen BK195.out 3;have hfz66_4:=blk_frozen BK195.out 4;have hfz66_5:=blk_frozen BK195.out 5;have hfz66_6:=blk_frozen BK195.out 6;have hfz66_7:=blk_frozen BK195.out 7;have hfz66_8:=blk_frozen BK195.out 8)|(go_at_call 21;(with_reducible refine (doorwardref17_Depth.calls k4 ((rd_T47 l0_3 x34_2).f3.f0) _ _ ((rd_T47 l0_3 x34_2).f3.f1) ((rd_T47 l0_3 x34_2).f3.f2) ((rd_T47 l0_3 x34_2).f3.f3) ((rd_T47 l0_3 x34_2).f3.f4) ((rd_T47 l0_3 x34_2).f3.f5) t202 _ ?side1 ?side2 ?side3 A62.out).mono ?_);(case side1 => repeat (first|exact (Kd.C_below HR194_4.out HB.out)|(with_reducible refine Kd.C_alloc ?_ _)|(with_reducible refine Kd.C_drewN ?_ _)|(with_reducible refine Kd.C_drew ?_)));(case side2 => exact HC194_4.out);(case side3 => exact LaidAt.of HLD.out (by repeat (first|(with_reducible first|exact HB.out|apply below_alloc|apply pw_below_drewN|apply below_drew1|refine below_set ?_ GE190.out|refine below_set ?_ GE195.out)|exact HB.out)));rintro e w67 ⟨rfl,hb⟩;have n0_:=Aside0.mk (blk_below (g:=gb190) (o:=.cells #[.string a0_0,.string a0_1,.int .u64 a0_2,.slice (some ad194) l0_3.length c0_3] 25 (0,0)) (by (with_reducible repeat (first|refine zN ?_|refine zD ?_|refine zA ?_));exact BK190.out) hb);have n1_:=Aside0.mk (blk_below (g:=gb195) (o:=.cells #[.string ((rd_T47 l0_3 x34_2).f0),.int .u64 ((rd_T47 l0_3 x34_2).f1),.slice A194_2 ((rd_T47 l0_3 x34_2).f2).length c194_2,.int .i64 ((rd_T47 l0_3 x34_2).f3.f0),.slice A194_4 ((rd_T47 l0_3 x34_2).f3.f1).length c194_4,.int .i64 ((rd_T47 l0_3 x34_2).f3.f2),.int .u64 ((rd_T47 l0_3 x34_2).f3.f3),.string ((rd_T47 l0_3 x34_2).f3.f4),.int .u64 ((rd_T47 l0_3 x34_2).f3.f5)] 47 (0,0)) (by (with_reducible repeat (first|refine zN ?_|refine zD ?_|refine zA ?_));exact BK195.out) hb);have n2_:=Aside0.mk (below_step (by repeat (first|(with_reducible first|exact HB.out|apply below_alloc|apply pw_below_drewN|apply below_drew1|refine below_set ?_ GE190.out|refine below_set ?_ GE195.out)|exact HB.out)) hb);clear BK190;clear BK195;clear HB;have BK190:=n0_;have BK195:=n1_;have HB:=n2_;clear n0_ n1_ n2_;(try clear hb);(try clear hb2);(try clear hk);(try clear hi)))
                        go_meet
                        case rel => exact ⟨_,(decide (t202>8)),(by first|rfl|(simp;done)|(simp [*];done)),H',⟨by have:=HJ1.out;have:=HK2.out;have:=HJ21.out;have:=HK4.out;first|omega|exact Nat.le_refl _⟩,⟨by (with_reducible repeat (first|refine zN ?_|refine zD ?_|refine zA ?_));exact BK190.out⟩,⟨by (with_reducible repeat (first|refine zN ?_|refine zD ?_|refine zA ?_));exact BK195.out⟩,⟨by repeat (first|(with_reducible first|exact HB.out|apply below_alloc|apply pw_below_drewN|apply below_drew1|refine below_set ?_ GE190.out|refine below_set ?_ GE195.out)|exact HB.out)⟩⟩
                       ·replace c61:=Bool.eq_false_iff.mpr c61
                        subst c61
                        have H1:(doorwardref17_Print.j4 k4 x4_4 l0_3 (l0_3.length:Int) x34_2 true ((rd_T47 l0_3 x34_2).f0) ((rd_T47 l0_3 x34_2).f1) ((rd_T47 l0_3 x34_2).f2) ((rd_T47 l0_3 x34_2).f3.f0) ((rd_T47 l0_3 x34_2).f3.f1) ((rd_T47 l0_3 x34_2).f3.f2) ((rd_T47 l0_3 x34_2).f3.f3) ((rd_T47 l0_3 x34_2).f3.f4) ((rd_T47 l0_3 x34_2).f3.f5))=some (r1,r2):=by rw [if_neg (show ¬ (false=true) by decide)] at H;exact H
                        clear H
                        have H:=H1
                        clear H1
                        have H':=Aside0.mk H
                        clear H
                        have hnb68:=NB195_190.out
                        have hnc68:=NB190_195.out
                        have hcz69_0:w59.cell? ⟨gb195,0,none⟩=some (.string ((rd_T47 l0_3 x34_2).f0)):=(blk_cell BK195.out 0).trans rfl
                        have hcz69_1:w59.cell? ⟨gb195,1,none⟩=some (.int .u64 ((rd_T47 l0_3 x34_2).f1)):=(blk_cell BK195.out 1).trans rfl
                        have hcz69_2:w59.cell? ⟨gb195,2,none⟩=some (.slice A194_2 ((rd_T47 l0_3 x34_2).f2).length c194_2):=(blk_cell BK195.out 2).trans rfl
                        have hcz69_3:w59.cell? ⟨gb195,3,none⟩=some (.int .i64 ((rd_T47 l0_3 x34_2).f3.f0)):=(blk_cell BK195.out 3).trans rfl
                        have hcz69_4:w59.cell? ⟨gb195,4,none⟩=some (.slice A194_4 ((rd_T47 l0_3 x34_2).f3.f1).length c194_4):=(blk_cell BK195.out 4).trans rfl
                        have hcz69_5:w59.cell? ⟨gb195,5,none⟩=some (.int .i64 ((rd_T47 l0_3 x34_2).f3.f2)):=(blk_cell BK195.out 5).trans rfl
                        have hcz69_6:w59.cell? ⟨gb195,6,none⟩=some (.int .u64 ((rd_T47 l0_3 x34_2).f3.f3)):=(blk_cell BK195.out 6).trans rfl
                        have hcz69_7:w59.cell? ⟨gb195,7,none⟩=some (.string ((rd_T47 l0_3 x34_2).f3.f4)):=(blk_cell BK195.out 7).trans rfl
                        have hcz69_8:w59.cell? ⟨gb195,8,none⟩=some (.int .u64 ((rd_T47 l0_3 x34_2).f3.f5)):=(blk_cell BK195.out 8).trans rfl
                        have hfz69_0:=blk_frozen BK195.out 0
                        have hfz69_1:=blk_frozen BK195.out 1
                        have hfz69_2:=blk_frozen BK195.out 2
                        have hfz69_3:=blk_frozen BK195.out 3
                        have hfz69_4:=blk_frozen BK195.out 4
                        have hfz69_5:=blk_frozen BK195.out 5
                        have hfz69_6:=blk_frozen BK195.out 6
                        have hfz69_7:=blk_frozen BK195.out 7
                        have hfz69_8:=blk_frozen BK195.out 8
                        go_wp2_with (first|((with_reducible refine gate_callee (f:=13) rfl ?_);refine goesL_ (some 76) rfl rfl Tryz.func13 (by kernel_rfl) rfl #[.agg #[.int .i64 ((rd_T47 l0_3 x34_2).f3.f0),.slice A194_4 ((rd_T47 l0_3 x34_2).f3.f1).length c194_4,.int .i64 ((rd_T47 l0_3 x34_2).f3.f2),.int .u64 ((rd_T47 l0_3 x34_2).f3.f3),.string ((rd_T47 l0_3 x34_2).f3.f4),.int .u64 ((rd_T47 l0_3 x34_2).f3.f5)]] rfl (by (try simp only [List.map_toArray,List.map_cons,List.map_nil]);first|done|rfl|(simp only [List.length_drop,List.length_take];rfl)) ?_;(with_reducible refine (doorwardref16_Right.calls k4 ((rd_T47 l0_3 x34_2).f3.f0) _ _ ((rd_T47 l0_3 x34_2).f3.f1) ((rd_T47 l0_3 x34_2).f3.f2) ((rd_T47 l0_3 x34_2).f3.f3) ((rd_T47 l0_3 x34_2).f3.f4) ((rd_T47 l0_3 x34_2).f3.f5) false _ ?side1 ?side2 ?side3 A60.out).mono ?_);(case side1 => repeat (first|exact (Kd.C_below HR194_4.out HB.out)|(with_reducible refine Kd.C_alloc ?_ _)|(with_reducible refine Kd.C_drewN ?_ _)|(with_reducible refine Kd.C_drew ?_)));(case side2 => exact HC194_4.out);(case side3 => exact LaidAt.of HLD.out (by repeat (first|(with_reducible first|exact HB.out|apply below_alloc|apply pw_below_drewN|apply below_drew1|refine below_set ?_ GE190.out|refine below_set ?_ GE195.out)|exact HB.out)));rintro e w70 ⟨rfl,hb⟩;refine ⟨_,rfl,?_⟩;have n0_:=Aside0.mk (blk_below (g:=gb190) (o:=.cells #[.string a0_0,.string a0_1,.int .u64 a0_2,.slice (some ad194) l0_3.length c0_3] 25 (0,0)) (by (with_reducible repeat (first|refine zN ?_|refine zD ?_|refine zA ?_));exact BK190.out) hb);have n1_:=Aside0.mk (blk_below (g:=gb195) (o:=.cells #[.string ((rd_T47 l0_3 x34_2).f0),.int .u64 ((rd_T47 l0_3 x34_2).f1),.slice A194_2 ((rd_T47 l0_3 x34_2).f2).length c194_2,.int .i64 ((rd_T47 l0_3 x34_2).f3.f0),.slice A194_4 ((rd_T47 l0_3 x34_2).f3.f1).length c194_4,.int .i64 ((rd_T47 l0_3 x34_2).f3.f2),.int .u64 ((rd_T47 l0_3 x34_2).f3.f3),.string ((rd_T47 l0_3 x34_2).f3.f4),.int .u64 ((rd_T47 l0_3 x34_2).f3.f5)] 47 (0,0)) (by (with_reducible repeat (first|refine zN ?_|refine zD ?_|refine zA ?_));exact BK195.out) hb);have n2_:=Aside0.mk (below_step (by repeat (first|(with_reducible first|exact HB.out|apply below_alloc|apply pw_below_drewN|apply below_drew1|refine below_set ?_ GE190.out|refine below_set ?_ GE195.out)|exact HB.out)) hb);clear BK190;clear BK195;clear HB;have BK190:=n0_;have BK195:=n1_;have HB:=n2_;clear n0_ n1_ n2_;(try clear hb);(try clear hb2);(try clear hk);(try clear hi)))
                        go_meet
                        case rel => exact ⟨_,(true),(by first|rfl|(simp;done)|(simp [*];done)),H',⟨by have:=HJ1.out;have:=HK2.out;have:=HJ21.out;have:=HK4.out;first|omega|exact Nat.le_refl _⟩,⟨by (with_reducible repeat (first|refine zN ?_|refine zD ?_|refine zA ?_));exact BK190.out⟩,⟨by (with_reducible repeat (first|refine zN ?_|refine zD ?_|refine zA ?_));exact BK195.out⟩,⟨by repeat (first|(with_reducible first|exact HB.out|apply below_alloc|apply pw_below_drewN|apply below_drew1|refine below_set ?_ GE190.out|refine below_set ?_ GE195.out)|exact HB.out)⟩⟩
                      case rest =>
                       clear HC56
                       obtain ⟨kq,x83_55,rfl,HA,HJ55,BK190,BK195,HB⟩:=hcut
                       cases kq with
                       |  zero => exact absurd HA.out (by simp [doorwardref17_Print.j4])
                       |  succ kj55 =>
                        have H:=HA.out
                        clear HA
                        simp only [doorwardref17_Print.j4] at H
                        by_cases c71:x83_55=true
                        ·subst c71
                         have H1:(some ((⟨#[]⟩:ByteArray),1))=some (r1,r2):=by rw [if_pos rfl] at H;exact H
                         clear H
                         have H:=H1
                         clear H1
                         simp only [Option.some.injEq,Prod.mk.injEq] at H
                         obtain ⟨rfl,rfl⟩:=H
                         go_wp2
                         go_ret2
                         exact ⟨by first|rfl|(simp [errW_none,errW_some]<;>rfl)|(simp [*,errW_none,errW_some]<;>rfl),by repeat (first|(with_reducible first|exact HB.out|apply below_alloc|apply pw_below_drewN|apply below_drew1|refine below_set ?_ GE190.out|refine below_set ?_ GE195.out)|exact HB.out)⟩
                        ·replace c71:=Bool.eq_false_iff.mpr c71
                         subst c71
                         have H1:(if x4_4.size+4≤9223372036854775807 then ((doorwardref17_Text.f ((rd_T47 l0_3 x34_2).f3.f0) ((rd_T47 l0_3 x34_2).f3.f1) ((rd_T47 l0_3 x34_2).f3.f2) ((rd_T47 l0_3 x34_2).f3.f3) ((rd_T47 l0_3 x34_2).f3.f4) ((rd_T47 l0_3 x34_2).f3.f5)).bind fun t203 => (if (x4_4++(⟨#[32,105,102,32]⟩:ByteArray)).size+t203.size≤9223372036854775807 then (if ((x4_4++(⟨#[32,105,102,32]⟩:ByteArray))++t203).size+1≤9223372036854775807 then (if ((((x4_4++(⟨#[32,105,102,32]⟩:ByteArray))++t203)++(⟨#[10]⟩:ByteArray)).size:Int)>2000 then (some ((⟨#[]⟩:ByteArray),1)) else (doorwardref17_Print.l0 kj55 (((x4_4++(⟨#[32,105,102,32]⟩:ByteArray))++t203)++(⟨#[10]⟩:ByteArray)) l0_3 (l0_3.length:Int) (wrap64 (x34_2+1)))) else (none)) else (none))) else (none))=some (r1,r2):=by rw [if_neg (show ¬ (false=true) by decide)] at H;exact H
                         clear H
                         have H:=H1
                         clear H1
                         by_cases c72:x4_4.size+4≤9223372036854775807
                         ·rw [if_pos c72] at H
                          have c72b0:=eq_true c72
                          have c72b1:decide (x4_4.size+4≤9223372036854775807)=true:=decide_eq_true c72
                          try have c72b2:(9223372036854775807<x4_4.size+4)=False:=eq_false (Nat.not_lt.2 c72)
                          replace H:=Option.bind_eq_some_iff.mp H
                          obtain ⟨t203,A730,H⟩:=H
                          replace H:(if (x4_4++(⟨#[32,105,102,32]⟩:ByteArray)).size+t203.size≤9223372036854775807 then (if ((x4_4++(⟨#[32,105,102,32]⟩:ByteArray))++t203).size+1≤9223372036854775807 then (if ((((x4_4++(⟨#[32,105,102,32]⟩:ByteArray))++t203)++(⟨#[10]⟩:ByteArray)).size:Int)>2000 then (some ((⟨#[]⟩:ByteArray),1)) else (doorwardref17_Print.l0 kj55 (((x4_4++(⟨#[32,105,102,32]⟩:ByteArray))++t203)++(⟨#[10]⟩:ByteArray)) l0_3 (l0_3.length:Int) (wrap64 (x34_2+1)))) else (none)) else (none))=some (r1,r2):=H
                          have A73:=Aside0.mk A730
                          clear A730
                          by_cases c74:(x4_4++(⟨#[32,105,102,32]⟩:ByteArray)).size+t203.size≤9223372036854775807
                          ·rw [if_pos c74] at H
                           have c74b0:=eq_true c74
                           have c74b1:decide ((x4_4++(⟨#[32,105,102,32]⟩:ByteArray)).size+t203.size≤9223372036854775807)=true:=decide_eq_true c74
                           try have c74b2:(9223372036854775807<(x4_4++(⟨#[32,105,102,32]⟩:ByteArray)).size+t203.size)=False:=eq_false (Nat.not_lt.2 c74)
                           try have c74b3:(9223372036854775807<x4_4.size+4+t203.size)=False:=eq_false (by have h_:=c74;simp only [ByteArray.size_append] at h_;have e0_:(⟨#[32,105,102,32]⟩:ByteArray).size=4:=rfl;omega)
                           by_cases c75:((x4_4++(⟨#[32,105,102,32]⟩:ByteArray))++t203).size+1≤9223372036854775807
                           ·rw [if_pos c75] at H
                            have c75b0:=eq_true c75
                            have c75b1:decide (((x4_4++(⟨#[32,105,102,32]⟩:ByteArray))++t203).size+1≤9223372036854775807)=true:=decide_eq_true c75
                            try have c75b2:(9223372036854775807<((x4_4++(⟨#[32,105,102,32]⟩:ByteArray))++t203).size+1)=False:=eq_false (Nat.not_lt.2 c75)
                            try have c75b3:(9223372036854775807<x4_4.size+4+t203.size+1)=False:=eq_false (by have h_:=c75;simp only [ByteArray.size_append] at h_;have e0_:(⟨#[32,105,102,32]⟩:ByteArray).size=4:=rfl;omega)
                            by_cases c76:((((x4_4++(⟨#[32,105,102,32]⟩:ByteArray))++t203)++(⟨#[10]⟩:ByteArray)).size:Int)>2000
                            ·rw [if_pos c76] at H
                             have c76b0:decide (2000<((((x4_4++(⟨#[32,105,102,32]⟩:ByteArray))++t203)++(⟨#[10]⟩:ByteArray)).size:Int))=true:=decide_eq_true c76
                             have c76b1:decide (2000<(((x4_4++(⟨#[32,105,102,32]⟩:ByteArray))++t203)++(⟨#[10]⟩:ByteArray)).size)=true:=decide_eq_true (by omega)
                             have c76b2:decide (2000<(x4_4.size:Int)+4+(t203.size:Int)+1)=true:=decide_eq_true (by have h_:=c76;simp only [ByteArray.size_append] at h_;have e0_:(⟨#[32,105,102,32]⟩:ByteArray).size=4:=rfl;have e1_:(⟨#[10]⟩:ByteArray).size=1:=rfl;omega)
                             clear c76
                             simp only [Option.some.injEq,Prod.mk.injEq] at H
                             obtain ⟨rfl,rfl⟩:=H
                             have hnb77:=NB195_190.out
                             have hnc77:=NB190_195.out
                             have hcz78_0:wc.cell? ⟨gb195,0,none⟩=some (.string ((rd_T47 l0_3 x34_2).f0)):=(blk_cell BK195.out 0).trans rfl
                             have hcz78_1:wc.cell? ⟨gb195,1,none⟩=some (.int .u64 ((rd_T47 l0_3 x34_2).f1)):=(blk_cell BK195.out 1).trans rfl
                             have hcz78_2:wc.cell? ⟨gb195,2,none⟩=some (.slice A194_2 ((rd_T47 l0_3 x34_2).f2).length c194_2):=(blk_cell BK195.out 2).trans rfl
                             have hcz78_3:wc.cell? ⟨gb195,3,none⟩=some (.int .i64 ((rd_T47 l0_3 x34_2).f3.f0)):=(blk_cell BK195.out 3).trans rfl
                             have hcz78_4:wc.cell? ⟨gb195,4,none⟩=some (.slice A194_4 ((rd_T47 l0_3 x34_2).f3.f1).length c194_4):=(blk_cell BK195.out 4).trans rfl
                             have hcz78_5:wc.cell? ⟨gb195,5,none⟩=some (.int .i64 ((rd_T47 l0_3 x34_2).f3.f2)):=(blk_cell BK195.out 5).trans rfl
                             have hcz78_6:wc.cell? ⟨gb195,6,none⟩=some (.int .u64 ((rd_T47 l0_3 x34_2).f3.f3)):=(blk_cell BK195.out 6).trans rfl
                             have hcz78_7:wc.cell? ⟨gb195,7,none⟩=some (.string ((rd_T47 l0_3 x34_2).f3.f4)):=(blk_cell BK195.out 7).trans rfl
                             have hcz78_8:wc.cell? ⟨gb195,8,none⟩=some (.int .u64 ((rd_T47 l0_3 x34_2).f3.f5)):=(blk_cell BK195.out 8).trans rfl
                             have hfz78_0:=blk_frozen BK195.out 0
                             have hfz78_1:=blk_frozen BK195.out 1
                             have hfz78_2:=blk_frozen BK195.out 2
                             have hfz78_3:=blk_frozen BK195.out 3
                             have hfz78_4:=blk_frozen BK195.out 4
                             have hfz78_5:=blk_frozen BK195.out 5
                             have hfz78_6:=blk_frozen BK195.out 6
                             have hfz78_7:=blk_frozen BK195.out 7
                             have hfz78_8:=blk_frozen BK195.out 8
                             go_wp2_with (first|((with_reducible refine gate_callee (f:=14) rfl ?_);refine goesL_ (some 88) rfl rfl Tryz.func14 (by kernel_rfl) rfl #[.agg #[.int .i64 ((rd_T47 l0_3 x34_2).f3.f0),.slice A194_4 ((rd_T47 l0_3 x34_2).f3.f1).length c194_4,.int .i64 ((rd_T47 l0_3 x34_2).f3.f2),.int .u64 ((rd_T47 l0_3 x34_2).f3.f3),.string ((rd_T47 l0_3 x34_2).f3.f4),.int .u64 ((rd_T47 l0_3 x34_2).f3.f5)]] rfl (by (try simp only [List.map_toArray,List.map_cons,List.map_nil]);first|done|rfl|(simp only [List.length_drop,List.length_take];rfl)) ?_;(with_reducible refine (doorwardref17_Text.calls ((rd_T47 l0_3 x34_2).f3.f0) _ _ ((rd_T47 l0_3 x34_2).f3.f1) ((rd_T47 l0_3 x34_2).f3.f2) ((rd_T47 l0_3 x34_2).f3.f3) ((rd_T47 l0_3 x34_2).f3.f4) ((rd_T47 l0_3 x34_2).f3.f5) t203 _ ?side1 ?side2 ?side3 A73.out).mono ?_);(case side1 => repeat (first|exact (Kd.C_below HR194_4.out HB.out)|(with_reducible refine Kd.C_alloc ?_ _)|(with_reducible refine Kd.C_drewN ?_ _)|(with_reducible refine Kd.C_drew ?_)));(case side2 => exact HC194_4.out);(case side3 => exact LaidAt.of HLD.out (by repeat (first|(with_reducible first|exact HB.out|apply below_alloc|apply pw_below_drewN|apply below_drew1|refine below_set ?_ GE190.out|refine below_set ?_ GE195.out)|exact HB.out)));rintro e w79 ⟨rfl,hb⟩;refine ⟨_,rfl,?_⟩;have n0_:=Aside0.mk (blk_below (g:=gb190) (o:=.cells #[.string a0_0,.string a0_1,.int .u64 a0_2,.slice (some ad194) l0_3.length c0_3] 25 (0,0)) (by (with_reducible repeat (first|refine zN ?_|refine zD ?_|refine zA ?_));exact BK190.out) hb);have n1_:=Aside0.mk (blk_below (g:=gb195) (o:=.cells #[.string ((rd_T47 l0_3 x34_2).f0),.int .u64 ((rd_T47 l0_3 x34_2).f1),.slice A194_2 ((rd_T47 l0_3 x34_2).f2).length c194_2,.int .i64 ((rd_T47 l0_3 x34_2).f3.f0),.slice A194_4 ((rd_T47 l0_3 x34_2).f3.f1).length c194_4,.int .i64 ((rd_T47 l0_3 x34_2).f3.f2),.int .u64 ((rd_T47 l0_3 x34_2).f3.f3),.string ((rd_T47 l0_3 x34_2).f3.f4),.int .u64 ((rd_T47 l0_3 x34_2).f3.f5)] 47 (0,0)) (by (with_reducible repeat (first|refine zN ?_|refine zD ?_|refine zA ?_));exact BK195.out) hb);have n2_:=Aside0.mk (below_step (by repeat (first|(with_reducible first|exact HB.out|apply below_alloc|apply pw_below_drewN|apply below_drew1|refine below_set ?_ GE190.out|refine below_set ?_ GE195.out)|exact HB.out)) hb);clear BK190;clear BK195;clear HB;have BK190:=n0_;have BK195:=n1_;have HB:=n2_;clear n0_ n1_ n2_;(try clear hb);(try clear hb2);(try clear hk);(try clear hi)))
                             go_ret2
                             exact ⟨by first|rfl|(simp [errW_none,errW_some]<;>rfl)|(simp [*,errW_none,errW_some]<;>rfl),by repeat (first|(with_reducible first|exact HB.out|apply below_alloc|apply pw_below_drewN|apply below_drew1|refine below_set ?_ GE190.out|refine below_set ?_ GE195.out)|exact HB.out)⟩
                            ·rw [if_neg c76] at H
                             have c76b0:decide (2000<((((x4_4++(⟨#[32,105,102,32]⟩:ByteArray))++t203)++(⟨#[10]⟩:ByteArray)).size:Int))=false:=decide_eq_false c76
                             have c76b1:decide (2000<(((x4_4++(⟨#[32,105,102,32]⟩:ByteArray))++t203)++(⟨#[10]⟩:ByteArray)).size)=false:=decide_eq_false (by omega)
                             have c76b2:decide (2000<(x4_4.size:Int)+4+(t203.size:Int)+1)=false:=decide_eq_false (by have h_:=c76;simp only [ByteArray.size_append] at h_;have e0_:(⟨#[32,105,102,32]⟩:ByteArray).size=4:=rfl;have e1_:(⟨#[10]⟩:ByteArray).size=1:=rfl;omega)
                             clear c76
                             have H':=Aside0.mk H
                             clear H
                             have hnb80:=NB195_190.out
                             have hnc80:=NB190_195.out
                             have hcz81_0:wc.cell? ⟨gb195,0,none⟩=some (.string ((rd_T47 l0_3 x34_2).f0)):=(blk_cell BK195.out 0).trans rfl
                             have hcz81_1:wc.cell? ⟨gb195,1,none⟩=some (.int .u64 ((rd_T47 l0_3 x34_2).f1)):=(blk_cell BK195.out 1).trans rfl
                             have hcz81_2:wc.cell? ⟨gb195,2,none⟩=some (.slice A194_2 ((rd_T47 l0_3 x34_2).f2).length c194_2):=(blk_cell BK195.out 2).trans rfl
                             have hcz81_3:wc.cell? ⟨gb195,3,none⟩=some (.int .i64 ((rd_T47 l0_3 x34_2).f3.f0)):=(blk_cell BK195.out 3).trans rfl
                             have hcz81_4:wc.cell? ⟨gb195,4,none⟩=some (.slice A194_4 ((rd_T47 l0_3 x34_2).f3.f1).length c194_4):=(blk_cell BK195.out 4).trans rfl
                             have hcz81_5:wc.cell? ⟨gb195,5,none⟩=some (.int .i64 ((rd_T47 l0_3 x34_2).f3.f2)):=(blk_cell BK195.out 5).trans rfl
                             have hcz81_6:wc.cell? ⟨gb195,6,none⟩=some (.int .u64 ((rd_T47 l0_3 x34_2).f3.f3)):=(blk_cell BK195.out 6).trans rfl
                             have hcz81_7:wc.cell? ⟨gb195,7,none⟩=some (.string ((rd_T47 l0_3 x34_2).f3.f4)):=(blk_cell BK195.out 7).trans rfl
                             have hcz81_8:wc.cell? ⟨gb195,8,none⟩=some (.int .u64 ((rd_T47 l0_3 x34_2).f3.f5)):=(blk_cell BK195.out 8).trans rfl
                             have hfz81_0:=blk_frozen BK195.out 0
                             have hfz81_1:=blk_frozen BK195.out 1
                             have hfz81_2:=blk_frozen BK195.out 2
                             have hfz81_3:=blk_frozen BK195.out 3
                             have hfz81_4:=blk_frozen BK195.out 4
                             have hfz81_5:=blk_frozen BK195.out 5
                             have hfz81_6:=blk_frozen BK195.out 6
                             have hfz81_7:=blk_frozen BK195.out 7
                             have hfz81_8:=blk_frozen BK195.out 8
                             go_wp2_with (first|((with_reducible refine gate_callee (f:=14) rfl ?_);refine goesL_ (some 88) rfl rfl Tryz.func14 (by kernel_rfl) rfl #[.agg #[.int .i64 ((rd_T47 l0_3 x34_2).f3.f0),.slice A194_4 ((rd_T47 l0_3 x34_2).f3.f1).length c194_4,.int .i64 ((rd_T47 l0_3 x34_2).f3.f2),.int .u64 ((rd_T47 l0_3 x34_2).f3.f3),.string ((rd_T47 l0_3 x34_2).f3.f4),.int .u64 ((rd_T47 l0_3 x34_2).f3.f5)]] rfl (by (try simp only [List.map_toArray,List.map_cons,List.map_nil]);first|done|rfl|(simp only [List.length_drop,List.length_take];rfl)) ?_;(with_reducible refine (doorwardref17_Text.calls ((rd_T47 l0_3 x34_2).f3.f0) _ _ ((rd_T47 l0_3 x34_2).f3.f1) ((rd_T47 l0_3 x34_2).f3.f2) ((rd_T47 l0_3 x34_2).f3.f3) ((rd_T47 l0_3 x34_2).f3.f4) ((rd_T47 l0_3 x34_2).f3.f5) t203 _ ?side1 ?side2 ?side3 A73.out).mono ?_);(case side1 => repeat (first|exact (Kd.C_below HR194_4.out HB.out)|(with_reducible refine Kd.C_alloc ?_ _)|(with_reducible refine Kd.C_drewN ?_ _)|(with_reducible refine Kd.C_drew ?_)));(case side2 => exact HC194_4.out);(case side3 => exact LaidAt.of HLD.out (by repeat (first|(with_reducible first|exact HB.out|apply below_alloc|apply pw_below_drewN|apply below_drew1|refine below_set ?_ GE190.out|refine below_set ?_ GE195.out)|exact HB.out)));rintro e w82 ⟨rfl,hb⟩;refine ⟨_,rfl,?_⟩;have n0_:=Aside0.mk (blk_below (g:=gb190) (o:=.cells #[.string a0_0,.string a0_1,.int .u64 a0_2,.slice (some ad194) l0_3.length c0_3] 25 (0,0)) (by (with_reducible repeat (first|refine zN ?_|refine zD ?_|refine zA ?_));exact BK190.out) hb);have n1_:=Aside0.mk (blk_below (g:=gb195) (o:=.cells #[.string ((rd_T47 l0_3 x34_2).f0),.int .u64 ((rd_T47 l0_3 x34_2).f1),.slice A194_2 ((rd_T47 l0_3 x34_2).f2).length c194_2,.int .i64 ((rd_T47 l0_3 x34_2).f3.f0),.slice A194_4 ((rd_T47 l0_3 x34_2).f3.f1).length c194_4,.int .i64 ((rd_T47 l0_3 x34_2).f3.f2),.int .u64 ((rd_T47 l0_3 x34_2).f3.f3),.string ((rd_T47 l0_3 x34_2).f3.f4),.int .u64 ((rd_T47 l0_3 x34_2).f3.f5)] 47 (0,0)) (by (with_reducible repeat (first|refine zN ?_|refine zD ?_|refine zA ?_));exact BK195.out) hb);have n2_:=Aside0.mk (below_step (by repeat (first|(with_reducible first|exact HB.out|apply below_alloc|apply pw_below_drewN|apply below_drew1|refine below_set ?_ GE190.out|refine below_set ?_ GE195.out)|exact HB.out)) hb);clear BK190;clear BK195;clear HB;have BK190:=n0_;have BK195:=n1_;have HB:=n2_;clear n0_ n1_ n2_;(try clear hb);(try clear hb2);(try clear hk);(try clear hi)))
                             go_roundg kj55
                             case measure => have:=HJ1.out;have:=HK2.out;have:=HJ21.out;have:=HK4.out;have:=HJ55.out;omega
                             case rel => exact ⟨(((x4_4++(⟨#[32,105,102,32]⟩:ByteArray))++t203)++(⟨#[10]⟩:ByteArray)),(wrap64 (x34_2+1)),(by first|rfl|(simp;done)|(simp [*];done)),(by first|rfl|(simp;done)|(simp [*];done)),H',⟨by have:=HJ1.out;have:=HK2.out;have:=HJ21.out;have:=HK4.out;have:=HJ55.out;omega⟩,⟨by (with_reducible repeat (first|refine zN ?_|refine zD ?_|refine zA ?_));exact BK190.out⟩,⟨by repeat (first|(with_reducible first|exact HB.out|apply below_alloc|apply pw_below_drewN|apply below_drew1|refine below_set ?_ GE190.out|refine below_set ?_ GE195.out)|exact HB.out)⟩⟩
                           ·rw [if_neg c75] at H
                            exact absurd H (by simp)
                          ·rw [if_neg c74] at H
                           exact absurd H (by simp)
                         ·rw [if_neg c72] at H
                          exact absurd H (by simp)
                 ·rw [if_neg c34] at H
                  exact absurd H (by simp)
             ·rw [if_neg c21] at H
              exact absurd H (by simp)
            ·rw [if_neg c20] at H
             exact absurd H (by simp)
           ·rw [if_neg c19] at H
            have c19b0:decide (x34_2<(l0_3.length:Int))=false:=decide_eq_false c19
            clear c19
            by_cases c83:(x4_2.size:Int)>2000
            ·rw [if_pos c83] at H
             have c83b0:decide (2000<(x4_2.size:Int))=true:=decide_eq_true c83
             have c83b1:decide (2000<x4_2.size)=true:=decide_eq_true (by omega)
             clear c83
             simp only [Option.some.injEq,Prod.mk.injEq] at H
             obtain ⟨rfl,rfl⟩:=H
             go_wp2
             go_ret2
             exact ⟨by first|rfl|(simp [errW_none,errW_some]<;>rfl)|(simp [*,errW_none,errW_some]<;>rfl),by repeat (first|(with_reducible first|exact HB.out|apply below_alloc|apply pw_below_drewN|apply below_drew1|refine below_set ?_ GE190.out)|exact HB.out)⟩
            ·rw [if_neg c83] at H
             have c83b0:decide (2000<(x4_2.size:Int))=false:=decide_eq_false c83
             have c83b1:decide (2000<x4_2.size)=false:=decide_eq_false (by omega)
             clear c83
             simp only [Option.some.injEq,Prod.mk.injEq] at H
             obtain ⟨rfl,rfl⟩:=H
             go_wp2
             go_ret2
             exact ⟨by first|rfl|(simp [errW_none,errW_some]<;>rfl)|(simp [*,errW_none,errW_some]<;>rfl),by repeat (first|(with_reducible first|exact HB.out|apply below_alloc|apply pw_below_drewN|apply below_drew1|refine below_set ?_ GE190.out)|exact HB.out)⟩
        ·rw [if_neg c15] at H
         exact absurd H (by simp)
       ·rw [if_neg c14] at H
        exact absurd H (by simp)
      ·rw [if_neg c12] at H
       exact absurd H (by simp)
     ·rw [if_neg c11] at H
      exact absurd H (by simp)
    ·rw [if_neg c10] at H
     exact absurd H (by simp)

end Go.Proofs.YtdfjjimmnbijmaaGreatDoor.ZQ

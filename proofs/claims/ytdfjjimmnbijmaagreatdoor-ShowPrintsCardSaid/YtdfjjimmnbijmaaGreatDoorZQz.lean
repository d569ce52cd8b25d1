import Derived.Test.YtdfjjimmnbijmaaGreatDoorZQy
import Derived.Test.YtdfjjimmnbijmaaGreatDoorZQo
import Derived.Test.YtdfjjimmnbijmaaGreatDoorZQ19
namespace Go.Proofs.YtdfjjimmnbijmaaGreatDoor.ZQ
open Go.RowKit Go.Proofs.YtdfjjimmnbijmaaGreatDoorW.PrintWords Go.Proofs.YtdfjjimmnbijmaaGreatDoorW.PrintLast Go.Proofs.YtdfjjimmnbijmaaGreatDoorW.PrintMore Go.Proofs.YtdfjjimmnbijmaaGreatDoor.Base
attribute [local go_sem] max2_int min2_int max_two min_two max_three min_three max_four min_four
set_option linter.unusedVariables false
set_option linter.unusedSimpArgs false
/-! ### ShowPrints is true -/
theorem outP_ok (v:ByteArray × Bool):((outP v).2==0)=v.2:=by
 unfold outP
 cases h:v.2 with
 |  true => rfl
 |  false => rfl
theorem print_f (a d:ByteArray) (n:Int) (rs:List RN) (hn0:0≤n) (hn1:n<18446744073709551616) (hok:∀ r ∈ rs,okR r):show_Print.f a d n rs=some (outP (sourceS a d n rs)):=by
 unfold show_Print.f show_source.f outP
 rw [if_pos ⟨⟨hn0,hn1⟩,hok⟩,Option.bind_some]
 cases h:(sourceS a d n rs).2 with
 |  true => rfl
 |  false => rfl
theorem right17_f (a d:ByteArray) (n:Int) (rs:List RN) (hn0:0≤n) (hn1:n<18446744073709551616) (hok:∀ r ∈ rs,okR r):show_Right.f a d n rs=some (sourceS a d n rs).2:=by
 unfold show_Right.f show_source.f
 rw [if_pos ⟨⟨hn0,hn1⟩,hok⟩,Option.bind_some]
theorem few_ok {rs:List RN} (h:fewB rs=true) (hd:∀ r ∈ rs,datR r):rs.length≤30∧∀ r ∈ rs,okR r:=by
 unfold fewB at h
 rw [Bool.and_eq_true,decide_eq_true_eq,List.all_eq_true] at h
 refine ⟨h.1,fun r hr => ?_⟩
 have h2:=h.2 r hr
 rw [Bool.and_eq_true,decide_eq_true_eq] at h2
 obtain ⟨d1,d2,d3⟩:=hd r hr
 exact ⟨d1,d2,d3,by omega⟩
theorem showPrints_ev (a d:ByteArray) (n:Int) (rs:List RN) (c:CN) (hn0:0≤n) (hn1:n<18446744073709551616) (hd:∀ r ∈ rs,datR r) (hc:rngC c=true) :
  Ev (fun k => doorwardlaw17_ShowPrints.f k a d n rs c.f0 c.f1 c.f2 c.f3 c.f4 c.f5) true:=by
 have e:doorwardref15_Many.f c.f0 c.f1 c.f2 c.f3 c.f4 c.f5 200=some ((manyS c 200:Nat):Int):=many_f c 200 (by omega) (by omega)
 have j1:Ev (fun k => doorwardlaw17_ShowPrints.j1 k false c.f0 c.f1 c.f2 c.f3 c.f4 c.f5) true:=by
  apply succ
  simp only [doorwardlaw17_ShowPrints.j1,Bool.false_eq_true,if_false,cond_f c hc,Option.bind_some]
  refine Ev.bind (right16_ev c) ?_
  by_cases hr:rightS c=true
  ·have hw:=hr
   unfold rightS at hw
   rw [Bool.and_eq_true,decide_eq_true_eq] at hw
   have ec:condS c=(writeC c,0):=by unfold condS;rw [if_pos hr]
   simp only [hr,ec,↓reduceIte,text17_f c hw.2 hc (by omega),Option.bind_some]
   exact now (by simp)
  ·have ec:condS c=(⟨#[]⟩,1):=by unfold condS;rw [if_neg hr]
   rw [Bool.not_eq_true] at hr
   simp only [hr,ec,↓reduceIte,Bool.false_eq_true]
   exact now (by rw [Lib.toList_data];rfl)
 have j0t:Ev (fun k => doorwardlaw17_ShowPrints.j0 k true a d n rs c.f0 c.f1 c.f2 c.f3 c.f4 c.f5) true:=by
  apply succ
  simp only [doorwardlaw17_ShowPrints.j0,if_true,alive17,Option.bind_some]
  exact now rfl
 unfold doorwardlaw17_ShowPrints.f
 refine Ev.bind (few_ev a d n rs) ?_
 simp only
 by_cases hf:fewB rs=true
 ·obtain ⟨hl,hok⟩:=few_ok hf hd
  simp only [hf,↓reduceIte,e,Option.bind_some]
  by_cases hm:nodesC c≤200
  ·have eb:decide (((manyS c 200:Nat):Int)>200)=false:=decide_eq_false (by unfold manyS;omega)
   rw [eb]
   apply succ
   simp only [doorwardlaw17_ShowPrints.j0,Bool.false_eq_true,if_false,print_f a d n rs hn0 hn1 hok,right17_f a d n rs hn0 hn1 hok,Option.bind_some,alive17]
   refine Ev.bind (print17_ev a d n rs hn0 hn1 (by omega) hok) ?_
   simp only [↓reduceIte,outP_ok,bne_self_eq_false,Bool.false_eq_true,Bool.not_true]
   exact j1
  ·have eb:decide (((manyS c 200:Nat):Int)>200)=true:=decide_eq_true (by unfold manyS;omega)
   rw [eb]
   exact j0t
 ·rw [Bool.not_eq_true] at hf
  simp only [hf,Bool.false_eq_true,↓reduceIte]
  exact j0t
theorem prints_any (a d:ByteArray) (n:Int) (rs:List RN) (c:CN) (hn0:0≤n) (hn1:n<18446744073709551616) (hd:∀ r ∈ rs,datR r) (hc:rngC c=true) (A:Option Addr) (cap:Nat) (A1:Option Addr) (cap1:Nat) (w:World) (hC:Kd.C k47 w A rs.length rs) (hcap:rs.length≤cap) (hC1:Kd.C k28 w A1 c.f1.length c.f1) (hcap1:c.f1.length≤cap1) (hLd:LaidAt w) :
  Calls Tryz.prog 3 #[.agg #[.string a,.string d,.int .u64 n,.slice A rs.length cap],.agg #[.int .i64 c.f0,.slice A1 c.f1.length cap1,.int .i64 c.f2,.int .u64 c.f3,.string c.f4,.int .u64 c.f5]] w fun e w' => e=.returned (.bool true)∧Below w.heap.size w w':=by
 obtain ⟨k,hk⟩:=Ev.rounds (showPrints_ev a d n rs c hn0 hn1 hd hc)
 exact doorwardlaw17_ShowPrints.calls k a d n A cap rs c.f0 A1 cap1 c.f1 c.f2 c.f3 c.f4 c.f5 true w hC hcap hC1 hcap1 hLd hk

end Go.Proofs.YtdfjjimmnbijmaaGreatDoor.ZQ

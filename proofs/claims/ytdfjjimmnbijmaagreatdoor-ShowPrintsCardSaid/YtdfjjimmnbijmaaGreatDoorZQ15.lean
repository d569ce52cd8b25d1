-- Written for this claim by myprint.py over the kit's print (functions of this session supplied)
import Derived.Test.YtdfjjimmnbijmaaGreatDoorZQ0
import Derived.Test.YtdfjjimmnbijmaaGreatDoorZQ3
namespace Go.Proofs.YtdfjjimmnbijmaaGreatDoor.ZQ
open Go.RowKit Go.Proofs.YtdfjjimmnbijmaaGreatDoorW.PrintWords Go.Proofs.YtdfjjimmnbijmaaGreatDoorW.PrintLast Go.Proofs.YtdfjjimmnbijmaaGreatDoorW.PrintMore Go.Proofs.YtdfjjimmnbijmaaGreatDoor.Base
attribute [local go_sem] max2_int min2_int max_two min_two max_three min_three max_four min_four   -- for this text's walks alone
set_option linter.unusedVariables false
set_option linter.unusedSimpArgs false

/-! ### doorwardref15_Reserved: function 36 -/
def doorwardref15_Reserved.f (a0:ByteArray):Option (Bool):=if a0.toList=([105,102]:List UInt8) then (some true) else (if a0.toList=([97,110,100]:List UInt8) then (some true) else (if a0.toList=([111,114]:List UInt8) then (some true) else (some (a0.toList==([110,111,116]:List UInt8)))))
set_option maxHeartbeats 8000000 in
set_option maxRecDepth 100000 in
theorem doorwardref15_Reserved.calls (a0:ByteArray) (r:Bool) (w:World) (hLd:LaidAt w) (h:doorwardref15_Reserved.f a0=some r) :
  Calls Tryz.prog 36 #[.string a0] w fun e w' => e=.returned (.bool r)∧Drawn0 w w':=by
 have HLD:=Aside0.mk hLd
 clear hLd
 have H:(if a0.toList=([105,102]:List UInt8) then (some true) else (if a0.toList=([97,110,100]:List UInt8) then (some true) else (if a0.toList=([111,114]:List UInt8) then (some true) else (some (a0.toList==([110,111,116]:List UInt8))))))=some r:=h
 clear h
 by_cases c2:a0.toList=([105,102]:List UInt8)
 ·rw [if_pos c2] at H
  have c2b0:(a0.toList==([105,102]:List UInt8))=true:=beq_iff_eq.mpr c2
  have c2b1:(a0.toList != ([105,102]:List UInt8))=false:=bne_eq_false_iff_eq.mpr c2
  clear c2
  obtain rfl:=Option.some.inj H
  go_enter Tryz.func36,Tryz.ntmps36
  go_wp2
  go_ret
  exact ⟨by first|rfl|(simp;done)|(simp [*];done),by repeat (first|exact Drawn0.refl _|apply Drawn0.step)⟩
 ·rw [if_neg c2] at H
  have c2b0:(a0.toList==([105,102]:List UInt8))=false:=beq_eq_false_iff_ne.mpr c2
  have c2b1:(a0.toList != ([105,102]:List UInt8))=true:=bne_iff_ne.mpr c2
  by_cases c3:a0.toList=([97,110,100]:List UInt8)
  ·rw [if_pos c3] at H
   have c3b0:(a0.toList==([97,110,100]:List UInt8))=true:=beq_iff_eq.mpr c3
   have c3b1:(a0.toList != ([97,110,100]:List UInt8))=false:=bne_eq_false_iff_eq.mpr c3
   clear c3
   obtain rfl:=Option.some.inj H
   go_enter Tryz.func36,Tryz.ntmps36
   go_wp2
   go_ret
   exact ⟨by first|rfl|(simp;done)|(simp [*];done),by repeat (first|exact Drawn0.refl _|apply Drawn0.step)⟩
  ·rw [if_neg c3] at H
   have c3b0:(a0.toList==([97,110,100]:List UInt8))=false:=beq_eq_false_iff_ne.mpr c3
   have c3b1:(a0.toList != ([97,110,100]:List UInt8))=true:=bne_iff_ne.mpr c3
   by_cases c4:a0.toList=([111,114]:List UInt8)
   ·rw [if_pos c4] at H
    have c4b0:(a0.toList==([111,114]:List UInt8))=true:=beq_iff_eq.mpr c4
    have c4b1:(a0.toList != ([111,114]:List UInt8))=false:=bne_eq_false_iff_eq.mpr c4
    clear c4
    obtain rfl:=Option.some.inj H
    go_enter Tryz.func36,Tryz.ntmps36
    go_wp2
    go_ret
    exact ⟨by first|rfl|(simp;done)|(simp [*];done),by repeat (first|exact Drawn0.refl _|apply Drawn0.step)⟩
   ·rw [if_neg c4] at H
    have c4b0:(a0.toList==([111,114]:List UInt8))=false:=beq_eq_false_iff_ne.mpr c4
    have c4b1:(a0.toList != ([111,114]:List UInt8))=true:=bne_iff_ne.mpr c4
    obtain rfl:=Option.some.inj H
    go_enter Tryz.func36,Tryz.ntmps36
    go_wp2
    go_ret
    exact ⟨by first|rfl|(simp;done)|(simp [*];done),by repeat (first|exact Drawn0.refl _|apply Drawn0.step)⟩

/-! ### doorwardref14_letter: function 66 -/
def doorwardref14_letter.f (a0:Int):Option (Bool):=if a0 ≥ 97 then (if a0≤122 then (some true) else (some (a0==95))) else (some (a0==95))
set_option maxHeartbeats 8000000 in
set_option maxRecDepth 100000 in
theorem doorwardref14_letter.calls (a0:Int) (r:Bool) (w:World) (hLd:LaidAt w) (h:doorwardref14_letter.f a0=some r) :
  Calls Tryz.prog 66 #[.int .u8 a0] w fun e w' => e=.returned (.bool r)∧Drawn0 w w':=by
 have HLD:=Aside0.mk hLd
 clear hLd
 have H:(if a0 ≥ 97 then (if a0≤122 then (some true) else (some (a0==95))) else (some (a0==95)))=some r:=h
 clear h
 by_cases c2:a0 ≥ 97
 ·rw [if_pos c2] at H
  have c2b0:decide (97≤a0)=true:=decide_eq_true c2
  clear c2
  by_cases c3:a0≤122
  ·rw [if_pos c3] at H
   have c3b0:decide (a0≤122)=true:=decide_eq_true c3
   clear c3
   obtain rfl:=Option.some.inj H
   go_enter Tryz.func66,Tryz.ntmps66
   go_wp2
   go_ret
   exact ⟨by first|rfl|(simp;done)|(simp [*];done),by repeat (first|exact Drawn0.refl _|apply Drawn0.step)⟩
  ·rw [if_neg c3] at H
   have c3b0:decide (a0≤122)=false:=decide_eq_false c3
   clear c3
   obtain rfl:=Option.some.inj H
   go_enter Tryz.func66,Tryz.ntmps66
   go_wp2
   go_ret
   exact ⟨by first|rfl|(simp;done)|(simp [*];done),by repeat (first|exact Drawn0.refl _|apply Drawn0.step)⟩
 ·rw [if_neg c2] at H
  have c2b0:decide (97≤a0)=false:=decide_eq_false c2
  clear c2
  obtain rfl:=Option.some.inj H
  go_enter Tryz.func66,Tryz.ntmps66
  go_wp2
  go_ret
  exact ⟨by first|rfl|(simp;done)|(simp [*];done),by repeat (first|exact Drawn0.refl _|apply Drawn0.step)⟩

/-! ### doorwardref14_digit: function 68 -/
def doorwardref14_digit.f (a0:Int):Option (Bool):=if a0 ≥ 48 then (some (decide (a0≤57))) else (some false)
set_option maxHeartbeats 8000000 in
set_option maxRecDepth 100000 in
theorem doorwardref14_digit.calls (a0:Int) (r:Bool) (w:World) (hLd:LaidAt w) (h:doorwardref14_digit.f a0=some r) :
  Calls Tryz.prog 68 #[.int .u8 a0] w fun e w' => e=.returned (.bool r)∧Drawn0 w w':=by
 have HLD:=Aside0.mk hLd
 clear hLd
 have H:(if a0 ≥ 48 then (some (decide (a0≤57))) else (some false))=some r:=h
 clear h
 by_cases c2:a0 ≥ 48
 ·rw [if_pos c2] at H
  have c2b0:decide (48≤a0)=true:=decide_eq_true c2
  clear c2
  obtain rfl:=Option.some.inj H
  go_enter Tryz.func68,Tryz.ntmps68
  go_wp2
  go_ret
  exact ⟨by first|rfl|(simp;done)|(simp [*];done),by repeat (first|exact Drawn0.refl _|apply Drawn0.step)⟩
 ·rw [if_neg c2] at H
  have c2b0:decide (48≤a0)=false:=decide_eq_false c2
  clear c2
  obtain rfl:=Option.some.inj H
  go_enter Tryz.func68,Tryz.ntmps68
  go_wp2
  go_ret
  exact ⟨by first|rfl|(simp;done)|(simp [*];done),by repeat (first|exact Drawn0.refl _|apply Drawn0.step)⟩

/-! ### doorwardref14_end: function 67 -/
def doorwardref14_end.l0:Nat→ByteArray→Int→Option (Int)
 |  0,_,_ => none
 |  k+1,x0,x1 => if x1<(x0.size:Int) then (if 0≤x1 then ((doorwardref14_letter.f (bt x0 x1)).bind fun t168 => (if t168=true then (doorwardref14_end.l0 k x0 (wrap64 (x1+1))) else ((doorwardref14_digit.f (bt x0 x1)).bind fun t169 => (if t169=true then (doorwardref14_end.l0 k x0 (wrap64 (x1+1))) else (some x1))))) else (none)) else (some x1)
def doorwardref14_end.f (k:Nat) (a0:ByteArray) (a1:Int):Option (Int):=doorwardref14_end.l0 k a0 a1
theorem doorwardref14_end.mono_l:∀ k,(∀ y0 y1,LeO (doorwardref14_end.l0 k y0 y1) (doorwardref14_end.l0 (k+1) y0 y1))
 |  0 => fun _ _ r h => by simp [doorwardref14_end.l0] at h
 |  k+1 => by
  have ih0:=doorwardref14_end.mono_l k
  ·intro y0 y1
   unfold doorwardref14_end.l0
   repeat' first
   |  (with_reducible exact ih0 _ _)
   |  (with_reducible exact LeO.refl _)
   |  (with_reducible exact LeO.none _)
   |  (with_reducible refine LeO.ite ?_ ?_)
   |  (with_reducible refine LeO.bind ?_ (fun _ => ?_))
   |  exact ih0 _ _
   |  exact LeO.none _
   |  refine LeO.ite ?_ ?_
   |  refine LeO.bind ?_ (fun _ => ?_)
theorem doorwardref14_end.mono:∀ a0 a1 k,LeO (doorwardref14_end.f k a0 a1) (doorwardref14_end.f (k+1) a0 a1):=by
 intro a0 a1 k
 have ih0:=doorwardref14_end.mono_l k
 unfold doorwardref14_end.f
 repeat' first
   |  (with_reducible exact ih0 _ _)
   |  (with_reducible exact LeO.refl _)
   |  (with_reducible exact LeO.none _)
   |  (with_reducible refine LeO.ite ?_ ?_)
   |  (with_reducible refine LeO.bind ?_ (fun _ => ?_))
   |  exact ih0 _ _
   |  exact LeO.none _
   |  refine LeO.ite ?_ ?_
   |  refine LeO.bind ?_ (fun _ => ?_)
set_option maxHeartbeats 8000000 in
set_option maxRecDepth 100000 in
theorem doorwardref14_end.calls (k:Nat) (a0:ByteArray) (a1:Int) (r:Int) (w:World) (hLd:LaidAt w) (h:doorwardref14_end.f k a0 a1=some r) :
  Calls Tryz.prog 67 #[.string a0,.int .i64 a1] w fun e w' => e=.returned (.int .i64 r)∧Drawn0 w w':=by
 have HLD:=Aside0.mk hLd
 clear hLd
 have H:(doorwardref14_end.l0 k a0 a1)=some r:=h
 clear h
 have H':=Aside0.mk H
 clear H
 go_enter Tryz.func67,Tryz.ntmps67
 go_wp2
 go_loopg [1] k (fun kq v1 w' =>∃(x1_1:Int),v1=.int .i64 x1_1∧Aside0 (doorwardref14_end.l0 kq a0 x1_1=some r)∧Aside0 (kq≤k)∧Drawn0 w w')
 case atStart => exact ⟨(a1),(by first|rfl|(simp;done)|(simp [*];done)),H',⟨Nat.le_refl _⟩,by repeat (first|exact Drawn0.refl _|apply Drawn0.step)⟩
 case round =>
  clear H'
  obtain ⟨x1_1,rfl,HA,HK1,⟨m1,rfl⟩⟩:=hrel
  cases gk with
  |  zero => exact absurd HA.out (by simp [doorwardref14_end.l0])
  |  succ k1 =>
   have H:=HA.out
   clear HA
   simp only [doorwardref14_end.l0] at H
   by_cases c3:x1_1<(a0.size:Int)
   ·rw [if_pos c3] at H
    have c3b0:decide (x1_1<(a0.size:Int))=true:=decide_eq_true c3
    clear c3
    by_cases c4:0≤x1_1
    ·rw [if_pos c4] at H
     have c4b0:decide (0≤x1_1)=true:=decide_eq_true c4
     clear c4
     replace H:=Option.bind_eq_some_iff.mp H
     obtain ⟨t168,A60,H⟩:=H
     replace H:(if t168=true then (doorwardref14_end.l0 k1 a0 (wrap64 (x1_1+1))) else ((doorwardref14_digit.f (bt a0 x1_1)).bind fun t169 => (if t169=true then (doorwardref14_end.l0 k1 a0 (wrap64 (x1_1+1))) else (some x1_1))))=some r:=H
     have A6:=Aside0.mk A60
     clear A60
     by_cases c7:t168=true
     ·subst c7
      have H1:(doorwardref14_end.l0 k1 a0 (wrap64 (x1_1+1)))=some r:=by rw [if_pos rfl] at H;exact H
      clear H
      have H:=H1
      clear H1
      have H':=Aside0.mk H
      clear H
      have p5:0≤(x1_1:Int):=of_decide_eq_true (by first|(with_reducible assumption)|assumption)
      have q5:x1_1<(a0.size:Int):=of_decide_eq_true (by first|(with_reducible assumption)|assumption)
      have hx5:=bt_at a0 x1_1
      replace p5:=eq_true p5
      replace q5:=eq_true q5
      go_wp2_with (first|(go_at_call 66;(with_reducible refine (doorwardref14_letter.calls (bt a0 x1_1) true _ ?side1 A6.out).mono ?_);(case side1 => (with_reducible repeat (first|exact HLD.out|apply LaidAt.drewN|apply LaidAt.drew|apply LaidAt.alloc)));rintro e w' ⟨rfl,⟨nd,rfl⟩⟩))
      go_roundg k1
      case measure => have:=HK1.out;omega
      case rel => exact ⟨(wrap64 (x1_1+1)),(by first|rfl|(simp;done)|(simp [*];done)),H',⟨by have:=HK1.out;omega⟩,by repeat (first|exact Drawn0.refl _|apply Drawn0.step)⟩
     ·replace c7:=Bool.eq_false_iff.mpr c7
      subst c7
      have H1:((doorwardref14_digit.f (bt a0 x1_1)).bind fun t169 => (if t169=true then (doorwardref14_end.l0 k1 a0 (wrap64 (x1_1+1))) else (some x1_1)))=some r:=by rw [if_neg (show ¬ (false=true) by decide)] at H;exact H
      clear H
      have H:=H1
      clear H1
      replace H:=Option.bind_eq_some_iff.mp H
      obtain ⟨t169,A90,H⟩:=H
      replace H:(if t169=true then (doorwardref14_end.l0 k1 a0 (wrap64 (x1_1+1))) else (some x1_1))=some r:=H
      have A9:=Aside0.mk A90
      clear A90
      by_cases c10:t169=true
      ·subst c10
       have H1:(doorwardref14_end.l0 k1 a0 (wrap64 (x1_1+1)))=some r:=by rw [if_pos rfl] at H;exact H
       clear H
       have H:=H1
       clear H1
       have H':=Aside0.mk H
       clear H
       have p5:0≤(x1_1:Int):=of_decide_eq_true (by first|(with_reducible assumption)|assumption)
       have q5:x1_1<(a0.size:Int):=of_decide_eq_true (by first|(with_reducible assumption)|assumption)
       have hx5:=bt_at a0 x1_1
       replace p5:=eq_true p5
       replace q5:=eq_true q5
       go_wp2_with (first|(go_at_call 66;(with_reducible refine (doorwardref14_letter.calls (bt a0 x1_1) false _ ?side1 A6.out).mono ?_);(case side1 => (with_reducible repeat (first|exact HLD.out|apply LaidAt.drewN|apply LaidAt.drew|apply LaidAt.alloc)));rintro e w' ⟨rfl,⟨nd,rfl⟩⟩;have p8:0≤(x1_1:Int):=of_decide_eq_true (by first|(with_reducible assumption)|assumption);have q8:x1_1<(a0.size:Int):=of_decide_eq_true (by first|(with_reducible assumption)|assumption);have hx8:=bt_at a0 x1_1;replace p8:=eq_true p8;replace q8:=eq_true q8)|(go_at_call 68;(with_reducible refine (doorwardref14_digit.calls (bt a0 x1_1) true _ ?side1 A9.out).mono ?_);(case side1 => (with_reducible repeat (first|exact HLD.out|apply LaidAt.drewN|apply LaidAt.drew|apply LaidAt.alloc)));rintro e w' ⟨rfl,⟨nd,rfl⟩⟩))
       go_roundg k1
       case measure => have:=HK1.out;omega
       case rel => exact ⟨(wrap64 (x1_1+1)),(by first|rfl|(simp;done)|(simp [*];done)),H',⟨by have:=HK1.out;omega⟩,by repeat (first|exact Drawn0.refl _|apply Drawn0.step)⟩
      ·replace c10:=Bool.eq_false_iff.mpr c10
       subst c10
       have H1:(some x1_1)=some r:=by rw [if_neg (show ¬ (false=true) by decide)] at H;exact H
       clear H
       have H:=H1
       clear H1
       obtain rfl:=Option.some.inj H
       have p5:0≤(x1_1:Int):=of_decide_eq_true (by first|(with_reducible assumption)|assumption)
       have q5:x1_1<(a0.size:Int):=of_decide_eq_true (by first|(with_reducible assumption)|assumption)
       have hx5:=bt_at a0 x1_1
       replace p5:=eq_true p5
       replace q5:=eq_true q5
       go_wp2_with (first|(go_at_call 66;(with_reducible refine (doorwardref14_letter.calls (bt a0 x1_1) false _ ?side1 A6.out).mono ?_);(case side1 => (with_reducible repeat (first|exact HLD.out|apply LaidAt.drewN|apply LaidAt.drew|apply LaidAt.alloc)));rintro e w' ⟨rfl,⟨nd,rfl⟩⟩;have p8:0≤(x1_1:Int):=of_decide_eq_true (by first|(with_reducible assumption)|assumption);have q8:x1_1<(a0.size:Int):=of_decide_eq_true (by first|(with_reducible assumption)|assumption);have hx8:=bt_at a0 x1_1;replace p8:=eq_true p8;replace q8:=eq_true q8)|(go_at_call 68;(with_reducible refine (doorwardref14_digit.calls (bt a0 x1_1) false _ ?side1 A9.out).mono ?_);(case side1 => (with_reducible repeat (first|exact HLD.out|apply LaidAt.drewN|apply LaidAt.drew|apply LaidAt.alloc)));rintro e w' ⟨rfl,⟨nd,rfl⟩⟩))
       go_ret
       exact ⟨by first|rfl|(simp;done)|(simp [*];done),by repeat (first|exact Drawn0.refl _|apply Drawn0.step)⟩
    ·rw [if_neg c4] at H
     exact absurd H (by simp)
   ·rw [if_neg c3] at H
    have c3b0:decide (x1_1<(a0.size:Int))=false:=decide_eq_false c3
    clear c3
    obtain rfl:=Option.some.inj H
    go_wp2
    go_ret
    exact ⟨by first|rfl|(simp;done)|(simp [*];done),by repeat (first|exact Drawn0.refl _|apply Drawn0.step)⟩

/-! ### doorwardref14_value: function 88 -/
def doorwardref14_value.f (a0:Int):Option (Int):=(doorwardref14_digit.f a0).bind fun t170 => (if t170=true then (some ((a0 - 48) % 256)) else (if a0 ≥ 97 then (if a0≤102 then (some (((a0 - 97) % 256)+10)) else (some 99)) else (some 99)))
set_option maxHeartbeats 8000000 in
set_option maxRecDepth 100000 in
theorem doorwardref14_value.calls (a0:Int) (r:Int) (w:World) (hLd:LaidAt w) (h:doorwardref14_value.f a0=some r) :
  Calls Tryz.prog 88 #[.int .u8 a0] w fun e w' => e=.returned (.int .u64 r)∧Drawn0 w w':=by
 have HLD:=Aside0.mk hLd
 clear hLd
 have H:((doorwardref14_digit.f a0).bind fun t170 => (if t170=true then (some ((a0 - 48) % 256)) else (if a0 ≥ 97 then (if a0≤102 then (some (((a0 - 97) % 256)+10)) else (some 99)) else (some 99))))=some r:=h
 clear h
 replace H:=Option.bind_eq_some_iff.mp H
 obtain ⟨t170,A20,H⟩:=H
 replace H:(if t170=true then (some ((a0 - 48) % 256)) else (if a0 ≥ 97 then (if a0≤102 then (some (((a0 - 97) % 256)+10)) else (some 99)) else (some 99)))=some r:=H
 have A2:=Aside0.mk A20
 clear A20
 by_cases c3:t170=true
 ·subst c3
  have H1:(some ((a0 - 48) % 256))=some r:=by rw [if_pos rfl] at H;exact H
  clear H
  have H:=H1
  clear H1
  obtain rfl:=Option.some.inj H
  go_enter Tryz.func88,Tryz.ntmps88
  go_wp2_with (first|((with_reducible refine gate_callee (f:=68) rfl ?_);refine goesL_ (some 4) rfl rfl Tryz.func68 (by kernel_rfl) rfl #[.int .u8 a0] rfl (by (try simp only [List.map_toArray,List.map_cons,List.map_nil]);first|done|rfl|(simp only [List.length_drop,List.length_take];rfl)) ?_;(with_reducible refine (doorwardref14_digit.calls a0 true _ ?side1 A2.out).mono ?_);(case side1 => (with_reducible repeat (first|exact HLD.out|apply LaidAt.drewN|apply LaidAt.drew|apply LaidAt.alloc)));rintro e w' ⟨rfl,⟨nd,rfl⟩⟩;refine ⟨_,rfl,?_⟩))
  go_ret
  exact ⟨by first|rfl|(simp;done)|(simp [*];done),by repeat (first|exact Drawn0.refl _|apply Drawn0.step)⟩
 ·replace c3:=Bool.eq_false_iff.mpr c3
  subst c3
  have H1:(if a0 ≥ 97 then (if a0≤102 then (some (((a0 - 97) % 256)+10)) else (some 99)) else (some 99))=some r:=by rw [if_neg (show ¬ (false=true) by decide)] at H;exact H
  clear H
  have H:=H1
  clear H1
  by_cases c4:a0 ≥ 97
  ·rw [if_pos c4] at H
   have c4b0:decide (97≤a0)=true:=decide_eq_true c4
   clear c4
   by_cases c5:a0≤102
   ·rw [if_pos c5] at H
    have c5b0:decide (a0≤102)=true:=decide_eq_true c5
    clear c5
    obtain rfl:=Option.some.inj H
    go_enter Tryz.func88,Tryz.ntmps88
    go_wp2_with (first|((with_reducible refine gate_callee (f:=68) rfl ?_);refine goesL_ (some 4) rfl rfl Tryz.func68 (by kernel_rfl) rfl #[.int .u8 a0] rfl (by (try simp only [List.map_toArray,List.map_cons,List.map_nil]);first|done|rfl|(simp only [List.length_drop,List.length_take];rfl)) ?_;(with_reducible refine (doorwardref14_digit.calls a0 false _ ?side1 A2.out).mono ?_);(case side1 => (with_reducible repeat (first|exact HLD.out|apply LaidAt.drewN|apply LaidAt.drew|apply LaidAt.alloc)));rintro e w' ⟨rfl,⟨nd,rfl⟩⟩;refine ⟨_,rfl,?_⟩))
    go_ret
    exact ⟨by first|rfl|(simp;done)|(simp [*];done),by repeat (first|exact Drawn0.refl _|apply Drawn0.step)⟩
   ·rw [if_neg c5] at H
    have c5b0:decide (a0≤102)=false:=decide_eq_false c5
    clear c5
    obtain rfl:=Option.some.inj H
    go_enter Tryz.func88,Tryz.ntmps88
    go_wp2_with (first|((with_reducible refine gate_callee (f:=68) rfl ?_);refine goesL_ (some 4) rfl rfl Tryz.func68 (by kernel_rfl) rfl #[.int .u8 a0] rfl (by (try simp only [List.map_toArray,List.map_cons,List.map_nil]);first|done|rfl|(simp only [List.length_drop,List.length_take];rfl)) ?_;(with_reducible refine (doorwardref14_digit.calls a0 false _ ?side1 A2.out).mono ?_);(case side1 => (with_reducible repeat (first|exact HLD.out|apply LaidAt.drewN|apply LaidAt.drew|apply LaidAt.alloc)));rintro e w' ⟨rfl,⟨nd,rfl⟩⟩;refine ⟨_,rfl,?_⟩))
    go_ret
    exact ⟨by first|rfl|(simp;done)|(simp [*];done),by repeat (first|exact Drawn0.refl _|apply Drawn0.step)⟩
  ·rw [if_neg c4] at H
   have c4b0:decide (97≤a0)=false:=decide_eq_false c4
   clear c4
   obtain rfl:=Option.some.inj H
   go_enter Tryz.func88,Tryz.ntmps88
   go_wp2_with (first|((with_reducible refine gate_callee (f:=68) rfl ?_);refine goesL_ (some 4) rfl rfl Tryz.func68 (by kernel_rfl) rfl #[.int .u8 a0] rfl (by (try simp only [List.map_toArray,List.map_cons,List.map_nil]);first|done|rfl|(simp only [List.length_drop,List.length_take];rfl)) ?_;(with_reducible refine (doorwardref14_digit.calls a0 false _ ?side1 A2.out).mono ?_);(case side1 => (with_reducible repeat (first|exact HLD.out|apply LaidAt.drewN|apply LaidAt.drew|apply LaidAt.alloc)));rintro e w' ⟨rfl,⟨nd,rfl⟩⟩;refine ⟨_,rfl,?_⟩))
   go_ret
   exact ⟨by first|rfl|(simp;done)|(simp [*];done),by repeat (first|exact Drawn0.refl _|apply Drawn0.step)⟩

/-! ### doorwardref14_Number: function 69 -/
mutual
def doorwardref14_Number.j0:Nat→ByteArray→Int→ByteArray→Bool→Option (Int × Bool)
 |  0,_,_,_,_ => none
 |  k+1,x0,x4,x5,x17 => if x17=true then (if 2≤(x0.size:Int) then (if ((x0.extract 2 x0.size).size:Int)>16 then (some (0,false)) else (doorwardref14_Number.j1 k 16 (x0.extract 2 x0.size))) else (none)) else (doorwardref14_Number.j1 k x4 x5)
def doorwardref14_Number.j1:Nat→Int→ByteArray→Option (Int × Bool)
 |  0,_,_ => none
 |  k+1,x4,x5 => if x5.toList=([]:List UInt8) then (doorwardref14_Number.j2 k x4 x5 true) else (if x4=10 then (if (x5.size:Int)>1 then (if 0<(x5.size:Int) then (doorwardref14_Number.j2 k x4 x5 ((bt x5 0)==48)) else (none)) else (doorwardref14_Number.j2 k x4 x5 false)) else (doorwardref14_Number.j2 k x4 x5 false))
def doorwardref14_Number.j2:Nat→Int→ByteArray→Bool→Option (Int × Bool)
 |  0,_,_,_ => none
 |  k+1,x4,x5,x38 => if x38=true then (some (0,false)) else (doorwardref14_Number.l0 k x4 x5 0 0)
def doorwardref14_Number.l0:Nat→Int→ByteArray→Int→Int→Option (Int × Bool)
 |  0,_,_,_,_ => none
 |  k+1,x4,x5,x6,x7 => if x7<(x5.size:Int) then (if 0≤x7 then ((doorwardref14_value.f (bt x5 x7)).bind fun t171 => (if t171 ≥ x4 then (some (0,false)) else (if x4=0 then (none) else (if x6>(IntKind.u64.wrap (Int.tdiv (IntKind.u64.wrap (18446744073709551615 - t171)) x4)) then (some (0,false)) else (doorwardref14_Number.l0 k x4 x5 (IntKind.u64.wrap ((IntKind.u64.wrap (x4 * x6))+t171)) (wrap64 (x7+1))))))) else (none)) else (some (x6,true))
end
def doorwardref14_Number.f (k:Nat) (a0:ByteArray):Option (Int × Bool):=if (a0.size:Int) ≥ 2 then (if 0≤2 then (if 2≤(a0.size:Int) then (doorwardref14_Number.j0 k a0 10 a0 ((a0.extract 0 2).toList==([48,120]:List UInt8))) else (none)) else (none)) else (doorwardref14_Number.j0 k a0 10 a0 false)
theorem doorwardref14_Number.mono_l:∀ k,(∀ y0 y1 y2 y3,LeO (doorwardref14_Number.j0 k y0 y1 y2 y3) (doorwardref14_Number.j0 (k+1) y0 y1 y2 y3))∧(∀ y0 y1,LeO (doorwardref14_Number.j1 k y0 y1) (doorwardref14_Number.j1 (k+1) y0 y1))∧(∀ y0 y1 y2,LeO (doorwardref14_Number.j2 k y0 y1 y2) (doorwardref14_Number.j2 (k+1) y0 y1 y2))∧(∀ y0 y1 y2 y3,LeO (doorwardref14_Number.l0 k y0 y1 y2 y3) (doorwardref14_Number.l0 (k+1) y0 y1 y2 y3))
 |  0 => ⟨fun _ _ _ _ r h => by simp [doorwardref14_Number.j0] at h,fun _ _ r h => by simp [doorwardref14_Number.j1] at h,fun _ _ _ r h => by simp [doorwardref14_Number.j2] at h,fun _ _ _ _ r h => by simp [doorwardref14_Number.l0] at h⟩
 |  k+1 => by
  obtain ⟨ih0,ih1,ih2,ih3⟩:=doorwardref14_Number.mono_l k
  refine ⟨?_,?_,?_,?_⟩
  ·intro y0 y1 y2 y3
   unfold doorwardref14_Number.j0
   repeat' first
   |  (with_reducible exact ih0 _ _ _ _)
   |  (with_reducible exact ih1 _ _)
   |  (with_reducible exact ih2 _ _ _)
   |  (with_reducible exact ih3 _ _ _ _)
   |  (with_reducible exact LeO.refl _)
   |  (with_reducible exact LeO.none _)
   |  (with_reducible refine LeO.ite ?_ ?_)
   |  (with_reducible refine LeO.bind ?_ (fun _ => ?_))
   |  exact ih0 _ _ _ _
   |  exact ih1 _ _
   |  exact ih2 _ _ _
   |  exact ih3 _ _ _ _
   |  exact LeO.none _
   |  refine LeO.ite ?_ ?_
   |  refine LeO.bind ?_ (fun _ => ?_)
  ·intro y0 y1
   unfold doorwardref14_Number.j1
   repeat' first
   |  (with_reducible exact ih0 _ _ _ _)
   |  (with_reducible exact ih1 _ _)
   |  (with_reducible exact ih2 _ _ _)
   |  (with_reducible exact ih3 _ _ _ _)
   |  (with_reducible exact LeO.refl _)
   |  (with_reducible exact LeO.none _)
   |  (with_reducible refine LeO.ite ?_ ?_)
   |  (with_reducible refine LeO.bind ?_ (fun _ => ?_))
   |  exact ih0 _ _ _ _
   |  exact ih1 _ _
   |  exact ih2 _ _ _
   |  exact ih3 _ _ _ _
   |  exact LeO.none _
   |  refine LeO.ite ?_ ?_
   |  refine LeO.bind ?_ (fun _ => ?_)
  ·intro y0 y1 y2
   unfold doorwardref14_Number.j2
   repeat' first
   |  (with_reducible exact ih0 _ _ _ _)
   |  (with_reducible exact ih1 _ _)
   |  (with_reducible exact ih2 _ _ _)
   |  (with_reducible exact ih3 _ _ _ _)
   |  (with_reducible exact LeO.refl _)
   |  (with_reducible exact LeO.none _)
   |  (with_reducible refine LeO.ite ?_ ?_)
   |  (with_reducible refine LeO.bind ?_ (fun _ => ?_))
   |  exact ih0 _ _ _ _
   |  exact ih1 _ _
   |  exact ih2 _ _ _
   |  exact ih3 _ _ _ _
   |  exact LeO.none _
   |  refine LeO.ite ?_ ?_
   |  refine LeO.bind ?_ (fun _ => ?_)
  ·intro y0 y1 y2 y3
   unfold doorwardref14_Number.l0
   repeat' first
   |  (with_reducible exact ih0 _ _ _ _)
   |  (with_reducible exact ih1 _ _)
   |  (with_reducible exact ih2 _ _ _)
   |  (with_reducible exact ih3 _ _ _ _)
   |  (with_reducible exact LeO.refl _)
   |  (with_reducible exact LeO.none _)
   |  (with_reducible refine LeO.ite ?_ ?_)
   |  (with_reducible refine LeO.bind ?_ (fun _ => ?_))
   |  exact ih0 _ _ _ _
   |  exact ih1 _ _
   |  exact ih2 _ _ _
   |  exact ih3 _ _ _ _
   |  exact LeO.none _
   |  refine LeO.ite ?_ ?_
   |  refine LeO.bind ?_ (fun _ => ?_)
theorem doorwardref14_Number.mono:∀ a0 k,LeO (doorwardref14_Number.f k a0) (doorwardref14_Number.f (k+1) a0):=by
 intro a0 k
 obtain ⟨ih0,ih1,ih2,ih3⟩:=doorwardref14_Number.mono_l k
 unfold doorwardref14_Number.f
 repeat' first
   |  (with_reducible exact ih0 _ _ _ _)
   |  (with_reducible exact ih1 _ _)
   |  (with_reducible exact ih2 _ _ _)
   |  (with_reducible exact ih3 _ _ _ _)
   |  (with_reducible exact LeO.refl _)
   |  (with_reducible exact LeO.none _)
   |  (with_reducible refine LeO.ite ?_ ?_)
   |  (with_reducible refine LeO.bind ?_ (fun _ => ?_))
   |  exact ih0 _ _ _ _
   |  exact ih1 _ _
   |  exact ih2 _ _ _
   |  exact ih3 _ _ _ _
   |  exact LeO.none _
   |  refine LeO.ite ?_ ?_
   |  refine LeO.bind ?_ (fun _ => ?_)
set_option maxHeartbeats 8000000 in
set_option maxRecDepth 100000 in
theorem doorwardref14_Number.calls (k:Nat) (a0:ByteArray) (r1:Int) (r2:Bool) (w:World) (hLd:LaidAt w) (h:doorwardref14_Number.f k a0=some (r1,r2)) :
  Calls Tryz.prog 69 #[.string a0] w fun e w' => e=.returned (.tuple #[.int .u64 r1,.bool r2])∧Drawn0 w w':=by
 have HLD:=Aside0.mk hLd
 clear hLd
 have H:(if (a0.size:Int) ≥ 2 then (if 0≤2 then (if 2≤(a0.size:Int) then (doorwardref14_Number.j0 k a0 10 a0 ((a0.extract 0 2).toList==([48,120]:List UInt8))) else (none)) else (none)) else (doorwardref14_Number.j0 k a0 10 a0 false))=some (r1,r2):=h
 clear h
 have HC2:=Aside0.mk H
 clear H
 go_enter Tryz.func69,Tryz.ntmps69
 go_upto_region 3 with (fail)
 go_cut [17] (fun v17 wc =>∃(kq:Nat) (x17_1:Bool),v17=.bool x17_1∧Aside0 (doorwardref14_Number.j0 kq a0 10 a0 x17_1=some (r1,r2))∧Aside0 (kq≤k)∧Drawn0 w wc)
 case first =>
  have H:=HC2.out
  clear HC2
  by_cases c3:(a0.size:Int) ≥ 2
  ·rw [if_pos c3] at H
   have c3b0:decide (2≤(a0.size:Int))=true:=decide_eq_true c3
   have c3b1:decide (2≤a0.size)=true:=decide_eq_true (by omega)
   clear c3
   (first|rw [c3b0]|(simp only [i64_w,i32_w];rw [c3b0])|skip)
   by_cases c4:0≤2
   ·rw [if_pos c4] at H
    have c4b0:=eq_true c4
    have c4b1:decide (0≤2)=true:=decide_eq_true c4
    clear c4
    by_cases c5:2≤(a0.size:Int)
    ·rw [if_pos c5] at H
     have c5b0:=eq_true c5
     have c5b1:decide (2≤(a0.size:Int))=true:=decide_eq_true c5
     clear c5
     have H':=Aside0.mk H
     clear H
     go_wp2
     go_meet
     case rel => exact ⟨_,(((a0.extract 0 2).toList==([48,120]:List UInt8))),(by first|rfl|(simp;done)|(simp [*];done)),H',⟨by first|omega|exact Nat.le_refl _⟩,by repeat (first|exact Drawn0.refl _|apply Drawn0.step)⟩
    ·rw [if_neg c5] at H
     exact absurd H (by simp)
   ·rw [if_neg c4] at H
    exact absurd H (by simp)
  ·rw [if_neg c3] at H
   have c3b0:decide (2≤(a0.size:Int))=false:=decide_eq_false c3
   have c3b1:decide (2≤a0.size)=false:=decide_eq_false (by omega)
   clear c3
   (first|rw [c3b0]|(simp only [i64_w,i32_w];rw [c3b0])|skip)
   have H':=Aside0.mk H
   clear H
   go_wp2
   go_meet
   case rel => exact ⟨_,(false),(by first|rfl|(simp;done)|(simp [*];done)),H',⟨by first|omega|exact Nat.le_refl _⟩,by repeat (first|exact Drawn0.refl _|apply Drawn0.step)⟩
 case rest =>
  clear HC2
  obtain ⟨kq,x17_1,rfl,HA,HJ1,⟨mc1,rfl⟩⟩:=hcut
  cases kq with
  |  zero => exact absurd HA.out (by simp [doorwardref14_Number.j0])
  |  succ kj1 =>
   have H:=HA.out
   clear HA
   simp only [doorwardref14_Number.j0] at H
   have HC6:=Aside0.mk H
   clear H
   go_upto_if 17 with (fail)
   go_cut [4,5] (fun v4 v5 wc =>∃(kq:Nat) (x4_5:Int) (x5_5:ByteArray),v4=.int .u64 x4_5∧v5=.string x5_5∧Aside0 (doorwardref14_Number.j1 kq x4_5 x5_5=some (r1,r2))∧Aside0 (kq≤kj1)∧Drawn0 w wc)
   case first =>
    have H:=HC6.out
    clear HC6
    by_cases c7:x17_1=true
    ·subst c7
     have H1:(if 2≤(a0.size:Int) then (if ((a0.extract 2 a0.size).size:Int)>16 then (some (0,false)) else (doorwardref14_Number.j1 kj1 16 (a0.extract 2 a0.size))) else (none))=some (r1,r2):=by rw [if_pos rfl] at H;exact H
     clear H
     have H:=H1
     clear H1
     by_cases c8:2≤(a0.size:Int)
     ·rw [if_pos c8] at H
      have c8b0:=eq_true c8
      have c8b1:decide (2≤(a0.size:Int))=true:=decide_eq_true c8
      clear c8
      by_cases c9:((a0.extract 2 a0.size).size:Int)>16
      ·rw [if_pos c9] at H
       have c9b0:decide (16<((a0.extract 2 a0.size).size:Int))=true:=decide_eq_true c9
       have c9b0z:decide (16<((a0.size - 2:Nat):Int))=true:=by rw [show a0.size - 2=(a0.extract 2 a0.size).size by simp];exact c9b0
       have c9b1:decide (16<(a0.extract 2 a0.size).size)=true:=decide_eq_true (by omega)
       clear c9
       (first|rw [c9b0]|(simp only [i64_w,i32_w];rw [c9b0])|skip)
       simp only [Option.some.injEq,Prod.mk.injEq] at H
       obtain ⟨rfl,rfl⟩:=H
       go_wp2
       go_ret2
       exact ⟨by first|rfl|(simp;done)|(simp [*];done),by repeat (first|exact Drawn0.refl _|apply Drawn0.step)⟩
      ·rw [if_neg c9] at H
       have c9b0:decide (16<((a0.extract 2 a0.size).size:Int))=false:=decide_eq_false c9
       have c9b0z:decide (16<((a0.size - 2:Nat):Int))=false:=by rw [show a0.size - 2=(a0.extract 2 a0.size).size by simp];exact c9b0
       have c9b1:decide (16<(a0.extract 2 a0.size).size)=false:=decide_eq_false (by omega)
       clear c9
       (first|rw [c9b0]|(simp only [i64_w,i32_w];rw [c9b0])|skip)
       have H':=Aside0.mk H
       clear H
       go_wp2
       go_meet
       case rel => exact ⟨_,(16),(a0.extract 2 a0.size),(by first|rfl|(simp;done)|(simp [*];done)),(by first|rfl|(simp;done)|(simp [*];done)),H',⟨by have:=HJ1.out;first|omega|exact Nat.le_refl _⟩,by repeat (first|exact Drawn0.refl _|apply Drawn0.step)⟩
     ·rw [if_neg c8] at H
      exact absurd H (by simp)
    ·replace c7:=Bool.eq_false_iff.mpr c7
     subst c7
     have H1:(doorwardref14_Number.j1 kj1 10 a0)=some (r1,r2):=by rw [if_neg (show ¬ (false=true) by decide)] at H;exact H
     clear H
     have H:=H1
     clear H1
     have H':=Aside0.mk H
     clear H
     go_wp2
     go_meet
     case rel => exact ⟨_,(10),(a0),(by first|rfl|(simp;done)|(simp [*];done)),(by first|rfl|(simp;done)|(simp [*];done)),H',⟨by have:=HJ1.out;first|omega|exact Nat.le_refl _⟩,by repeat (first|exact Drawn0.refl _|apply Drawn0.step)⟩
   case rest =>
    clear HC6
    obtain ⟨kq,x4_5,x5_5,rfl,rfl,HA,HJ5,⟨mc5,rfl⟩⟩:=hcut
    cases kq with
    |  zero => exact absurd HA.out (by simp [doorwardref14_Number.j1])
    |  succ kj5 =>
     have H:=HA.out
     clear HA
     simp only [doorwardref14_Number.j1] at H
     have HC10:=Aside0.mk H
     clear H
     go_upto_region 8 with (fail)
     go_cut [38] (fun v38 wc =>∃(kq:Nat) (x38_9:Bool),v38=.bool x38_9∧Aside0 (doorwardref14_Number.j2 kq x4_5 x5_5 x38_9=some (r1,r2))∧Aside0 (kq≤kj5)∧Drawn0 w wc)
     case first =>
      have H:=HC10.out
      clear HC10
      by_cases c11:x5_5.toList=([]:List UInt8)
      ·rw [if_pos c11] at H
       have c11b0:(x5_5.toList==([]:List UInt8))=true:=beq_iff_eq.mpr c11
       have c11b1:(x5_5.toList != ([]:List UInt8))=false:=bne_eq_false_iff_eq.mpr c11
       clear c11
       (first|rw [c11b0]|(simp only [i64_w,i32_w];rw [c11b0])|skip)
       have H':=Aside0.mk H
       clear H
       go_wp2
       go_meet
       case rel => exact ⟨_,(true),(by first|rfl|(simp;done)|(simp [*];done)),H',⟨by have:=HJ1.out;have:=HJ5.out;first|omega|exact Nat.le_refl _⟩,by repeat (first|exact Drawn0.refl _|apply Drawn0.step)⟩
      ·rw [if_neg c11] at H
       have c11b0:(x5_5.toList==([]:List UInt8))=false:=beq_eq_false_iff_ne.mpr c11
       have c11b1:(x5_5.toList != ([]:List UInt8))=true:=bne_iff_ne.mpr c11
       (first|rw [c11b0]|(simp only [i64_w,i32_w];rw [c11b0])|skip)
       by_cases c12:x4_5=10
       ·rw [if_pos c12] at H
        have c12b0:(x4_5==10)=true:=beq_iff_eq.mpr c12
        have c12b1:(x4_5 != 10)=false:=bne_eq_false_iff_eq.mpr c12
        clear c12
        by_cases c13:(x5_5.size:Int)>1
        ·rw [if_pos c13] at H
         have c13b0:decide (1<(x5_5.size:Int))=true:=decide_eq_true c13
         have c13b1:decide (1<x5_5.size)=true:=decide_eq_true (by omega)
         clear c13
         by_cases c14:0<(x5_5.size:Int)
         ·rw [if_pos c14] at H
          have c14b0:decide (0<(x5_5.size:Int))=true:=decide_eq_true c14
          have c14b1:decide (0<x5_5.size)=true:=decide_eq_true (by omega)
          clear c14
          have H':=Aside0.mk H
          clear H
          have p15:0≤(0:Int):=(by omega)
          have q15:0<x5_5.size:=(by have:(0:Int)<(x5_5.size:Int):=of_decide_eq_true (by first|(with_reducible assumption)|assumption);omega)
          have hx15:∀ h:0<x5_5.size,((x5_5[0]'h).toNat:Int)=bt x5_5 0:=bt_at x5_5 0
          clear p15
          have qi15:(0<(x5_5.size:Int))=True:=eq_true (of_decide_eq_true (by first|(with_reducible assumption)|assumption))
          replace q15:=eq_true q15
          go_wp2
          go_meet
          case rel => exact ⟨_,(((bt x5_5 0)==48)),(by first|rfl|(simp;done)|(simp [*];done)),H',⟨by have:=HJ1.out;have:=HJ5.out;first|omega|exact Nat.le_refl _⟩,by repeat (first|exact Drawn0.refl _|apply Drawn0.step)⟩
         ·rw [if_neg c14] at H
          exact absurd H (by simp)
        ·rw [if_neg c13] at H
         have c13b0:decide (1<(x5_5.size:Int))=false:=decide_eq_false c13
         have c13b1:decide (1<x5_5.size)=false:=decide_eq_false (by omega)
         clear c13
         have H':=Aside0.mk H
         clear H
         go_wp2
         go_meet
         case rel => exact ⟨_,(false),(by first|rfl|(simp;done)|(simp [*];done)),H',⟨by have:=HJ1.out;have:=HJ5.out;first|omega|exact Nat.le_refl _⟩,by repeat (first|exact Drawn0.refl _|apply Drawn0.step)⟩
       ·rw [if_neg c12] at H
        have c12b0:(x4_5==10)=false:=beq_eq_false_iff_ne.mpr c12
        have c12b1:(x4_5 != 10)=true:=bne_iff_ne.mpr c12
        have H':=Aside0.mk H
        clear H
        go_wp2
        go_meet
        case rel => exact ⟨_,(false),(by first|rfl|(simp;done)|(simp [*];done)),H',⟨by have:=HJ1.out;have:=HJ5.out;first|omega|exact Nat.le_refl _⟩,by repeat (first|exact Drawn0.refl _|apply Drawn0.step)⟩
     case rest =>
      clear HC10
      obtain ⟨kq,x38_9,rfl,HA,HJ9,⟨mc9,rfl⟩⟩:=hcut
      cases kq with
      |  zero => exact absurd HA.out (by simp [doorwardref14_Number.j2])
      |  succ kj9 =>
       have H:=HA.out
       clear HA
       simp only [doorwardref14_Number.j2] at H
       by_cases c16:x38_9=true
       ·subst c16
        have H1:(some (0,false))=some (r1,r2):=by rw [if_pos rfl] at H;exact H
        clear H
        have H:=H1
        clear H1
        simp only [Option.some.injEq,Prod.mk.injEq] at H
        obtain ⟨rfl,rfl⟩:=H
        go_wp2
        go_ret2
        exact ⟨by first|rfl|(simp;done)|(simp [*];done),by repeat (first|exact Drawn0.refl _|apply Drawn0.step)⟩
       ·replace c16:=Bool.eq_false_iff.mpr c16
        subst c16
        have H1:(doorwardref14_Number.l0 kj9 x4_5 x5_5 0 0)=some (r1,r2):=by rw [if_neg (show ¬ (false=true) by decide)] at H;exact H
        clear H
        have H:=H1
        clear H1
        have H':=Aside0.mk H
        clear H
        go_wp2
        go_loopg [6,7] kj9 (fun kq v6 v7 w' =>∃(x6_4:Int) (x7_4:Int),v6=.int .u64 x6_4∧v7=.int .i64 x7_4∧Aside0 (doorwardref14_Number.l0 kq x4_5 x5_5 x6_4 x7_4=some (r1,r2))∧Aside0 (kq≤kj9)∧Drawn0 w w')
        case atStart => exact ⟨(0),(0),(by first|rfl|(simp;done)|(simp [*];done)),(by first|rfl|(simp;done)|(simp [*];done)),H',⟨Nat.le_refl _⟩,by repeat (first|exact Drawn0.refl _|apply Drawn0.step)⟩
        case round =>
         clear H'
         obtain ⟨x6_4,x7_4,rfl,rfl,HA,HK4,⟨m4,rfl⟩⟩:=hrel
         cases gk with
         |  zero => exact absurd HA.out (by simp [doorwardref14_Number.l0])
         |  succ k4 =>
          have H:=HA.out
          clear HA
          simp only [doorwardref14_Number.l0] at H
          by_cases c17:x7_4<(x5_5.size:Int)
          ·rw [if_pos c17] at H
           have c17b0:decide (x7_4<(x5_5.size:Int))=true:=decide_eq_true c17
           clear c17
           by_cases c18:0≤x7_4
           ·rw [if_pos c18] at H
            have c18b0:decide (0≤x7_4)=true:=decide_eq_true c18
            clear c18
            replace H:=Option.bind_eq_some_iff.mp H
            obtain ⟨t171,A200,H⟩:=H
            replace H:(if t171 ≥ x4_5 then (some (0,false)) else (if x4_5=0 then (none) else (if x6_4>(IntKind.u64.wrap (Int.tdiv (IntKind.u64.wrap (18446744073709551615 - t171)) x4_5)) then (some (0,false)) else (doorwardref14_Number.l0 k4 x4_5 x5_5 (IntKind.u64.wrap ((IntKind.u64.wrap (x4_5 * x6_4))+t171)) (wrap64 (x7_4+1))))))=some (r1,r2):=H
            have A20:=Aside0.mk A200
            clear A200
            by_cases c21:t171 ≥ x4_5
            ·rw [if_pos c21] at H
             have c21b0:decide (x4_5≤t171)=true:=decide_eq_true c21
             clear c21
             simp only [Option.some.injEq,Prod.mk.injEq] at H
             obtain ⟨rfl,rfl⟩:=H
             have p19:0≤(x7_4:Int):=of_decide_eq_true (by first|(with_reducible assumption)|assumption)
             have q19:x7_4<(x5_5.size:Int):=of_decide_eq_true (by first|(with_reducible assumption)|assumption)
             have hx19:=bt_at x5_5 x7_4
             replace p19:=eq_true p19
             replace q19:=eq_true q19
             go_wp2_with (first|((with_reducible refine gate_callee (f:=88) rfl ?_);refine goesL_ (some 48) rfl rfl Tryz.func88 (by kernel_rfl) rfl #[.int .u8 (bt x5_5 x7_4)] rfl (by (try simp only [List.map_toArray,List.map_cons,List.map_nil]);first|done|rfl|(simp only [List.length_drop,List.length_take];rfl)) ?_;(with_reducible refine (doorwardref14_value.calls (bt x5_5 x7_4) t171 _ ?side1 A20.out).mono ?_);(case side1 => (with_reducible repeat (first|exact HLD.out|apply LaidAt.drewN|apply LaidAt.drew|apply LaidAt.alloc)));rintro e w' ⟨rfl,⟨nd,rfl⟩⟩;refine ⟨_,rfl,?_⟩))
             go_ret2
             exact ⟨by first|rfl|(simp;done)|(simp [*];done),by repeat (first|exact Drawn0.refl _|apply Drawn0.step)⟩
            ·rw [if_neg c21] at H
             have c21b0:decide (x4_5≤t171)=false:=decide_eq_false c21
             clear c21
             by_cases c22:x4_5=0
             ·rw [if_pos c22] at H
              exact absurd H (by simp)
             ·rw [if_neg c22] at H
              have c22b0:(x4_5==0)=false:=beq_eq_false_iff_ne.mpr c22
              have c22b1:(x4_5 != 0)=true:=bne_iff_ne.mpr c22
              by_cases c23:x6_4>(IntKind.u64.wrap (Int.tdiv (IntKind.u64.wrap (18446744073709551615 - t171)) x4_5))
              ·rw [if_pos c23] at H
               have c23b0:decide ((IntKind.u64.wrap (Int.tdiv (IntKind.u64.wrap (18446744073709551615 - t171)) x4_5))<x6_4)=true:=decide_eq_true c23
               clear c23
               simp only [Option.some.injEq,Prod.mk.injEq] at H
               obtain ⟨rfl,rfl⟩:=H
               have p19:0≤(x7_4:Int):=of_decide_eq_true (by first|(with_reducible assumption)|assumption)
               have q19:x7_4<(x5_5.size:Int):=of_decide_eq_true (by first|(with_reducible assumption)|assumption)
               have hx19:=bt_at x5_5 x7_4
               replace p19:=eq_true p19
               replace q19:=eq_true q19
               go_wp2_with (first|((with_reducible refine gate_callee (f:=88) rfl ?_);refine goesL_ (some 48) rfl rfl Tryz.func88 (by kernel_rfl) rfl #[.int .u8 (bt x5_5 x7_4)] rfl (by (try simp only [List.map_toArray,List.map_cons,List.map_nil]);first|done|rfl|(simp only [List.length_drop,List.length_take];rfl)) ?_;(with_reducible refine (doorwardref14_value.calls (bt x5_5 x7_4) t171 _ ?side1 A20.out).mono ?_);(case side1 => (with_reducible repeat (first|exact HLD.out|apply LaidAt.drewN|apply LaidAt.drew|apply LaidAt.alloc)));rintro e w' ⟨rfl,⟨nd,rfl⟩⟩;refine ⟨_,rfl,?_⟩))
               go_ret2
               exact ⟨by first|rfl|(simp;done)|(simp [*];done),by repeat (first|exact Drawn0.refl _|apply Drawn0.step)⟩
              ·rw [if_neg c23] at H
               have c23b0:decide ((IntKind.u64.wrap (Int.tdiv (IntKind.u64.wrap (18446744073709551615 - t171)) x4_5))<x6_4)=false:=decide_eq_false c23
               clear c23
               have H':=Aside0.mk H
               clear H
               have p19:0≤(x7_4:Int):=of_decide_eq_true (by first|(with_reducible assumption)|assumption)
               have q19:x7_4<(x5_5.size:Int):=of_decide_eq_true (by first|(with_reducible assumption)|assumption)
               have hx19:=bt_at x5_5 x7_4
               replace p19:=eq_true p19
               replace q19:=eq_true q19
               go_wp2_with (first|((with_reducible refine gate_callee (f:=88) rfl ?_);refine goesL_ (some 48) rfl rfl Tryz.func88 (by kernel_rfl) rfl #[.int .u8 (bt x5_5 x7_4)] rfl (by (try simp only [List.map_toArray,List.map_cons,List.map_nil]);first|done|rfl|(simp only [List.length_drop,List.length_take];rfl)) ?_;(with_reducible refine (doorwardref14_value.calls (bt x5_5 x7_4) t171 _ ?side1 A20.out).mono ?_);(case side1 => (with_reducible repeat (first|exact HLD.out|apply LaidAt.drewN|apply LaidAt.drew|apply LaidAt.alloc)));rintro e w' ⟨rfl,⟨nd,rfl⟩⟩;refine ⟨_,rfl,?_⟩))
               go_roundg k4
               case measure => have:=HJ1.out;have:=HJ5.out;have:=HJ9.out;have:=HK4.out;omega
               case rel => exact ⟨(IntKind.u64.wrap ((IntKind.u64.wrap (x4_5 * x6_4))+t171)),(wrap64 (x7_4+1)),(by first|rfl|(simp;done)|(simp [*];done)),(by first|rfl|(simp;done)|(simp [*];done)),H',⟨by have:=HJ1.out;have:=HJ5.out;have:=HJ9.out;have:=HK4.out;omega⟩,by repeat (first|exact Drawn0.refl _|apply Drawn0.step)⟩
           ·rw [if_neg c18] at H
            exact absurd H (by simp)
          ·rw [if_neg c17] at H
           have c17b0:decide (x7_4<(x5_5.size:Int))=false:=decide_eq_false c17
           clear c17
           simp only [Option.some.injEq,Prod.mk.injEq] at H
           obtain ⟨rfl,rfl⟩:=H
           go_wp2
           go_ret2
           exact ⟨by first|rfl|(simp;done)|(simp [*];done),by repeat (first|exact Drawn0.refl _|apply Drawn0.step)⟩

end Go.Proofs.YtdfjjimmnbijmaaGreatDoor.ZQ

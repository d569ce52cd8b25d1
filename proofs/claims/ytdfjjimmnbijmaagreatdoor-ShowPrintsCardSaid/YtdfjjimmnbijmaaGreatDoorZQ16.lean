-- Written for this claim by myprint.py over the kit's print (functions of this session supplied)
import Derived.Test.YtdfjjimmnbijmaaGreatDoorZQ0
import Derived.Test.YtdfjjimmnbijmaaGreatDoorZQ3
import Derived.Test.YtdfjjimmnbijmaaGreatDoorZQ15
namespace Go.Proofs.YtdfjjimmnbijmaaGreatDoor.ZQ
open Go.RowKit Go.Proofs.YtdfjjimmnbijmaaGreatDoorW.PrintWords Go.Proofs.YtdfjjimmnbijmaaGreatDoorW.PrintLast Go.Proofs.YtdfjjimmnbijmaaGreatDoorW.PrintMore Go.Proofs.YtdfjjimmnbijmaaGreatDoor.Base
attribute [local go_sem] max2_int min2_int max_two min_two max_three min_three max_four min_four   -- for this text's walks alone
set_option linter.unusedVariables false
set_option linter.unusedSimpArgs false

/-! ### doorwardref14_sign: function 70 -/
mutual
def doorwardref14_sign.j0:Nat→Int→Bool→Option (Int)
 |  0,_,_ => none
 |  k+1,x5,x6 => if x6=true then (if x5=61 then (doorwardref14_sign.j1 k x5 true) else (if x5=33 then (doorwardref14_sign.j1 k x5 true) else (if x5=60 then (doorwardref14_sign.j1 k x5 true) else (doorwardref14_sign.j1 k x5 (x5==62))))) else (doorwardref14_sign.j1 k x5 false)
def doorwardref14_sign.j1:Nat→Int→Bool→Option (Int)
 |  0,_,_ => none
 |  k+1,x5,x38 => if x38=true then (some 2) else (if x5=60 then (some 1) else (if x5=62 then (some 1) else (if x5=38 then (some 1) else (if x5=40 then (some 1) else (if x5=41 then (some 1) else (some 0))))))
end
def doorwardref14_sign.f (k:Nat) (a0:ByteArray) (a1:Int):Option (Int):=if 0≤a1 then (if a1<(a0.size:Int) then (if (wrap64 (a1+1))<(a0.size:Int) then (if 0≤(wrap64 (a1+1)) then (doorwardref14_sign.j0 k (bt a0 a1) ((bt a0 (wrap64 (a1+1)))==61)) else (none)) else (doorwardref14_sign.j0 k (bt a0 a1) false)) else (none)) else (none)
theorem doorwardref14_sign.mono_l:∀ k,(∀ y0 y1,LeO (doorwardref14_sign.j0 k y0 y1) (doorwardref14_sign.j0 (k+1) y0 y1))∧(∀ y0 y1,LeO (doorwardref14_sign.j1 k y0 y1) (doorwardref14_sign.j1 (k+1) y0 y1))
 |  0 => ⟨fun _ _ r h => by simp [doorwardref14_sign.j0] at h,fun _ _ r h => by simp [doorwardref14_sign.j1] at h⟩
 |  k+1 => by
  obtain ⟨ih0,ih1⟩:=doorwardref14_sign.mono_l k
  refine ⟨?_,?_⟩
  ·intro y0 y1
   unfold doorwardref14_sign.j0
   repeat' first
   |  (with_reducible exact ih0 _ _)
   |  (with_reducible exact ih1 _ _)
   |  (with_reducible exact LeO.refl _)
   |  (with_reducible exact LeO.none _)
   |  (with_reducible refine LeO.ite ?_ ?_)
   |  (with_reducible refine LeO.bind ?_ (fun _ => ?_))
   |  exact ih0 _ _
   |  exact ih1 _ _
   |  exact LeO.none _
   |  refine LeO.ite ?_ ?_
   |  refine LeO.bind ?_ (fun _ => ?_)
  ·intro y0 y1
   unfold doorwardref14_sign.j1
   repeat' first
   |  (with_reducible exact ih0 _ _)
   |  (with_reducible exact ih1 _ _)
   |  (with_reducible exact LeO.refl _)
   |  (with_reducible exact LeO.none _)
   |  (with_reducible refine LeO.ite ?_ ?_)
   |  (with_reducible refine LeO.bind ?_ (fun _ => ?_))
   |  exact ih0 _ _
   |  exact ih1 _ _
   |  exact LeO.none _
   |  refine LeO.ite ?_ ?_
   |  refine LeO.bind ?_ (fun _ => ?_)
theorem doorwardref14_sign.mono:∀ a0 a1 k,LeO (doorwardref14_sign.f k a0 a1) (doorwardref14_sign.f (k+1) a0 a1):=by
 intro a0 a1 k
 obtain ⟨ih0,ih1⟩:=doorwardref14_sign.mono_l k
 unfold doorwardref14_sign.f
 repeat' first
   |  (with_reducible exact ih0 _ _)
   |  (with_reducible exact ih1 _ _)
   |  (with_reducible exact LeO.refl _)
   |  (with_reducible exact LeO.none _)
   |  (with_reducible refine LeO.ite ?_ ?_)
   |  (with_reducible refine LeO.bind ?_ (fun _ => ?_))
   |  exact ih0 _ _
   |  exact ih1 _ _
   |  exact LeO.none _
   |  refine LeO.ite ?_ ?_
   |  refine LeO.bind ?_ (fun _ => ?_)
set_option maxHeartbeats 8000000 in
set_option maxRecDepth 100000 in
theorem doorwardref14_sign.calls (k:Nat) (a0:ByteArray) (a1:Int) (r:Int) (w:World) (hLd:LaidAt w) (h:doorwardref14_sign.f k a0 a1=some r) :
  Calls Tryz.prog 70 #[.string a0,.int .i64 a1] w fun e w' => e=.returned (.int .i64 r)∧Drawn0 w w':=by
 have HLD:=Aside0.mk hLd
 clear hLd
 have H:(if 0≤a1 then (if a1<(a0.size:Int) then (if (wrap64 (a1+1))<(a0.size:Int) then (if 0≤(wrap64 (a1+1)) then (doorwardref14_sign.j0 k (bt a0 a1) ((bt a0 (wrap64 (a1+1)))==61)) else (none)) else (doorwardref14_sign.j0 k (bt a0 a1) false)) else (none)) else (none))=some r:=h
 clear h
 by_cases c3:0≤a1
 ·rw [if_pos c3] at H
  have c3b0:decide (0≤a1)=true:=decide_eq_true c3
  clear c3
  by_cases c4:a1<(a0.size:Int)
  ·rw [if_pos c4] at H
   have c4b0:decide (a1<(a0.size:Int))=true:=decide_eq_true c4
   clear c4
   have HC6:=Aside0.mk H
   clear H
   have p5:0≤(a1:Int):=of_decide_eq_true (by first|(with_reducible assumption)|assumption)
   have q5:a1<(a0.size:Int):=of_decide_eq_true (by first|(with_reducible assumption)|assumption)
   have hx5:=bt_at a0 a1
   replace p5:=eq_true p5
   replace q5:=eq_true q5
   go_enter Tryz.func70,Tryz.ntmps70
   go_upto_region 2 with (fail)
   go_cut [6] (fun v6 wc =>∃(kq:Nat) (x6_5:Bool),v6=.bool x6_5∧Aside0 (doorwardref14_sign.j0 kq (bt a0 a1) x6_5=some r)∧Aside0 (kq≤k)∧Drawn0 w wc)
   case first =>
    have H:=HC6.out
    clear HC6
    by_cases c7:(wrap64 (a1+1))<(a0.size:Int)
    ·rw [if_pos c7] at H
     have c7b0:decide ((wrap64 (a1+1))<(a0.size:Int))=true:=decide_eq_true c7
     clear c7
     (first|rw [c7b0]|(simp only [i64_w,i32_w];rw [c7b0])|skip)
     obtain ⟨ji8,hji8⟩:∃ j_:Int,(wrap64 (a1+1))=j_:=⟨_,rfl⟩
     replace H:(if 0≤(ji8) then (doorwardref14_sign.j0 k (bt a0 a1) ((bt a0 (ji8))==61)) else (none))=some r:=by first|(rw [hji8] at H;exact H)|(simp only [hji8] at H ⊢;exact H)
     (try rw [hji8] at c7b0)
     have hji8w:(IntKind.i64.wrap (a1+1))=ji8:=(i64_w _).trans hji8
     by_cases c9:0≤(ji8)
     ·rw [if_pos c9] at H
      have c9b0:decide (0≤(ji8))=true:=decide_eq_true c9
      clear c9
      have H':=Aside0.mk H
      clear H
      have p10:0≤((ji8):Int):=of_decide_eq_true (by first|(with_reducible assumption)|assumption)
      have q10:(ji8)<(a0.size:Int):=of_decide_eq_true (by first|(with_reducible assumption)|assumption)
      have hx10:=bt_at a0 (ji8)
      replace p10:=eq_true p10
      replace q10:=eq_true q10
      go_wp2
      go_meet
      case rel => exact ⟨_,(((bt a0 (ji8))==61)),(by first|rfl|(simp;done)|(simp only [← hji8]<;>(first|rfl|simp))|(simp [*];done)),H',⟨by first|omega|exact Nat.le_refl _⟩,by repeat (first|exact Drawn0.refl _|apply Drawn0.step)⟩
     ·rw [if_neg c9] at H
      exact absurd H (by simp)
    ·rw [if_neg c7] at H
     have c7b0:decide ((wrap64 (a1+1))<(a0.size:Int))=false:=decide_eq_false c7
     clear c7
     (first|rw [c7b0]|(simp only [i64_w,i32_w];rw [c7b0])|skip)
     have H':=Aside0.mk H
     clear H
     go_wp2
     go_meet
     case rel => exact ⟨_,(false),(by first|rfl|(simp;done)|(simp [*];done)),H',⟨by first|omega|exact Nat.le_refl _⟩,by repeat (first|exact Drawn0.refl _|apply Drawn0.step)⟩
   case rest =>
    clear HC6
    obtain ⟨kq,x6_5,rfl,HA,HJ5,⟨mc5,rfl⟩⟩:=hcut
    cases kq with
    |  zero => exact absurd HA.out (by simp [doorwardref14_sign.j0])
    |  succ kj5 =>
     have H:=HA.out
     clear HA
     simp only [doorwardref14_sign.j0] at H
     have HC11:=Aside0.mk H
     clear H
     go_upto_region 3 with (fail)
     go_cut [38] (fun v38 wc =>∃(kq:Nat) (x38_10:Bool),v38=.bool x38_10∧Aside0 (doorwardref14_sign.j1 kq (bt a0 a1) x38_10=some r)∧Aside0 (kq≤kj5)∧Drawn0 w wc)
     case first =>
      have H:=HC11.out
      clear HC11
      by_cases c12:x6_5=true
      ·subst c12
       have H1:(if (bt a0 a1)=61 then (doorwardref14_sign.j1 kj5 (bt a0 a1) true) else (if (bt a0 a1)=33 then (doorwardref14_sign.j1 kj5 (bt a0 a1) true) else (if (bt a0 a1)=60 then (doorwardref14_sign.j1 kj5 (bt a0 a1) true) else (doorwardref14_sign.j1 kj5 (bt a0 a1) ((bt a0 a1)==62)))))=some r:=by rw [if_pos rfl] at H;exact H
       clear H
       have H:=H1
       clear H1
       by_cases c13:(bt a0 a1)=61
       ·rw [if_pos c13] at H
        have c13b0:((bt a0 a1)==61)=true:=beq_iff_eq.mpr c13
        have c13b1:((bt a0 a1) != 61)=false:=bne_eq_false_iff_eq.mpr c13
        clear c13
        (first|rw [c13b0]|(simp only [i64_w,i32_w];rw [c13b0])|skip)
        have H':=Aside0.mk H
        clear H
        go_wp2
        go_meet
        case rel => exact ⟨_,(true),(by first|rfl|(simp;done)|(simp [*];done)),H',⟨by have:=HJ5.out;first|omega|exact Nat.le_refl _⟩,by repeat (first|exact Drawn0.refl _|apply Drawn0.step)⟩
       ·rw [if_neg c13] at H
        have c13b0:((bt a0 a1)==61)=false:=beq_eq_false_iff_ne.mpr c13
        have c13b1:((bt a0 a1) != 61)=true:=bne_iff_ne.mpr c13
        (first|rw [c13b0]|(simp only [i64_w,i32_w];rw [c13b0])|skip)
        by_cases c14:(bt a0 a1)=33
        ·rw [if_pos c14] at H
         have c14b0:((bt a0 a1)==33)=true:=beq_iff_eq.mpr c14
         have c14b1:((bt a0 a1) != 33)=false:=bne_eq_false_iff_eq.mpr c14
         clear c14
         have H':=Aside0.mk H
         clear H
         go_wp2
         go_meet
         case rel => exact ⟨_,(true),(by first|rfl|(simp;done)|(simp [*];done)),H',⟨by have:=HJ5.out;first|omega|exact Nat.le_refl _⟩,by repeat (first|exact Drawn0.refl _|apply Drawn0.step)⟩
        ·rw [if_neg c14] at H
         have c14b0:((bt a0 a1)==33)=false:=beq_eq_false_iff_ne.mpr c14
         have c14b1:((bt a0 a1) != 33)=true:=bne_iff_ne.mpr c14
         by_cases c15:(bt a0 a1)=60
         ·rw [if_pos c15] at H
          have c15b0:((bt a0 a1)==60)=true:=beq_iff_eq.mpr c15
          have c15b1:((bt a0 a1) != 60)=false:=bne_eq_false_iff_eq.mpr c15
          clear c15
          have H':=Aside0.mk H
          clear H
          go_wp2
          go_meet
          case rel => exact ⟨_,(true),(by first|rfl|(simp;done)|(simp [*];done)),H',⟨by have:=HJ5.out;first|omega|exact Nat.le_refl _⟩,by repeat (first|exact Drawn0.refl _|apply Drawn0.step)⟩
         ·rw [if_neg c15] at H
          have c15b0:((bt a0 a1)==60)=false:=beq_eq_false_iff_ne.mpr c15
          have c15b1:((bt a0 a1) != 60)=true:=bne_iff_ne.mpr c15
          have H':=Aside0.mk H
          clear H
          go_wp2
          go_meet
          case rel => exact ⟨_,(((bt a0 a1)==62)),(by first|rfl|(simp;done)|(simp [*];done)),H',⟨by have:=HJ5.out;first|omega|exact Nat.le_refl _⟩,by repeat (first|exact Drawn0.refl _|apply Drawn0.step)⟩
      ·replace c12:=Bool.eq_false_iff.mpr c12
       subst c12
       have H1:(doorwardref14_sign.j1 kj5 (bt a0 a1) false)=some r:=by rw [if_neg (show ¬ (false=true) by decide)] at H;exact H
       clear H
       have H:=H1
       clear H1
       have H':=Aside0.mk H
       clear H
       go_wp2
       go_meet
       case rel => exact ⟨_,(false),(by first|rfl|(simp;done)|(simp [*];done)),H',⟨by have:=HJ5.out;first|omega|exact Nat.le_refl _⟩,by repeat (first|exact Drawn0.refl _|apply Drawn0.step)⟩
     case rest =>
      clear HC11
      obtain ⟨kq,x38_10,rfl,HA,HJ10,⟨mc10,rfl⟩⟩:=hcut
      cases kq with
      |  zero => exact absurd HA.out (by simp [doorwardref14_sign.j1])
      |  succ kj10 =>
       have H:=HA.out
       clear HA
       simp only [doorwardref14_sign.j1] at H
       by_cases c16:x38_10=true
       ·subst c16
        have H1:(some 2)=some r:=by rw [if_pos rfl] at H;exact H
        clear H
        have H:=H1
        clear H1
        obtain rfl:=Option.some.inj H
        go_wp2
        go_ret
        exact ⟨by first|rfl|(simp;done)|(simp [*];done),by repeat (first|exact Drawn0.refl _|apply Drawn0.step)⟩
       ·replace c16:=Bool.eq_false_iff.mpr c16
        subst c16
        have H1:(if (bt a0 a1)=60 then (some 1) else (if (bt a0 a1)=62 then (some 1) else (if (bt a0 a1)=38 then (some 1) else (if (bt a0 a1)=40 then (some 1) else (if (bt a0 a1)=41 then (some 1) else (some 0))))))=some r:=by rw [if_neg (show ¬ (false=true) by decide)] at H;exact H
        clear H
        have H:=H1
        clear H1
        by_cases c17:(bt a0 a1)=60
        ·rw [if_pos c17] at H
         have c17b0:((bt a0 a1)==60)=true:=beq_iff_eq.mpr c17
         have c17b1:((bt a0 a1) != 60)=false:=bne_eq_false_iff_eq.mpr c17
         clear c17
         obtain rfl:=Option.some.inj H
         go_wp2
         go_ret
         exact ⟨by first|rfl|(simp;done)|(simp [*];done),by repeat (first|exact Drawn0.refl _|apply Drawn0.step)⟩
        ·rw [if_neg c17] at H
         have c17b0:((bt a0 a1)==60)=false:=beq_eq_false_iff_ne.mpr c17
         have c17b1:((bt a0 a1) != 60)=true:=bne_iff_ne.mpr c17
         by_cases c18:(bt a0 a1)=62
         ·rw [if_pos c18] at H
          have c18b0:((bt a0 a1)==62)=true:=beq_iff_eq.mpr c18
          have c18b1:((bt a0 a1) != 62)=false:=bne_eq_false_iff_eq.mpr c18
          clear c18
          obtain rfl:=Option.some.inj H
          go_wp2
          go_ret
          exact ⟨by first|rfl|(simp;done)|(simp [*];done),by repeat (first|exact Drawn0.refl _|apply Drawn0.step)⟩
         ·rw [if_neg c18] at H
          have c18b0:((bt a0 a1)==62)=false:=beq_eq_false_iff_ne.mpr c18
          have c18b1:((bt a0 a1) != 62)=true:=bne_iff_ne.mpr c18
          by_cases c19:(bt a0 a1)=38
          ·rw [if_pos c19] at H
           have c19b0:((bt a0 a1)==38)=true:=beq_iff_eq.mpr c19
           have c19b1:((bt a0 a1) != 38)=false:=bne_eq_false_iff_eq.mpr c19
           clear c19
           obtain rfl:=Option.some.inj H
           go_wp2
           go_ret
           exact ⟨by first|rfl|(simp;done)|(simp [*];done),by repeat (first|exact Drawn0.refl _|apply Drawn0.step)⟩
          ·rw [if_neg c19] at H
           have c19b0:((bt a0 a1)==38)=false:=beq_eq_false_iff_ne.mpr c19
           have c19b1:((bt a0 a1) != 38)=true:=bne_iff_ne.mpr c19
           by_cases c20:(bt a0 a1)=40
           ·rw [if_pos c20] at H
            have c20b0:((bt a0 a1)==40)=true:=beq_iff_eq.mpr c20
            have c20b1:((bt a0 a1) != 40)=false:=bne_eq_false_iff_eq.mpr c20
            clear c20
            obtain rfl:=Option.some.inj H
            go_wp2
            go_ret
            exact ⟨by first|rfl|(simp;done)|(simp [*];done),by repeat (first|exact Drawn0.refl _|apply Drawn0.step)⟩
           ·rw [if_neg c20] at H
            have c20b0:((bt a0 a1)==40)=false:=beq_eq_false_iff_ne.mpr c20
            have c20b1:((bt a0 a1) != 40)=true:=bne_iff_ne.mpr c20
            by_cases c21:(bt a0 a1)=41
            ·rw [if_pos c21] at H
             have c21b0:((bt a0 a1)==41)=true:=beq_iff_eq.mpr c21
             have c21b1:((bt a0 a1) != 41)=false:=bne_eq_false_iff_eq.mpr c21
             clear c21
             obtain rfl:=Option.some.inj H
             go_wp2
             go_ret
             exact ⟨by first|rfl|(simp;done)|(simp [*];done),by repeat (first|exact Drawn0.refl _|apply Drawn0.step)⟩
            ·rw [if_neg c21] at H
             have c21b0:((bt a0 a1)==41)=false:=beq_eq_false_iff_ne.mpr c21
             have c21b1:((bt a0 a1) != 41)=true:=bne_iff_ne.mpr c21
             obtain rfl:=Option.some.inj H
             go_wp2
             go_ret
             exact ⟨by first|rfl|(simp;done)|(simp [*];done),by repeat (first|exact Drawn0.refl _|apply Drawn0.step)⟩
  ·rw [if_neg c4] at H
   exact absurd H (by simp)
 ·rw [if_neg c3] at H
  exact absurd H (by simp)

/-! ### doorwardref14_Token: function 37 -/
mutual
def doorwardref14_Token.j0:Nat→ByteArray→Int→Int→Bool→Option (Int × Int)
 |  0,_,_,_,_ => none
 |  k+1,x0,x1,x6,x23 => if x23=true then (some ((-1),wrap64 (x1+1))) else (if x6=35 then (doorwardref14_Token.l0 k x0 x1) else (if x6=10 then (some (4,wrap64 (x1+1))) else ((doorwardref14_letter.f x6).bind fun t172 => (if t172=true then ((doorwardref14_end.f k x0 x1).bind fun t173 => (some (1,t173))) else ((doorwardref14_digit.f x6).bind fun t174 => (if t174=true then ((doorwardref14_end.f k x0 x1).bind fun t175 => (if 0≤x1 then (if x1≤t175 then (if t175≤(x0.size:Int) then ((doorwardref14_Number.f k (x0.extract (x1:Int).toNat (t175:Int).toNat)).bind fun bt176 => (if bt176.2=true then (some (2,t175)) else (some ((-2),x1)))) else (none)) else (none)) else (none))) else ((doorwardref14_sign.f k x0 x1).bind fun t178 => (if t178>0 then (some (3,wrap64 (x1+t178))) else (some ((-2),x1))))))))))
def doorwardref14_Token.l0:Nat→ByteArray→Int→Option (Int × Int)
 |  0,_,_ => none
 |  k+1,x0,x1 => if x1<(x0.size:Int) then (if 0≤x1 then (if (bt x0 x1)=10 then (some ((-1),x1)) else (doorwardref14_Token.l0 k x0 (wrap64 (x1+1)))) else (none)) else (some ((-1),x1))
end
def doorwardref14_Token.f (k:Nat) (a0:ByteArray) (a1:Int):Option (Int × Int):=if 0≤a1 then (if a1<(a0.size:Int) then (if (bt a0 a1)=32 then (doorwardref14_Token.j0 k a0 a1 (bt a0 a1) true) else (if (bt a0 a1)=9 then (doorwardref14_Token.j0 k a0 a1 (bt a0 a1) true) else (doorwardref14_Token.j0 k a0 a1 (bt a0 a1) ((bt a0 a1)==13)))) else (none)) else (none)
theorem doorwardref14_Token.mono_l:∀ k,(∀ y0 y1 y2 y3,LeO (doorwardref14_Token.j0 k y0 y1 y2 y3) (doorwardref14_Token.j0 (k+1) y0 y1 y2 y3))∧(∀ y0 y1,LeO (doorwardref14_Token.l0 k y0 y1) (doorwardref14_Token.l0 (k+1) y0 y1))
 |  0 => ⟨fun _ _ _ _ r h => by simp [doorwardref14_Token.j0] at h,fun _ _ r h => by simp [doorwardref14_Token.l0] at h⟩
 |  k+1 => by
  obtain ⟨ih0,ih1⟩:=doorwardref14_Token.mono_l k
  refine ⟨?_,?_⟩
  ·intro y0 y1 y2 y3
   unfold doorwardref14_Token.j0
   repeat' first
   |  (with_reducible exact ih0 _ _ _ _)
   |  (with_reducible exact ih1 _ _)
   |  (with_reducible exact doorwardref14_Number.mono _ _)
   |  (with_reducible exact doorwardref14_end.mono _ _ _)
   |  (with_reducible exact doorwardref14_sign.mono _ _ _)
   |  (with_reducible exact LeO.refl _)
   |  (with_reducible exact LeO.none _)
   |  (with_reducible refine LeO.ite ?_ ?_)
   |  (with_reducible refine LeO.bind ?_ (fun _ => ?_))
   |  exact ih0 _ _ _ _
   |  exact ih1 _ _
   |  exact doorwardref14_Number.mono _ _
   |  exact doorwardref14_end.mono _ _ _
   |  exact doorwardref14_sign.mono _ _ _
   |  exact LeO.none _
   |  refine LeO.ite ?_ ?_
   |  refine LeO.bind ?_ (fun _ => ?_)
  ·intro y0 y1
   unfold doorwardref14_Token.l0
   repeat' first
   |  (with_reducible exact ih0 _ _ _ _)
   |  (with_reducible exact ih1 _ _)
   |  (with_reducible exact doorwardref14_Number.mono _ _)
   |  (with_reducible exact doorwardref14_end.mono _ _ _)
   |  (with_reducible exact doorwardref14_sign.mono _ _ _)
   |  (with_reducible exact LeO.refl _)
   |  (with_reducible exact LeO.none _)
   |  (with_reducible refine LeO.ite ?_ ?_)
   |  (with_reducible refine LeO.bind ?_ (fun _ => ?_))
   |  exact ih0 _ _ _ _
   |  exact ih1 _ _
   |  exact doorwardref14_Number.mono _ _
   |  exact doorwardref14_end.mono _ _ _
   |  exact doorwardref14_sign.mono _ _ _
   |  exact LeO.none _
   |  refine LeO.ite ?_ ?_
   |  refine LeO.bind ?_ (fun _ => ?_)
theorem doorwardref14_Token.mono:∀ a0 a1 k,LeO (doorwardref14_Token.f k a0 a1) (doorwardref14_Token.f (k+1) a0 a1):=by
 intro a0 a1 k
 obtain ⟨ih0,ih1⟩:=doorwardref14_Token.mono_l k
 unfold doorwardref14_Token.f
 repeat' first
   |  (with_reducible exact ih0 _ _ _ _)
   |  (with_reducible exact ih1 _ _)
   |  (with_reducible exact doorwardref14_Number.mono _ _)
   |  (with_reducible exact doorwardref14_end.mono _ _ _)
   |  (with_reducible exact doorwardref14_sign.mono _ _ _)
   |  (with_reducible exact LeO.refl _)
   |  (with_reducible exact LeO.none _)
   |  (with_reducible refine LeO.ite ?_ ?_)
   |  (with_reducible refine LeO.bind ?_ (fun _ => ?_))
   |  exact ih0 _ _ _ _
   |  exact ih1 _ _
   |  exact doorwardref14_Number.mono _ _
   |  exact doorwardref14_end.mono _ _ _
   |  exact doorwardref14_sign.mono _ _ _
   |  exact LeO.none _
   |  refine LeO.ite ?_ ?_
   |  refine LeO.bind ?_ (fun _ => ?_)
set_option maxHeartbeats 8000000 in
set_option maxRecDepth 100000 in
theorem doorwardref14_Token.calls (k:Nat) (a0:ByteArray) (a1:Int) (r1:Int) (r2:Int) (w:World) (hLd:LaidAt w) (h:doorwardref14_Token.f k a0 a1=some (r1,r2)) :
  Calls Tryz.prog 37 #[.string a0,.int .i64 a1] w fun e w' => e=.returned (.tuple #[.int .i64 r1,.int .i64 r2])∧Drawn0 w w':=by
 have HLD:=Aside0.mk hLd
 clear hLd
 have H:(if 0≤a1 then (if a1<(a0.size:Int) then (if (bt a0 a1)=32 then (doorwardref14_Token.j0 k a0 a1 (bt a0 a1) true) else (if (bt a0 a1)=9 then (doorwardref14_Token.j0 k a0 a1 (bt a0 a1) true) else (doorwardref14_Token.j0 k a0 a1 (bt a0 a1) ((bt a0 a1)==13)))) else (none)) else (none))=some (r1,r2):=h
 clear h
 by_cases c3:0≤a1
 ·rw [if_pos c3] at H
  have c3b0:decide (0≤a1)=true:=decide_eq_true c3
  clear c3
  by_cases c4:a1<(a0.size:Int)
  ·rw [if_pos c4] at H
   have c4b0:decide (a1<(a0.size:Int))=true:=decide_eq_true c4
   clear c4
   have HC6:=Aside0.mk H
   clear H
   have p5:0≤(a1:Int):=of_decide_eq_true (by first|(with_reducible assumption)|assumption)
   have q5:a1<(a0.size:Int):=of_decide_eq_true (by first|(with_reducible assumption)|assumption)
   have hx5:=bt_at a0 a1
   replace p5:=eq_true p5
   replace q5:=eq_true q5
   go_enter Tryz.func37,Tryz.ntmps37
   go_upto_region 2 with (fail)
   go_cut [23] (fun v23 wc =>∃(kq:Nat) (x23_5:Bool),v23=.bool x23_5∧Aside0 (doorwardref14_Token.j0 kq a0 a1 (bt a0 a1) x23_5=some (r1,r2))∧Aside0 (kq≤k)∧Drawn0 w wc)
   case first =>
    have H:=HC6.out
    clear HC6
    by_cases c7:(bt a0 a1)=32
    ·rw [if_pos c7] at H
     have c7b0:((bt a0 a1)==32)=true:=beq_iff_eq.mpr c7
     have c7b1:((bt a0 a1) != 32)=false:=bne_eq_false_iff_eq.mpr c7
     clear c7
     (first|rw [c7b0]|(simp only [i64_w,i32_w];rw [c7b0])|skip)
     have H':=Aside0.mk H
     clear H
     go_wp2
     go_meet
     case rel => exact ⟨_,(true),(by first|rfl|(simp;done)|(simp [*];done)),H',⟨by first|omega|exact Nat.le_refl _⟩,by repeat (first|exact Drawn0.refl _|apply Drawn0.step)⟩
    ·rw [if_neg c7] at H
     have c7b0:((bt a0 a1)==32)=false:=beq_eq_false_iff_ne.mpr c7
     have c7b1:((bt a0 a1) != 32)=true:=bne_iff_ne.mpr c7
     (first|rw [c7b0]|(simp only [i64_w,i32_w];rw [c7b0])|skip)
     by_cases c8:(bt a0 a1)=9
     ·rw [if_pos c8] at H
      have c8b0:((bt a0 a1)==9)=true:=beq_iff_eq.mpr c8
      have c8b1:((bt a0 a1) != 9)=false:=bne_eq_false_iff_eq.mpr c8
      clear c8
      have H':=Aside0.mk H
      clear H
      go_wp2
      go_meet
      case rel => exact ⟨_,(true),(by first|rfl|(simp;done)|(simp [*];done)),H',⟨by first|omega|exact Nat.le_refl _⟩,by repeat (first|exact Drawn0.refl _|apply Drawn0.step)⟩
     ·rw [if_neg c8] at H
      have c8b0:((bt a0 a1)==9)=false:=beq_eq_false_iff_ne.mpr c8
      have c8b1:((bt a0 a1) != 9)=true:=bne_iff_ne.mpr c8
      have H':=Aside0.mk H
      clear H
      go_wp2
      go_meet
      case rel => exact ⟨_,(((bt a0 a1)==13)),(by first|rfl|(simp;done)|(simp [*];done)),H',⟨by first|omega|exact Nat.le_refl _⟩,by repeat (first|exact Drawn0.refl _|apply Drawn0.step)⟩
   case rest =>
    clear HC6
    obtain ⟨kq,x23_5,rfl,HA,HJ5,⟨mc5,rfl⟩⟩:=hcut
    cases kq with
    |  zero => exact absurd HA.out (by simp [doorwardref14_Token.j0])
    |  succ kj5 =>
     have H:=HA.out
     clear HA
     simp only [doorwardref14_Token.j0] at H
     by_cases c9:x23_5=true
     ·subst c9
      have H1:(some ((-1),wrap64 (a1+1)))=some (r1,r2):=by rw [if_pos rfl] at H;exact H
      clear H
      have H:=H1
      clear H1
      simp only [Option.some.injEq,Prod.mk.injEq] at H
      obtain ⟨rfl,rfl⟩:=H
      go_wp2
      go_ret2
      exact ⟨by first|rfl|(simp;done)|(simp [*];done),by repeat (first|exact Drawn0.refl _|apply Drawn0.step)⟩
     ·replace c9:=Bool.eq_false_iff.mpr c9
      subst c9
      have H1:(if (bt a0 a1)=35 then (doorwardref14_Token.l0 kj5 a0 a1) else (if (bt a0 a1)=10 then (some (4,wrap64 (a1+1))) else ((doorwardref14_letter.f (bt a0 a1)).bind fun t172 => (if t172=true then ((doorwardref14_end.f kj5 a0 a1).bind fun t173 => (some (1,t173))) else ((doorwardref14_digit.f (bt a0 a1)).bind fun t174 => (if t174=true then ((doorwardref14_end.f kj5 a0 a1).bind fun t175 => (if 0≤a1 then (if a1≤t175 then (if t175≤(a0.size:Int) then ((doorwardref14_Number.f kj5 (a0.extract (a1:Int).toNat (t175:Int).toNat)).bind fun bt176 => (if bt176.2=true then (some (2,t175)) else (some ((-2),a1)))) else (none)) else (none)) else (none))) else ((doorwardref14_sign.f kj5 a0 a1).bind fun t178 => (if t178>0 then (some (3,wrap64 (a1+t178))) else (some ((-2),a1))))))))))=some (r1,r2):=by rw [if_neg (show ¬ (false=true) by decide)] at H;exact H
      clear H
      have H:=H1
      clear H1
      by_cases c10:(bt a0 a1)=35
      ·rw [if_pos c10] at H
       have c10b0:((bt a0 a1)==35)=true:=beq_iff_eq.mpr c10
       have c10b1:((bt a0 a1) != 35)=false:=bne_eq_false_iff_eq.mpr c10
       clear c10
       have H':=Aside0.mk H
       clear H
       go_wp2
       go_loopg [1] kj5 (fun kq v1 w' =>∃(x1_2:Int),v1=.int .i64 x1_2∧Aside0 (doorwardref14_Token.l0 kq a0 x1_2=some (r1,r2))∧Aside0 (kq≤kj5)∧Drawn0 w w')
       case atStart => exact ⟨(a1),(by first|rfl|(simp;done)|(simp [*];done)),H',⟨Nat.le_refl _⟩,by repeat (first|exact Drawn0.refl _|apply Drawn0.step)⟩
       case round =>
        clear H'
        obtain ⟨x1_2,rfl,HA,HK2,⟨m2,rfl⟩⟩:=hrel
        cases gk with
        |  zero => exact absurd HA.out (by simp [doorwardref14_Token.l0])
        |  succ k2 =>
         have H:=HA.out
         clear HA
         simp only [doorwardref14_Token.l0] at H
         by_cases c11:x1_2<(a0.size:Int)
         ·rw [if_pos c11] at H
          have c11b0:decide (x1_2<(a0.size:Int))=true:=decide_eq_true c11
          clear c11
          by_cases c12:0≤x1_2
          ·rw [if_pos c12] at H
           have c12b0:decide (0≤x1_2)=true:=decide_eq_true c12
           clear c12
           by_cases c14:(bt a0 x1_2)=10
           ·rw [if_pos c14] at H
            have c14b0:((bt a0 x1_2)==10)=true:=beq_iff_eq.mpr c14
            have c14b1:((bt a0 x1_2) != 10)=false:=bne_eq_false_iff_eq.mpr c14
            clear c14
            simp only [Option.some.injEq,Prod.mk.injEq] at H
            obtain ⟨rfl,rfl⟩:=H
            have p13:0≤(x1_2:Int):=of_decide_eq_true (by first|(with_reducible assumption)|assumption)
            have q13:x1_2<(a0.size:Int):=of_decide_eq_true (by first|(with_reducible assumption)|assumption)
            have hx13:=bt_at a0 x1_2
            replace p13:=eq_true p13
            replace q13:=eq_true q13
            go_wp2
            go_ret2
            exact ⟨by first|rfl|(simp;done)|(simp [*];done),by repeat (first|exact Drawn0.refl _|apply Drawn0.step)⟩
           ·rw [if_neg c14] at H
            have c14b0:((bt a0 x1_2)==10)=false:=beq_eq_false_iff_ne.mpr c14
            have c14b1:((bt a0 x1_2) != 10)=true:=bne_iff_ne.mpr c14
            have H':=Aside0.mk H
            clear H
            have p13:0≤(x1_2:Int):=of_decide_eq_true (by first|(with_reducible assumption)|assumption)
            have q13:x1_2<(a0.size:Int):=of_decide_eq_true (by first|(with_reducible assumption)|assumption)
            have hx13:=bt_at a0 x1_2
            replace p13:=eq_true p13
            replace q13:=eq_true q13
            go_wp2
            go_roundg k2
            case measure => have:=HJ5.out;have:=HK2.out;omega
            case rel => exact ⟨(wrap64 (x1_2+1)),(by first|rfl|(simp;done)|(simp [*];done)),H',⟨by have:=HJ5.out;have:=HK2.out;omega⟩,by repeat (first|exact Drawn0.refl _|apply Drawn0.step)⟩
          ·rw [if_neg c12] at H
           exact absurd H (by simp)
         ·rw [if_neg c11] at H
          have c11b0:decide (x1_2<(a0.size:Int))=false:=decide_eq_false c11
          clear c11
          simp only [Option.some.injEq,Prod.mk.injEq] at H
          obtain ⟨rfl,rfl⟩:=H
          go_wp2
          go_ret2
          exact ⟨by first|rfl|(simp;done)|(simp [*];done),by repeat (first|exact Drawn0.refl _|apply Drawn0.step)⟩
      ·rw [if_neg c10] at H
       have c10b0:((bt a0 a1)==35)=false:=beq_eq_false_iff_ne.mpr c10
       have c10b1:((bt a0 a1) != 35)=true:=bne_iff_ne.mpr c10
       by_cases c15:(bt a0 a1)=10
       ·rw [if_pos c15] at H
        have c15b0:((bt a0 a1)==10)=true:=beq_iff_eq.mpr c15
        have c15b1:((bt a0 a1) != 10)=false:=bne_eq_false_iff_eq.mpr c15
        clear c15
        simp only [Option.some.injEq,Prod.mk.injEq] at H
        obtain ⟨rfl,rfl⟩:=H
        go_wp2
        go_ret2
        exact ⟨by first|rfl|(simp;done)|(simp [*];done),by repeat (first|exact Drawn0.refl _|apply Drawn0.step)⟩
       ·rw [if_neg c15] at H
        have c15b0:((bt a0 a1)==10)=false:=beq_eq_false_iff_ne.mpr c15
        have c15b1:((bt a0 a1) != 10)=true:=bne_iff_ne.mpr c15
        replace H:=Option.bind_eq_some_iff.mp H
        obtain ⟨t172,A160,H⟩:=H
        replace H:(if t172=true then ((doorwardref14_end.f kj5 a0 a1).bind fun t173 => (some (1,t173))) else ((doorwardref14_digit.f (bt a0 a1)).bind fun t174 => (if t174=true then ((doorwardref14_end.f kj5 a0 a1).bind fun t175 => (if 0≤a1 then (if a1≤t175 then (if t175≤(a0.size:Int) then ((doorwardref14_Number.f kj5 (a0.extract (a1:Int).toNat (t175:Int).toNat)).bind fun bt176 => (if bt176.2=true then (some (2,t175)) else (some ((-2),a1)))) else (none)) else (none)) else (none))) else ((doorwardref14_sign.f kj5 a0 a1).bind fun t178 => (if t178>0 then (some (3,wrap64 (a1+t178))) else (some ((-2),a1)))))))=some (r1,r2):=H
        have A16:=Aside0.mk A160
        clear A160
        by_cases c17:t172=true
        ·subst c17
         have H1:((doorwardref14_end.f kj5 a0 a1).bind fun t173 => (some (1,t173)))=some (r1,r2):=by rw [if_pos rfl] at H;exact H
         clear H
         have H:=H1
         clear H1
         replace H:=Option.bind_eq_some_iff.mp H
         obtain ⟨t173,A180,H⟩:=H
         replace H:(some (1,t173))=some (r1,r2):=H
         have A18:=Aside0.mk A180
         clear A180
         simp only [Option.some.injEq,Prod.mk.injEq] at H
         obtain ⟨rfl,rfl⟩:=H
         go_wp2_with (first|((with_reducible refine gate_callee (f:=66) rfl ?_);refine goesL_ (some 46) rfl rfl Tryz.func66 (by kernel_rfl) rfl #[.int .u8 (bt a0 a1)] rfl (by (try simp only [List.map_toArray,List.map_cons,List.map_nil]);first|done|rfl|(simp only [List.length_drop,List.length_take];rfl)) ?_;(with_reducible refine (doorwardref14_letter.calls (bt a0 a1) true _ ?side1 A16.out).mono ?_);(case side1 => (with_reducible repeat (first|exact HLD.out|apply LaidAt.drewN|apply LaidAt.drew|apply LaidAt.alloc)));rintro e w' ⟨rfl,⟨nd,rfl⟩⟩;refine ⟨_,rfl,?_⟩)|((with_reducible refine gate_callee (f:=67) rfl ?_);refine goesL_ (some 49) rfl rfl Tryz.func67 (by kernel_rfl) rfl #[.string a0,.int .i64 a1] rfl (by (try simp only [List.map_toArray,List.map_cons,List.map_nil]);first|done|rfl|(simp only [List.length_drop,List.length_take];rfl)) ?_;(with_reducible refine (doorwardref14_end.calls kj5 a0 a1 t173 _ ?side1 A18.out).mono ?_);(case side1 => (with_reducible repeat (first|exact HLD.out|apply LaidAt.drewN|apply LaidAt.drew|apply LaidAt.alloc)));rintro e w' ⟨rfl,⟨nd,rfl⟩⟩;refine ⟨_,rfl,?_⟩))
         go_ret2
         exact ⟨by first|rfl|(simp;done)|(simp [*];done),by repeat (first|exact Drawn0.refl _|apply Drawn0.step)⟩
        ·replace c17:=Bool.eq_false_iff.mpr c17
         subst c17
         have H1:((doorwardref14_digit.f (bt a0 a1)).bind fun t174 => (if t174=true then ((doorwardref14_end.f kj5 a0 a1).bind fun t175 => (if 0≤a1 then (if a1≤t175 then (if t175≤(a0.size:Int) then ((doorwardref14_Number.f kj5 (a0.extract (a1:Int).toNat (t175:Int).toNat)).bind fun bt176 => (if bt176.2=true then (some (2,t175)) else (some ((-2),a1)))) else (none)) else (none)) else (none))) else ((doorwardref14_sign.f kj5 a0 a1).bind fun t178 => (if t178>0 then (some (3,wrap64 (a1+t178))) else (some ((-2),a1))))))=some (r1,r2):=by rw [if_neg (show ¬ (false=true) by decide)] at H;exact H
         clear H
         have H:=H1
         clear H1
         replace H:=Option.bind_eq_some_iff.mp H
         obtain ⟨t174,A190,H⟩:=H
         replace H:(if t174=true then ((doorwardref14_end.f kj5 a0 a1).bind fun t175 => (if 0≤a1 then (if a1≤t175 then (if t175≤(a0.size:Int) then ((doorwardref14_Number.f kj5 (a0.extract (a1:Int).toNat (t175:Int).toNat)).bind fun bt176 => (if bt176.2=true then (some (2,t175)) else (some ((-2),a1)))) else (none)) else (none)) else (none))) else ((doorwardref14_sign.f kj5 a0 a1).bind fun t178 => (if t178>0 then (some (3,wrap64 (a1+t178))) else (some ((-2),a1)))))=some (r1,r2):=H
         have A19:=Aside0.mk A190
         clear A190
         by_cases c20:t174=true
         ·subst c20
          have H1:((doorwardref14_end.f kj5 a0 a1).bind fun t175 => (if 0≤a1 then (if a1≤t175 then (if t175≤(a0.size:Int) then ((doorwardref14_Number.f kj5 (a0.extract (a1:Int).toNat (t175:Int).toNat)).bind fun bt176 => (if bt176.2=true then (some (2,t175)) else (some ((-2),a1)))) else (none)) else (none)) else (none)))=some (r1,r2):=by rw [if_pos rfl] at H;exact H
          clear H
          have H:=H1
          clear H1
          replace H:=Option.bind_eq_some_iff.mp H
          obtain ⟨t175,A210,H⟩:=H
          replace H:(if 0≤a1 then (if a1≤t175 then (if t175≤(a0.size:Int) then ((doorwardref14_Number.f kj5 (a0.extract (a1:Int).toNat (t175:Int).toNat)).bind fun bt176 => (if bt176.2=true then (some (2,t175)) else (some ((-2),a1)))) else (none)) else (none)) else (none))=some (r1,r2):=H
          have A21:=Aside0.mk A210
          clear A210
          by_cases c22:0≤a1
          ·rw [if_pos c22] at H
           have c22b0:=eq_true c22
           have c22b1:decide (0≤a1)=true:=decide_eq_true c22
           clear c22
           by_cases c23:a1≤t175
           ·rw [if_pos c23] at H
            have c23b0:=eq_true c23
            have c23b1:decide (a1≤t175)=true:=decide_eq_true c23
            clear c23
            by_cases c24:t175≤(a0.size:Int)
            ·rw [if_pos c24] at H
             have c24b0:=eq_true c24
             have c24b1:decide (t175≤(a0.size:Int))=true:=decide_eq_true c24
             clear c24
             replace H:=Option.bind_eq_some_iff.mp H
             obtain ⟨⟨t176,t177⟩,A250,H⟩:=H
             replace H:(if t177=true then (some (2,t175)) else (some ((-2),a1)))=some (r1,r2):=H
             have A25:=Aside0.mk A250
             clear A250
             by_cases c26:t177=true
             ·subst c26
              have H1:(some (2,t175))=some (r1,r2):=by rw [if_pos rfl] at H;exact H
              clear H
              have H:=H1
              clear H1
              simp only [Option.some.injEq,Prod.mk.injEq] at H
              obtain ⟨rfl,rfl⟩:=H
              go_wp2_with (first|((with_reducible refine gate_callee (f:=66) rfl ?_);refine goesL_ (some 46) rfl rfl Tryz.func66 (by kernel_rfl) rfl #[.int .u8 (bt a0 a1)] rfl (by (try simp only [List.map_toArray,List.map_cons,List.map_nil]);first|done|rfl|(simp only [List.length_drop,List.length_take];rfl)) ?_;(with_reducible refine (doorwardref14_letter.calls (bt a0 a1) false _ ?side1 A16.out).mono ?_);(case side1 => (with_reducible repeat (first|exact HLD.out|apply LaidAt.drewN|apply LaidAt.drew|apply LaidAt.alloc)));rintro e w' ⟨rfl,⟨nd,rfl⟩⟩;refine ⟨_,rfl,?_⟩)|((with_reducible refine gate_callee (f:=68) rfl ?_);refine goesL_ (some 51) rfl rfl Tryz.func68 (by kernel_rfl) rfl #[.int .u8 (bt a0 a1)] rfl (by (try simp only [List.map_toArray,List.map_cons,List.map_nil]);first|done|rfl|(simp only [List.length_drop,List.length_take];rfl)) ?_;(with_reducible refine (doorwardref14_digit.calls (bt a0 a1) true _ ?side1 A19.out).mono ?_);(case side1 => (with_reducible repeat (first|exact HLD.out|apply LaidAt.drewN|apply LaidAt.drew|apply LaidAt.alloc)));rintro e w' ⟨rfl,⟨nd,rfl⟩⟩;refine ⟨_,rfl,?_⟩)|((with_reducible refine gate_callee (f:=67) rfl ?_);refine goesL_ (some 54) rfl rfl Tryz.func67 (by kernel_rfl) rfl #[.string a0,.int .i64 a1] rfl (by (try simp only [List.map_toArray,List.map_cons,List.map_nil]);first|done|rfl|(simp only [List.length_drop,List.length_take];rfl)) ?_;(with_reducible refine (doorwardref14_end.calls kj5 a0 a1 t175 _ ?side1 A21.out).mono ?_);(case side1 => (with_reducible repeat (first|exact HLD.out|apply LaidAt.drewN|apply LaidAt.drew|apply LaidAt.alloc)));rintro e w' ⟨rfl,⟨nd,rfl⟩⟩;refine ⟨_,rfl,?_⟩)|((with_reducible refine gate_callee (f:=69) rfl ?_);refine goesL_ (some 60) rfl rfl Tryz.func69 (by kernel_rfl) rfl #[.string (a0.extract (a1:Int).toNat (t175:Int).toNat)] rfl (by (try simp only [List.map_toArray,List.map_cons,List.map_nil]);first|done|rfl|(simp only [List.length_drop,List.length_take];rfl)) ?_;(with_reducible refine (doorwardref14_Number.calls kj5 (a0.extract (a1:Int).toNat (t175:Int).toNat) t176 true _ ?side1 A25.out).mono ?_);(case side1 => (with_reducible repeat (first|exact HLD.out|apply LaidAt.drewN|apply LaidAt.drew|apply LaidAt.alloc)));rintro e w' ⟨rfl,⟨nd,rfl⟩⟩;refine ⟨_,rfl,?_⟩))
              go_ret2
              exact ⟨by first|rfl|(simp;done)|(simp [*];done),by repeat (first|exact Drawn0.refl _|apply Drawn0.step)⟩
             ·replace c26:=Bool.eq_false_iff.mpr c26
              subst c26
              have H1:(some ((-2),a1))=some (r1,r2):=by rw [if_neg (show ¬ (false=true) by decide)] at H;exact H
              clear H
              have H:=H1
              clear H1
              simp only [Option.some.injEq,Prod.mk.injEq] at H
              obtain ⟨rfl,rfl⟩:=H
              go_wp2_with (first|((with_reducible refine gate_callee (f:=66) rfl ?_);refine goesL_ (some 46) rfl rfl Tryz.func66 (by kernel_rfl) rfl #[.int .u8 (bt a0 a1)] rfl (by (try simp only [List.map_toArray,List.map_cons,List.map_nil]);first|done|rfl|(simp only [List.length_drop,List.length_take];rfl)) ?_;(with_reducible refine (doorwardref14_letter.calls (bt a0 a1) false _ ?side1 A16.out).mono ?_);(case side1 => (with_reducible repeat (first|exact HLD.out|apply LaidAt.drewN|apply LaidAt.drew|apply LaidAt.alloc)));rintro e w' ⟨rfl,⟨nd,rfl⟩⟩;refine ⟨_,rfl,?_⟩)|((with_reducible refine gate_callee (f:=68) rfl ?_);refine goesL_ (some 51) rfl rfl Tryz.func68 (by kernel_rfl) rfl #[.int .u8 (bt a0 a1)] rfl (by (try simp only [List.map_toArray,List.map_cons,List.map_nil]);first|done|rfl|(simp only [List.length_drop,List.length_take];rfl)) ?_;(with_reducible refine (doorwardref14_digit.calls (bt a0 a1) true _ ?side1 A19.out).mono ?_);(case side1 => (with_reducible repeat (first|exact HLD.out|apply LaidAt.drewN|apply LaidAt.drew|apply LaidAt.alloc)));rintro e w' ⟨rfl,⟨nd,rfl⟩⟩;refine ⟨_,rfl,?_⟩)|((with_reducible refine gate_callee (f:=67) rfl ?_);refine goesL_ (some 54) rfl rfl Tryz.func67 (by kernel_rfl) rfl #[.string a0,.int .i64 a1] rfl (by (try simp only [List.map_toArray,List.map_cons,List.map_nil]);first|done|rfl|(simp only [List.length_drop,List.length_take];rfl)) ?_;(with_reducible refine (doorwardref14_end.calls kj5 a0 a1 t175 _ ?side1 A21.out).mono ?_);(case side1 => (with_reducible repeat (first|exact HLD.out|apply LaidAt.drewN|apply LaidAt.drew|apply LaidAt.alloc)));rintro e w' ⟨rfl,⟨nd,rfl⟩⟩;refine ⟨_,rfl,?_⟩)|((with_reducible refine gate_callee (f:=69) rfl ?_);refine goesL_ (some 60) rfl rfl Tryz.func69 (by kernel_rfl) rfl #[.string (a0.extract (a1:Int).toNat (t175:Int).toNat)] rfl (by (try simp only [List.map_toArray,List.map_cons,List.map_nil]);first|done|rfl|(simp only [List.length_drop,List.length_take];rfl)) ?_;(with_reducible refine (doorwardref14_Number.calls kj5 (a0.extract (a1:Int).toNat (t175:Int).toNat) t176 false _ ?side1 A25.out).mono ?_);(case side1 => (with_reducible repeat (first|exact HLD.out|apply LaidAt.drewN|apply LaidAt.drew|apply LaidAt.alloc)));rintro e w' ⟨rfl,⟨nd,rfl⟩⟩;refine ⟨_,rfl,?_⟩))
              go_ret2
              exact ⟨by first|rfl|(simp;done)|(simp [*];done),by repeat (first|exact Drawn0.refl _|apply Drawn0.step)⟩
            ·rw [if_neg c24] at H
             exact absurd H (by simp)
           ·rw [if_neg c23] at H
            exact absurd H (by simp)
          ·rw [if_neg c22] at H
           exact absurd H (by simp)
         ·replace c20:=Bool.eq_false_iff.mpr c20
          subst c20
          have H1:((doorwardref14_sign.f kj5 a0 a1).bind fun t178 => (if t178>0 then (some (3,wrap64 (a1+t178))) else (some ((-2),a1))))=some (r1,r2):=by rw [if_neg (show ¬ (false=true) by decide)] at H;exact H
          clear H
          have H:=H1
          clear H1
          replace H:=Option.bind_eq_some_iff.mp H
          obtain ⟨t178,A270,H⟩:=H
          replace H:(if t178>0 then (some (3,wrap64 (a1+t178))) else (some ((-2),a1)))=some (r1,r2):=H
          have A27:=Aside0.mk A270
          clear A270
          by_cases c28:t178>0
          ·rw [if_pos c28] at H
           have c28b0:decide (0<t178)=true:=decide_eq_true c28
           clear c28
           simp only [Option.some.injEq,Prod.mk.injEq] at H
           obtain ⟨rfl,rfl⟩:=H
           go_wp2_with (first|((with_reducible refine gate_callee (f:=66) rfl ?_);refine goesL_ (some 46) rfl rfl Tryz.func66 (by kernel_rfl) rfl #[.int .u8 (bt a0 a1)] rfl (by (try simp only [List.map_toArray,List.map_cons,List.map_nil]);first|done|rfl|(simp only [List.length_drop,List.length_take];rfl)) ?_;(with_reducible refine (doorwardref14_letter.calls (bt a0 a1) false _ ?side1 A16.out).mono ?_);(case side1 => (with_reducible repeat (first|exact HLD.out|apply LaidAt.drewN|apply LaidAt.drew|apply LaidAt.alloc)));rintro e w' ⟨rfl,⟨nd,rfl⟩⟩;refine ⟨_,rfl,?_⟩)|((with_reducible refine gate_callee (f:=68) rfl ?_);refine goesL_ (some 51) rfl rfl Tryz.func68 (by kernel_rfl) rfl #[.int .u8 (bt a0 a1)] rfl (by (try simp only [List.map_toArray,List.map_cons,List.map_nil]);first|done|rfl|(simp only [List.length_drop,List.length_take];rfl)) ?_;(with_reducible refine (doorwardref14_digit.calls (bt a0 a1) false _ ?side1 A19.out).mono ?_);(case side1 => (with_reducible repeat (first|exact HLD.out|apply LaidAt.drewN|apply LaidAt.drew|apply LaidAt.alloc)));rintro e w' ⟨rfl,⟨nd,rfl⟩⟩;refine ⟨_,rfl,?_⟩)|((with_reducible refine gate_callee (f:=70) rfl ?_);refine goesL_ (some 68) rfl rfl Tryz.func70 (by kernel_rfl) rfl #[.string a0,.int .i64 a1] rfl (by (try simp only [List.map_toArray,List.map_cons,List.map_nil]);first|done|rfl|(simp only [List.length_drop,List.length_take];rfl)) ?_;(with_reducible refine (doorwardref14_sign.calls kj5 a0 a1 t178 _ ?side1 A27.out).mono ?_);(case side1 => (with_reducible repeat (first|exact HLD.out|apply LaidAt.drewN|apply LaidAt.drew|apply LaidAt.alloc)));rintro e w' ⟨rfl,⟨nd,rfl⟩⟩;refine ⟨_,rfl,?_⟩))
           go_ret2
           exact ⟨by first|rfl|(simp;done)|(simp [*];done),by repeat (first|exact Drawn0.refl _|apply Drawn0.step)⟩
          ·rw [if_neg c28] at H
           have c28b0:decide (0<t178)=false:=decide_eq_false c28
           clear c28
           simp only [Option.some.injEq,Prod.mk.injEq] at H
           obtain ⟨rfl,rfl⟩:=H
           go_wp2_with (first|((with_reducible refine gate_callee (f:=66) rfl ?_);refine goesL_ (some 46) rfl rfl Tryz.func66 (by kernel_rfl) rfl #[.int .u8 (bt a0 a1)] rfl (by (try simp only [List.map_toArray,List.map_cons,List.map_nil]);first|done|rfl|(simp only [List.length_drop,List.length_take];rfl)) ?_;(with_reducible refine (doorwardref14_letter.calls (bt a0 a1) false _ ?side1 A16.out).mono ?_);(case side1 => (with_reducible repeat (first|exact HLD.out|apply LaidAt.drewN|apply LaidAt.drew|apply LaidAt.alloc)));rintro e w' ⟨rfl,⟨nd,rfl⟩⟩;refine ⟨_,rfl,?_⟩)|((with_reducible refine gate_callee (f:=68) rfl ?_);refine goesL_ (some 51) rfl rfl Tryz.func68 (by kernel_rfl) rfl #[.int .u8 (bt a0 a1)] rfl (by (try simp only [List.map_toArray,List.map_cons,List.map_nil]);first|done|rfl|(simp only [List.length_drop,List.length_take];rfl)) ?_;(with_reducible refine (doorwardref14_digit.calls (bt a0 a1) false _ ?side1 A19.out).mono ?_);(case side1 => (with_reducible repeat (first|exact HLD.out|apply LaidAt.drewN|apply LaidAt.drew|apply LaidAt.alloc)));rintro e w' ⟨rfl,⟨nd,rfl⟩⟩;refine ⟨_,rfl,?_⟩)|((with_reducible refine gate_callee (f:=70) rfl ?_);refine goesL_ (some 68) rfl rfl Tryz.func70 (by kernel_rfl) rfl #[.string a0,.int .i64 a1] rfl (by (try simp only [List.map_toArray,List.map_cons,List.map_nil]);first|done|rfl|(simp only [List.length_drop,List.length_take];rfl)) ?_;(with_reducible refine (doorwardref14_sign.calls kj5 a0 a1 t178 _ ?side1 A27.out).mono ?_);(case side1 => (with_reducible repeat (first|exact HLD.out|apply LaidAt.drewN|apply LaidAt.drew|apply LaidAt.alloc)));rintro e w' ⟨rfl,⟨nd,rfl⟩⟩;refine ⟨_,rfl,?_⟩))
           go_ret2
           exact ⟨by first|rfl|(simp;done)|(simp [*];done),by repeat (first|exact Drawn0.refl _|apply Drawn0.step)⟩
  ·rw [if_neg c4] at H
   exact absurd H (by simp)
 ·rw [if_neg c3] at H
  exact absurd H (by simp)

/-! ### doorwardref17_word: function 18 -/
def doorwardref17_word.f (k:Nat) (a0:ByteArray):Option (Bool):=if a0.toList=([]:List UInt8) then (some false) else (if (a0.size:Int)>2000 then (some false) else ((doorwardref15_Reserved.f a0).bind fun t179 => (if t179=true then (some false) else ((doorwardref14_Token.f k a0 0).bind fun bt180 => (if bt180.1=1 then (some (bt180.2==(a0.size:Int))) else (some false))))))
theorem doorwardref17_word.mono:∀ a0 k,LeO (doorwardref17_word.f k a0) (doorwardref17_word.f (k+1) a0):=by
 intro a0 k
 unfold doorwardref17_word.f
 repeat' first
   |  (with_reducible exact doorwardref14_Token.mono _ _ _)
   |  (with_reducible exact LeO.refl _)
   |  (with_reducible exact LeO.none _)
   |  (with_reducible refine LeO.ite ?_ ?_)
   |  (with_reducible refine LeO.bind ?_ (fun _ => ?_))
   |  exact doorwardref14_Token.mono _ _ _
   |  exact LeO.none _
   |  refine LeO.ite ?_ ?_
   |  refine LeO.bind ?_ (fun _ => ?_)
set_option maxHeartbeats 8000000 in
set_option maxRecDepth 100000 in
theorem doorwardref17_word.calls (k:Nat) (a0:ByteArray) (r:Bool) (w:World) (hLd:LaidAt w) (h:doorwardref17_word.f k a0=some r) :
  Calls Tryz.prog 18 #[.string a0] w fun e w' => e=.returned (.bool r)∧Drawn0 w w':=by
 have HLD:=Aside0.mk hLd
 clear hLd
 have H:(if a0.toList=([]:List UInt8) then (some false) else (if (a0.size:Int)>2000 then (some false) else ((doorwardref15_Reserved.f a0).bind fun t179 => (if t179=true then (some false) else ((doorwardref14_Token.f k a0 0).bind fun bt180 => (if bt180.1=1 then (some (bt180.2==(a0.size:Int))) else (some false)))))))=some r:=h
 clear h
 by_cases c2:a0.toList=([]:List UInt8)
 ·rw [if_pos c2] at H
  have c2b0:(a0.toList==([]:List UInt8))=true:=beq_iff_eq.mpr c2
  have c2b1:(a0.toList != ([]:List UInt8))=false:=bne_eq_false_iff_eq.mpr c2
  clear c2
  obtain rfl:=Option.some.inj H
  go_enter Tryz.func18,Tryz.ntmps18
  go_wp2
  go_ret
  exact ⟨by first|rfl|(simp;done)|(simp [*];done),by repeat (first|exact Drawn0.refl _|apply Drawn0.step)⟩
 ·rw [if_neg c2] at H
  have c2b0:(a0.toList==([]:List UInt8))=false:=beq_eq_false_iff_ne.mpr c2
  have c2b1:(a0.toList != ([]:List UInt8))=true:=bne_iff_ne.mpr c2
  by_cases c3:(a0.size:Int)>2000
  ·rw [if_pos c3] at H
   have c3b0:decide (2000<(a0.size:Int))=true:=decide_eq_true c3
   have c3b1:decide (2000<a0.size)=true:=decide_eq_true (by omega)
   clear c3
   obtain rfl:=Option.some.inj H
   go_enter Tryz.func18,Tryz.ntmps18
   go_wp2
   go_ret
   exact ⟨by first|rfl|(simp;done)|(simp [*];done),by repeat (first|exact Drawn0.refl _|apply Drawn0.step)⟩
  ·rw [if_neg c3] at H
   have c3b0:decide (2000<(a0.size:Int))=false:=decide_eq_false c3
   have c3b1:decide (2000<a0.size)=false:=decide_eq_false (by omega)
   clear c3
   replace H:=Option.bind_eq_some_iff.mp H
   obtain ⟨t179,A40,H⟩:=H
   replace H:(if t179=true then (some false) else ((doorwardref14_Token.f k a0 0).bind fun bt180 => (if bt180.1=1 then (some (bt180.2==(a0.size:Int))) else (some false))))=some r:=H
   have A4:=Aside0.mk A40
   clear A40
   by_cases c5:t179=true
   ·subst c5
    have H1:(some false)=some r:=by rw [if_pos rfl] at H;exact H
    clear H
    have H:=H1
    clear H1
    obtain rfl:=Option.some.inj H
    go_enter Tryz.func18,Tryz.ntmps18
    go_wp2_with (first|(go_at_call 36;(with_reducible refine (doorwardref15_Reserved.calls a0 true _ ?side1 A4.out).mono ?_);(case side1 => (with_reducible repeat (first|exact HLD.out|apply LaidAt.drewN|apply LaidAt.drew|apply LaidAt.alloc)));rintro e w' ⟨rfl,⟨nd,rfl⟩⟩))
    go_ret
    exact ⟨by first|rfl|(simp;done)|(simp [*];done),by repeat (first|exact Drawn0.refl _|apply Drawn0.step)⟩
   ·replace c5:=Bool.eq_false_iff.mpr c5
    subst c5
    have H1:((doorwardref14_Token.f k a0 0).bind fun bt180 => (if bt180.1=1 then (some (bt180.2==(a0.size:Int))) else (some false)))=some r:=by rw [if_neg (show ¬ (false=true) by decide)] at H;exact H
    clear H
    have H:=H1
    clear H1
    replace H:=Option.bind_eq_some_iff.mp H
    obtain ⟨⟨t180,t181⟩,A60,H⟩:=H
    replace H:(if t180=1 then (some (t181==(a0.size:Int))) else (some false))=some r:=H
    have A6:=Aside0.mk A60
    clear A60
    by_cases c7:t180=1
    ·rw [if_pos c7] at H
     have c7b0:(t180==1)=true:=beq_iff_eq.mpr c7
     have c7b1:(t180 != 1)=false:=bne_eq_false_iff_eq.mpr c7
     clear c7
     obtain rfl:=Option.some.inj H
     go_enter Tryz.func18,Tryz.ntmps18
     go_wp2_with (first|(go_at_call 36;(with_reducible refine (doorwardref15_Reserved.calls a0 false _ ?side1 A4.out).mono ?_);(case side1 => (with_reducible repeat (first|exact HLD.out|apply LaidAt.drewN|apply LaidAt.drew|apply LaidAt.alloc)));rintro e w' ⟨rfl,⟨nd,rfl⟩⟩)|((with_reducible refine gate_callee (f:=37) rfl ?_);refine goesL_ (some 18) rfl rfl Tryz.func37 (by kernel_rfl) rfl #[.string a0,.int .i64 0] rfl (by (try simp only [List.map_toArray,List.map_cons,List.map_nil]);first|done|rfl|(simp only [List.length_drop,List.length_take];rfl)) ?_;(with_reducible refine (doorwardref14_Token.calls k a0 0 t180 t181 _ ?side1 A6.out).mono ?_);(case side1 => (with_reducible repeat (first|exact HLD.out|apply LaidAt.drewN|apply LaidAt.drew|apply LaidAt.alloc)));rintro e w' ⟨rfl,⟨nd,rfl⟩⟩;refine ⟨_,rfl,?_⟩))
     go_ret
     exact ⟨by first|rfl|(simp;done)|(simp [*];done),by repeat (first|exact Drawn0.refl _|apply Drawn0.step)⟩
    ·rw [if_neg c7] at H
     have c7b0:(t180==1)=false:=beq_eq_false_iff_ne.mpr c7
     have c7b1:(t180 != 1)=true:=bne_iff_ne.mpr c7
     obtain rfl:=Option.some.inj H
     go_enter Tryz.func18,Tryz.ntmps18
     go_wp2_with (first|(go_at_call 36;(with_reducible refine (doorwardref15_Reserved.calls a0 false _ ?side1 A4.out).mono ?_);(case side1 => (with_reducible repeat (first|exact HLD.out|apply LaidAt.drewN|apply LaidAt.drew|apply LaidAt.alloc)));rintro e w' ⟨rfl,⟨nd,rfl⟩⟩)|((with_reducible refine gate_callee (f:=37) rfl ?_);refine goesL_ (some 18) rfl rfl Tryz.func37 (by kernel_rfl) rfl #[.string a0,.int .i64 0] rfl (by (try simp only [List.map_toArray,List.map_cons,List.map_nil]);first|done|rfl|(simp only [List.length_drop,List.length_take];rfl)) ?_;(with_reducible refine (doorwardref14_Token.calls k a0 0 t180 t181 _ ?side1 A6.out).mono ?_);(case side1 => (with_reducible repeat (first|exact HLD.out|apply LaidAt.drewN|apply LaidAt.drew|apply LaidAt.alloc)));rintro e w' ⟨rfl,⟨nd,rfl⟩⟩;refine ⟨_,rfl,?_⟩))
     go_ret
     exact ⟨by first|rfl|(simp;done)|(simp [*];done),by repeat (first|exact Drawn0.refl _|apply Drawn0.step)⟩

end Go.Proofs.YtdfjjimmnbijmaaGreatDoor.ZQ

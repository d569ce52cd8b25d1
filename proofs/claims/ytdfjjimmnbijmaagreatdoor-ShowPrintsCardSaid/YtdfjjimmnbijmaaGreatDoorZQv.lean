import Derived.Test.YtdfjjimmnbijmaaGreatDoorZQ13
import Derived.Test.YtdfjjimmnbijmaaGreatDoorZQ17
import Derived.Test.YtdfjjimmnbijmaaGreatDoorZQ16
import Derived.Test.YtdfjjimmnbijmaaGreatDoorZQ18
namespace Go.Proofs.YtdfjjimmnbijmaaGreatDoor.ZQ
open Go.RowKit Go.Proofs.YtdfjjimmnbijmaaGreatDoorW.PrintWords Go.Proofs.YtdfjjimmnbijmaaGreatDoorW.PrintLast Go.Proofs.YtdfjjimmnbijmaaGreatDoorW.PrintMore Go.Proofs.YtdfjjimmnbijmaaGreatDoor.Base
attribute [local go_sem] max2_int min2_int max_two min_two max_three min_three max_four min_four
set_option linter.unusedVariables false
set_option linter.unusedSimpArgs false
/-! ### the reference's fits and Right in plain words; alive -/
theorem sign16_f (s:ByteArray):doorwardref16_sign.f s=some (sgnB s):=by
 unfold doorwardref16_sign.f sgnB sgnL
 rw [List.contains_eq_any_beq]
 simp only [List.any_cons,List.any_nil,Bool.or_false]
 by_cases h1:s.toList=[61,61]
 ·rw [if_pos h1,h1];rfl
 rw [if_neg h1]
 by_cases h2:s.toList=[33,61]
 ·rw [if_pos h2,h2];rfl
 rw [if_neg h2]
 by_cases h3:s.toList=[60]
 ·rw [if_pos h3,h3];rfl
 rw [if_neg h3]
 by_cases h4:s.toList=[60,61]
 ·rw [if_pos h4,h4];rfl
 rw [if_neg h4]
 by_cases h5:s.toList=[62]
 ·rw [if_pos h5,h5];rfl
 rw [if_neg h5]
 have e:∀ l:List UInt8,¬ s.toList=l→(s.toList==l)=false:=fun l h => by rw [beq_eq_false_iff_ne];exact h
 rw [e _ h1,e _ h2,e _ h3,e _ h4,e _ h5];rfl
theorem bare16_f (c:CN):doorwardref16_bare.f c.f0 c.f1 c.f2 c.f3 c.f4 c.f5=some (bareS c):=by
 unfold doorwardref16_bare.f bareS
 by_cases h2:c.f2=0
 ·rw [if_pos h2,decide_eq_true h2,Bool.true_and]
  by_cases h3:c.f3=0
  ·rw [if_pos h3,decide_eq_true h3,Bool.true_and]
   by_cases h4:c.f4.toList=[]
   ·rw [if_pos h4,h4,List.isEmpty_nil,Bool.true_and];rfl
   ·rw [if_neg h4]
    have:c.f4.toList.isEmpty=false:=by cases hq:c.f4.toList with|nil => exact absurd hq h4|cons a r => rfl
    rw [this,Bool.false_and]
  ·rw [if_neg h3,decide_eq_false h3,Bool.false_and]
 ·rw [if_neg h2,decide_eq_false h2,Bool.false_and]
theorem fits_l0 (l:List CN) (hl:l.length≤1000000) (ih:∀ k ∈ l,Ev (fun n => doorwardref16_fits.f n k.f0 k.f1 k.f2 k.f3 k.f4 k.f5) (fitsC k)):∀ (d i:Nat),i+d=l.length→Ev (fun n => doorwardref16_fits.l0 n l (l.length:Int) (i:Int)) (fitsL (l.drop i)):=by
 intro d
 induction d with
 |  zero =>
  intro i hi
  apply succ
  simp only [doorwardref16_fits.l0,if_neg (show ¬ (i:Int)<(l.length:Int) by omega)]
  refine now ?_
  rw [List.drop_of_length_le (by omega),fitsL]
 |  succ d ihd =>
  intro i hi
  have hil:i<l.length:=by omega
  have hrd:rd_T28 l (i:Int)=l[i]:=by
   unfold rd_T28
   rw [Int.toNat_natCast,List.getD_eq_getElem?_getD,List.getElem?_eq_getElem hil];rfl
  rw [drop_cons hil,fitsL]
  apply succ
  simp only [doorwardref16_fits.l0,if_pos (show (i:Int)<(l.length:Int) by omega),if_pos (show 0≤(i:Int) by omega),hrd]
  refine Ev.bind (ih l[i] (List.getElem_mem hil)) ?_
  cases fitsC l[i] with
  |  true =>
   simp only [if_true,w1 (show i<9223372036854775807 by omega)]
   exact evc (ihd (i+1) (by omega)) (by rw [Bool.true_and])
  |  false => simp only [Bool.false_eq_true,if_false];exact now rfl
theorem fits_ev:∀ c:CN,nodesC c≤1000000→Ev (fun n => doorwardref16_fits.f n c.f0 c.f1 c.f2 c.f3 c.f4 c.f5) (fitsC c):=by
 refine cond_ind fun c ih hn => ?_
 have hl:c.f1.length≤1000000:=by have:=nodesL_len c.f1;rw [nodesC_eq] at hn;omega
 have hkids:=fits_l0 c.f1 hl (fun k hk => ih k hk (by have:=nodes_kid hk;omega)) c.f1.length 0 (by omega)
 rw [List.drop_zero] at hkids
 rw [fitsC_eq]
 apply succ
 simp only [doorwardref16_fits.f]
 have j1:∀ b:Bool,Ev (fun n => doorwardref16_fits.j1 n b c.f0 c.f1 c.f2 c.f3 c.f4 c.f5) (!b && fitsL c.f1):=by
  intro b
  apply succ
  cases b with
  |  true => simp only [doorwardref16_fits.j1,if_true];exact now rfl
  |  false => simp only [doorwardref16_fits.j1,Bool.false_eq_true,if_false];exact evc hkids (by rw [Bool.not_false,Bool.true_and])
 unfold oneS
 by_cases h4:c.f0=4
 ·simp only [if_pos h4]
  by_cases h5:0≤c.f2
  ·simp only [ge_iff_le,if_pos h5]
   by_cases h6:c.f2≤5
   ·simp only [if_pos h6,sign16_f,Option.bind_some]
    have e1:decide (c.f2<6)=true:=decide_eq_true (by omega)
    rw [decide_eq_true h5,e1]
    cases hs:sgnB c.f4 with
    |  true =>
     simp only [if_true]
     refine now ?_
     by_cases hk:c.f1.length=0
     ·rw [List.length_eq_zero_iff.1 hk];rfl
     ·have e2:((c.f1.length:Int)==0)=false:=by rw [beq_eq_false_iff_ne];omega
      rw [e2,decide_eq_false hk];rfl
    |  false => simp only [Bool.false_eq_true,if_false];exact now rfl
   ·simp only [if_neg h6];refine now ?_;have:decide (c.f2<6)=false:=decide_eq_false (by omega);rw [this];simp
  ·simp only [ge_iff_le,if_neg h5];refine now ?_;rw [decide_eq_false h5];rfl
 ·simp only [if_neg h4,bare16_f,Option.bind_some]
  have j0:∀ b:Bool,(b=false→(c.f0=1 ∨ c.f0=2 ∨ c.f0=3))→Ev (fun n => doorwardref16_fits.j0 n (c.f1.length:Int) b c.f0 c.f1 c.f2 c.f3 c.f4 c.f5) (!b && ((if c.f0=3 then decide (c.f1.length=1) else decide (2≤c.f1.length)) && fitsL c.f1)):=by
   intro b hb
   apply succ
   cases b with
   |  true => simp only [doorwardref16_fits.j0,if_true];exact now rfl
   |  false =>
    simp only [doorwardref16_fits.j0,Bool.false_eq_true,if_false]
    rw [Bool.not_false,Bool.true_and]
    by_cases h3:c.f0=3
    ·simp only [if_pos h3]
     by_cases h1:c.f1.length=1
     ·simp only [if_pos (show (c.f1.length:Int)=1 by omega)]
      refine evc (j1 false) ?_
      rw [decide_eq_true h1];rfl
     ·simp only [if_neg (show ¬ (c.f1.length:Int)=1 by omega)]
      refine evc (j1 true) ?_
      rw [decide_eq_false h1];rfl
    ·simp only [if_neg h3]
     refine evc (j1 _) ?_
     congr 1
     by_cases h2:2≤c.f1.length
     ·rw [decide_eq_true h2,decide_eq_false (by omega)];rfl
     ·rw [decide_eq_false h2,decide_eq_true (by omega)];rfl
  cases hb:bareS c with
  |  true =>
   simp only [if_true]
   by_cases h1:c.f0=1
   ·simp only [if_pos h1]
    refine evc (j0 false (fun _ => Or.inl h1)) ?_
    rw [if_neg (by omega)];simp
   ·simp only [if_neg h1]
    by_cases h2:c.f0=2
    ·simp only [if_pos h2]
     refine evc (j0 false (fun _ => Or.inr (Or.inl h2))) ?_
     rw [if_neg (by omega)];simp
    ·simp only [if_neg h2]
     by_cases h3:c.f0=3
     ·have e:(c.f0 != 3)=false:=by simp [h3]
      rw [e]
      refine evc (j0 false (fun _ => Or.inr (Or.inr h3))) ?_
      rw [if_pos h3,if_pos h3];simp
     ·have e:(c.f0 != 3)=true:=by simp [h3]
      rw [e]
      refine evc (j0 true (fun h => by cases h)) ?_
      rw [if_neg h3,if_neg h3];rfl
  |  false =>
   simp only [Bool.false_eq_true,if_false]
   refine evc (j0 true (fun h => by cases h)) ?_
   simp
theorem many_f (c:CN) (m:Nat) (h1:1≤m) (h2:m≤1000000):doorwardref15_Many.f c.f0 c.f1 c.f2 c.f3 c.f4 c.f5 (m:Int)=some ((manyS c m:Nat):Int):=by
 unfold doorwardref15_Many.f
 rw [if_pos ⟨by omega,by omega⟩,cn_eta,Int.toNat_natCast]
theorem right16_ev (c:CN):Ev (fun n => doorwardref16_Right.f n c.f0 c.f1 c.f2 c.f3 c.f4 c.f5) (rightS c):=by
 unfold doorwardref16_Right.f
 have e:doorwardref15_Many.f c.f0 c.f1 c.f2 c.f3 c.f4 c.f5 100=some ((manyS c 100:Nat):Int):=many_f c 100 (by omega) (by omega)
 simp only [e,Option.bind_some]
 unfold rightS
 by_cases hn:nodesC c≤100
 ·simp only [if_pos (show ((manyS c 100:Nat):Int)≤100 by unfold manyS;omega)]
  rw [decide_eq_true hn,Bool.true_and]
  exact Ev.bind (fits_ev c (by omega)) (now rfl)
 ·simp only [if_neg (show ¬ ((manyS c 100:Nat):Int)≤100 by unfold manyS;omega)]
  rw [decide_eq_false hn,Bool.false_and]
  exact now rfl
theorem right16_any (c:CN) (A:Option Addr) (cap:Nat) (w:World) (hC:Kd.C k28 w A c.f1.length c.f1) (hcap:c.f1.length≤cap) (hLd:LaidAt w) :
  Calls Tryz.prog 13 #[.agg #[.int .i64 c.f0,.slice A c.f1.length cap,.int .i64 c.f2,.int .u64 c.f3,.string c.f4,.int .u64 c.f5]] w fun e w' => e=.returned (.bool (rightS c))∧Below w.heap.size w w':=by
 obtain ⟨k,hk⟩:=Ev.rounds (right16_ev c)
 exact doorwardref16_Right.calls k c.f0 A cap c.f1 c.f2 c.f3 c.f4 c.f5 _ w hC hcap hLd hk
theorem alive17:doorwardlaw17_alive.f=some true:=by kernel_rfl
theorem alive_any (w:World) (hLd:LaidAt w):Calls Tryz.prog 8 #[] w fun e w' => e=.returned (.bool true)∧Below w.heap.size w w' :=
 doorwardlaw17_alive.calls true w hLd alive17
/-! ### the reference's number -/
def dOf (c:Nat):Nat:=if c≤57 then c - 48 else c - 87
def refN (b:Nat) (acc:Nat):List UInt8→Option Nat
 |  [] => some acc
 |  c :: r => if nP b c.toNat then (if acc * b+dOf c.toNat≤18446744073709551615 then refN b (acc * b+dOf c.toNat) r else none) else none
theorem rdigit_f (c:Int):doorwardref14_digit.f c=some (dS c):=by
 unfold doorwardref14_digit.f dS
 by_cases h:c ≥ 48
 ·rw [if_pos h];simp [h]
 ·rw [if_neg h];simp [h]
theorem rletter_f (c:Int):doorwardref14_letter.f c=some (letS c):=letS_f c
theorem value_f (c:Nat) (hc:c<256):doorwardref14_value.f (c:Int)=some (if 48≤c∧c≤57 then ((c - 48:Nat):Int) else if 97≤c∧c≤102 then ((c - 87:Nat):Int) else 99):=by
 unfold doorwardref14_value.f
 rw [rdigit_f]
 simp only [Option.bind_some,dS]
 by_cases h1:48≤c∧c≤57
 ·rw [if_pos (by simp;omega),if_pos h1];congr 1;omega
 ·rw [if_neg (by simp;omega),if_neg h1]
  by_cases h2:97≤c∧c≤102
  ·rw [if_pos (by omega),if_pos (by omega),if_pos h2];congr 1;omega
  ·rw [if_neg h2]
   by_cases h3:(c:Int) ≥ 97
   ·rw [if_pos h3,if_neg (by omega)]
   ·rw [if_neg h3]
theorem refN_l0 (b:Nat) (hb:b=10 ∨ b=16) (t:ByteArray) (ht:t.size≤1000000):∀ (d i acc:Nat),i+d=t.size→acc≤18446744073709551615→Ev (fun k => doorwardref14_Number.l0 k (b:Int) t (acc:Int) (i:Int)) (numR (refN b acc (t.data.toList.drop i))):=by
 intro d
 induction d with
 |  zero =>
  intro i acc hi ha
  apply succ
  simp only [doorwardref14_Number.l0,if_neg (show ¬ (i:Int)<(t.size:Int) by omega)]
  rw [List.drop_of_length_le (by rw [← Lib.size_eq];omega)]
  exact now rfl
 |  succ d ih =>
  intro i acc hi ha
  apply succ
  have hil:i<t.data.toList.length:=by rw [← Lib.size_eq];omega
  simp only [doorwardref14_Number.l0,if_pos (show (i:Int)<(t.size:Int) by omega),if_pos (show 0≤(i:Int) by omega)]
  rw [drop_cons hil]
  have hbt:=bt_get t i (t.data.toList[i]) (List.getElem?_eq_getElem hil)
  simp only [hbt]
  generalize t.data.toList[i]=c
  have hc:=c.toNat_lt
  simp only [value_f c.toNat (by omega),Option.bind_some]
  rw [refN]
  by_cases hn:nP b c.toNat=true
  ·rw [if_pos hn]
   have hcs:=nP_cases hn
   have hv:(if 48≤c.toNat∧c.toNat≤57 then ((c.toNat - 48:Nat):Int) else if 97≤c.toNat∧c.toNat≤102 then ((c.toNat - 87:Nat):Int) else 99)=((dOf c.toNat:Nat):Int):=by
    unfold dOf
    rcases hcs with q|q
    ·rw [if_pos q,if_pos q.2]
    ·rw [if_neg (by omega),if_pos q.2,if_neg (by omega)]
   have hd:dOf c.toNat<b:=by
    unfold dOf
    rcases hcs with q|q
    ·rw [if_pos q.2];omega
    ·rw [if_neg (by omega)];omega
   simp only [hv,if_neg (show ¬ ((dOf c.toNat:Nat):Int) ≥ (b:Int) by omega),if_neg (show ¬ (b:Int)=0 by omega)]
   have e1:IntKind.u64.wrap (18446744073709551615 - (dOf c.toNat:Int))=((18446744073709551615 - dOf c.toNat:Nat):Int):=by rw [IntKind.wrap_u64];omega
   have e2:Int.tdiv ((18446744073709551615 - dOf c.toNat:Nat):Int) (b:Int)=(((18446744073709551615 - dOf c.toNat) / b:Nat):Int):=by
    rw [Int.ofNat_tdiv]
   have e3:IntKind.u64.wrap (((18446744073709551615 - dOf c.toNat) / b:Nat):Int)=(((18446744073709551615 - dOf c.toNat) / b:Nat):Int):=by
    have hle:(18446744073709551615 - dOf c.toNat) / b≤18446744073709551615:=Nat.le_trans (Nat.div_le_self _ _) (Nat.sub_le _ _)
    generalize (18446744073709551615 - dOf c.toNat) / b=q at hle ⊢
    rw [IntKind.wrap_u64];omega
   simp only [e1,e2,e3]
   have key:((18446744073709551615 - dOf c.toNat) / b<acc) ↔ ¬ (acc * b+dOf c.toNat≤18446744073709551615):=by
    rw [Nat.div_lt_iff_lt_mul (by omega)]
    omega
   by_cases hov:acc * b+dOf c.toNat≤18446744073709551615
   ·rw [if_pos hov]
    simp only [if_neg (show ¬ (acc:Int)>(((18446744073709551615 - dOf c.toNat) / b:Nat):Int) from fun h => key.1 (Int.ofNat_lt.1 h) hov)]
    have e4:IntKind.u64.wrap ((b:Int) * (acc:Int))=((acc * b:Nat):Int):=by
     have:(b:Int) * (acc:Int)=((acc * b:Nat):Int):=by rw [Int.mul_comm];simp
     rw [this,IntKind.wrap_u64];omega
    have e5:IntKind.u64.wrap (((acc * b:Nat):Int)+(dOf c.toNat:Int))=((acc * b+dOf c.toNat:Nat):Int):=by rw [IntKind.wrap_u64];omega
    simp only [e4,e5,w1 (show i<9223372036854775807 by omega)]
    exact ih (i+1) _ (by omega) hov
   ·rw [if_neg hov]
    simp only [if_pos (show (acc:Int)>(((18446744073709551615 - dOf c.toNat) / b:Nat):Int) from Int.ofNat_lt.2 (key.2 hov))]
    exact now rfl
  ·rw [if_neg hn]
   have hge:(b:Int)≤(if 48≤c.toNat∧c.toNat≤57 then ((c.toNat - 48:Nat):Int) else if 97≤c.toNat∧c.toNat≤102 then ((c.toNat - 87:Nat):Int) else 99):=by
    simp only [nP,Bool.or_eq_true,Bool.and_eq_true,decide_eq_true_eq,beq_iff_eq,not_or] at hn
    rcases hb with rfl|rfl
    ·rw [if_neg (by omega)];split<;>omega
    ·rw [if_neg (by omega),if_neg (by omega)];omega
   simp only [ge_iff_le,if_pos hge]
   exact now rfl
theorem refN_bad (b:Nat):∀ (l:List UInt8) (acc:Nat),(∃ c ∈ l,nP b c.toNat=false)→refN b acc l=none
 |  [],_,h => by obtain ⟨c,hc,_⟩:=h;cases hc
 |  c :: r,acc,h => by
  rw [refN]
  by_cases hn:nP b c.toNat=true
  ·rw [if_pos hn]
   split
   ·obtain ⟨x,hx,hx2⟩:=h
    rcases List.mem_cons.1 hx with e|e
    ·subst e;rw [hn] at hx2;cases hx2
    ·exact refN_bad b r _ ⟨x,e,hx2⟩
   ·rfl
  ·rw [if_neg hn]
theorem refN_10:∀ (l:List UInt8) (acc:Nat),(∀ c ∈ l,nP 10 c.toNat=true)→refN 10 acc l=(match Lib.parseUintM (2 ^ 64 - 1) acc l with|.ok u => some u|_ => none)
 |  [],acc,_ => by rw [refN,Lib.parseUintM]
 |  c :: r,acc,h => by
  have hc:=h c List.mem_cons_self
  have hcs:=nP_cases hc
  have hd:48≤c.toNat∧c.toNat≤57:=by omega
  have he:dOf c.toNat=c.toNat - 48:=by unfold dOf;rw [if_pos hd.2]
  rw [refN,show ((10:Nat):Int)=10 from rfl,if_pos hc,Lib.parseUintM,if_pos hd,he]
  have ih:=refN_10 r (acc * 10+(c.toNat - 48)) (fun x hx => h x (List.mem_cons_of_mem _ hx))
  by_cases h1:1844674407370955162≤acc
  ·rw [if_pos h1,if_neg (by omega)]
  ·rw [if_neg h1]
   by_cases h2:2 ^ 64 - 1<acc * 10+(c.toNat - 48)
   ·rw [if_pos h2,if_neg (by omega)]
   ·rw [if_neg h2,if_pos (by omega)]
    exact ih
theorem refN_16:∀ (l:List UInt8) (acc k:Nat),(∀ c ∈ l,nP 16 c.toNat=true)→k+l.length≤16→acc<16 ^ k→refN 16 acc l=some (hexV acc l)
 |  [],acc,_,_,_,_ => rfl
 |  c :: r,acc,k,h,hk,ha => by
  have hc:=h c List.mem_cons_self
  have hcs:=nP_cases hc
  have he:dOf c.toNat=hexD c.toNat:=rfl
  have hd:hexD c.toNat<16:=by unfold hexD;split<;>omega
  have hk1:k+1≤16:=by simp at hk;omega
  have hp1:16 ^ (k+1)=16 ^ k * 16:=Nat.pow_succ 16 k
  have hp:16 ^ (k+1)≤16 ^ 16:=Nat.pow_le_pow_right (by omega) hk1
  have e16:16 ^ 16=18446744073709551616:=by decide
  rw [refN,show ((16:Nat):Int)=16 from rfl,if_pos hc,he,if_pos (by omega),hexV]
  exact refN_16 r _ (k+1) (fun x hx => h x (List.mem_cons_of_mem _ hx)) (by simp at hk;omega) (by omega)
theorem refN_ge (b:Nat):∀ (l:List UInt8) (acc v:Nat),acc≤18446744073709551615→refN b acc l=some v→acc * b ^ l.length≤v∧v≤18446744073709551615
 |  [],acc,v,ha,h => by
  rw [refN] at h;cases h;simp;exact ha
 |  c :: r,acc,v,ha,h => by
  rw [refN] at h
  split at h
  ·split at h
   ·rename_i h1 h2
    obtain ⟨h3,h4⟩:=refN_ge b r _ v h2 h
    refine ⟨?_,h4⟩
    have e:acc * b ^ (c :: r).length=(acc * b) * b ^ r.length:=by rw [List.length_cons,Nat.pow_succ,Nat.mul_comm (b ^ r.length) b,Nat.mul_assoc]
    rw [e]
    exact Nat.le_trans (Nat.mul_le_mul_right _ (Nat.le_add_right _ _)) h3
   ·cases h
  ·cases h
theorem run_lt_bad (p:Int→Bool) (s:ByteArray) (h:runS p s s.size 0<s.size):∃ c ∈ s.data.toList,p c.toNat=false:=by
 have aux:∀ d i,i+d=s.size→runS p s d i<d→∃ j,j<s.size∧p (bt s (j:Nat))=false:=by
  intro d
  induction d with
  |  zero => intro i _ h;omega
  |  succ d ih =>
   intro i hi h
   rw [runS] at h
   split at h
   ·obtain ⟨j,h1,h2⟩:=ih (i+1) (by omega) (by omega)
    exact ⟨j,h1,h2⟩
   ·rename_i hp
    exact ⟨i,by omega,by simpa using hp⟩
 obtain ⟨j,h1,h2⟩:=aux s.size 0 (by omega) h
 have hj:j<s.data.toList.length:=by rw [← Lib.size_eq];exact h1
 refine ⟨s.data.toList[j],List.getElem_mem _,?_⟩
 rw [← bt_get s j _ (List.getElem?_eq_getElem hj)]
 exact h2
theorem numV_refN10 (r:ByteArray) (hr0:r.size ≠ 0) (hz:¬ (1<r.size∧bt r 0=48)):refN 10 0 r.data.toList=numV 10 r:=by
 unfold numV
 by_cases h20:20<r.size
 ·rw [if_pos (Or.inr (Or.inl h20))]
  cases hv:refN 10 0 r.data.toList with
  |  none => rfl
  |  some v =>
   exfalso
   have hl:r.data.toList.length=r.size:=(Lib.size_eq r).symm
   cases hd:r.data.toList with
   |  nil => rw [hd] at hl;simp at hl;omega
   |  cons c l =>
    rw [hd] at hv hl
    have hb0:=bt_get r 0 c (by rw [hd];rfl)
    have hc48:c.toNat ≠ 48:=fun e => hz ⟨by omega,by
     have h0:bt r ((0:Nat):Int)=48:=by rw [hb0,e];rfl
     exact h0⟩
    rw [refN] at hv
    split at hv
    ·rename_i hn
     have hcs:=nP_cases hn
     split at hv
     ·rename_i hle
      have hge:=(refN_ge 10 l _ v hle hv)
      have hd1:1≤0 * 10+dOf c.toNat:=by
       unfold dOf
       rcases hcs with q|q
       ·rw [if_pos q.2];omega
       ·omega
      have hll:20≤l.length:=by simp at hl;omega
      have hp:10 ^ 20≤10 ^ l.length:=Nat.pow_le_pow_right (by omega) hll
      have hm:1 * 10 ^ l.length≤(0 * 10+dOf c.toNat) * 10 ^ l.length:=Nat.mul_le_mul_right _ hd1
      have e20:10 ^ 20=100000000000000000000:=by decide
      omega
     ·cases hv
    ·cases hv
 ·rw [if_neg (by omega),if_neg (fun h => hz h.2)]
  by_cases hb:runS (nP 10) r r.size 0<r.size
  ·rw [if_pos hb]
   exact refN_bad 10 _ 0 (run_lt_bad _ r hb)
  ·rw [if_neg hb,if_neg (by decide)]
   have hall:=all_nP 10 r (by have:=runS_le (nP 10) r r.size 0;omega)
   rw [refN_10 _ 0 hall,Lib.parseUintB,if_neg (by intro h;apply hr0;rw [Lib.size_eq,h];rfl)]
   cases Lib.parseUintM (2 ^ 64 - 1) 0 r.data.toList<;>rfl
theorem numV_refN16 (r:ByteArray) (hr0:r.size ≠ 0) (h16:¬ 16<r.size):refN 16 0 r.data.toList=numV 16 r:=by
 unfold numV
 rw [if_neg (by omega),if_neg (by simp)]
 by_cases hb:runS (nP 16) r r.size 0<r.size
 ·rw [if_pos hb]
  exact refN_bad 16 _ 0 (run_lt_bad _ r hb)
 ·rw [if_neg hb,if_pos rfl]
  have hall:=all_nP 16 r (by have:=runS_le (nP 16) r r.size 0;omega)
  exact refN_16 _ 0 0 hall (by rw [← Lib.size_eq];omega) (by decide)
theorem number_ev (s:ByteArray) (hs:s.size≤1000000):Ev (fun k => doorwardref14_Number.f k s) (numR (numS s)):=by
 have key:∀ b,preS s ⟨#[48,120]⟩=b→Ev (fun k => doorwardref14_Number.j0 k s 10 s b) (numR (numS s)):=by
  intro b hb
  apply succ
  cases b with
  |  false =>
   have hN:numS s=numV 10 s:=by unfold numS cutN;rw [hb];rfl
   rw [hN]
   simp only [doorwardref14_Number.j0,if_neg (show ¬ (false=true) by decide)]
   apply succ
   have hj2:∀ z:Bool,Ev (fun k => doorwardref14_Number.j2 k 10 s z) (if z=true then ((0:Int),false) else numR (refN 10 0 s.data.toList)):=by
    intro z
    apply succ
    cases z with
    |  true => simp only [doorwardref14_Number.j2,if_true];exact now rfl
    |  false =>
     simp only [doorwardref14_Number.j2,if_neg (show ¬ (false=true) by decide)]
     exact refN_l0 10 (Or.inl rfl) s hs s.size 0 0 (by omega) (by omega)
   by_cases h0:s.size=0
   ·have hV:numV 10 s=none:=by unfold numV;rw [if_pos (Or.inl h0)]
    rw [hV]
    simp only [doorwardref14_Number.j1,if_pos ((nil_iff s).2 h0)]
    exact hj2 true
   ·simp only [doorwardref14_Number.j1,if_neg (show ¬ s.toList=[] from fun h => h0 ((nil_iff s).1 h)),if_true]
    by_cases h1:1<s.size
    ·simp only [if_pos (show (s.size:Int)>1 by omega),if_pos (show 0<(s.size:Int) by omega)]
     refine evc (hj2 _) ?_
     by_cases hz:bt s 0=48
     ·have hV:numV 10 s=none:=by
       unfold numV
       by_cases h20:20<s.size
       ·rw [if_pos (Or.inr (Or.inl h20))]
       ·rw [if_neg (by omega),if_pos ⟨rfl,h1,hz⟩]
      rw [hV,if_pos (by simpa using hz)];rfl
     ·rw [if_neg (by simpa using hz),numV_refN10 s h0 (fun h => hz h.2)]
    ·simp only [if_neg (show ¬ (s.size:Int)>1 by omega)]
     refine evc (hj2 false) ?_
     rw [if_neg (by decide),numV_refN10 s h0 (fun h => h1 h.1)]
  |  true =>
   have h2:=(cutN_true hb).2
   have hN:numS s=numV 16 (s.extract 2 s.size):=by unfold numS cutN;rw [hb];rfl
   rw [hN]
   simp only [doorwardref14_Number.j0,if_true,if_pos (show 2≤(s.size:Int) by omega)]
   have hr:(s.extract 2 s.size).size≤1000000:=by simp;omega
   generalize s.extract 2 s.size=r at hr ⊢
   by_cases h16:16<r.size
   ·have hV:numV 16 r=none:=by unfold numV;rw [if_pos (Or.inr (Or.inr ⟨rfl,h16⟩))]
    rw [hV]
    simp only [if_pos (show (r.size:Int)>16 by omega)]
    exact now rfl
   ·simp only [if_neg (show ¬ (r.size:Int)>16 by omega)]
    apply succ
    by_cases h0:r.size=0
    ·have hV:numV 16 r=none:=by unfold numV;rw [if_pos (Or.inl h0)]
     rw [hV]
     simp only [doorwardref14_Number.j1,if_pos ((nil_iff r).2 h0)]
     apply succ
     simp only [doorwardref14_Number.j2,if_true]
     exact now rfl
    ·simp only [doorwardref14_Number.j1,if_neg (show ¬ r.toList=[] from fun h => h0 ((nil_iff r).1 h)),if_neg (show ¬ (16:Int)=10 by decide)]
     apply succ
     simp only [doorwardref14_Number.j2,if_neg (show ¬ (false=true) by decide)]
     rw [← numV_refN16 r h0 h16]
     exact refN_l0 16 (Or.inr rfl) r hr r.size 0 0 (by omega) (by omega)
 unfold doorwardref14_Number.f
 have e2:(⟨#[48,120]⟩:ByteArray).toList=([48,120]:List UInt8):=by rw [Lib.toList_data]
 by_cases h2:(s.size:Int) ≥ 2
 ·simp only [if_pos h2,if_pos (show (0:Int)≤2 by decide),if_pos (show 2≤(s.size:Int) by omega)]
  apply key
  unfold preS
  have e:(⟨#[48,120]⟩:ByteArray).size=2:=rfl
  rw [e2,e]
  simp
  omega
 ·simp only [if_neg h2]
  apply key
  unfold preS
  have e:(⟨#[48,120]⟩:ByteArray).size=2:=rfl
  rw [e]
  simp
  omega

/-! ### the reference's tokens -/
theorem end_ev (s:ByteArray) (hs:s.size≤1000000):∀ (d i:Nat),i+d=s.size→Ev (fun k => doorwardref14_end.l0 k s (i:Int)) ((i+runS eitS s d i:Nat):Int):=by
 intro d
 induction d with
 |  zero =>
  intro i hi
  apply succ
  simp only [doorwardref14_end.l0,if_neg (show ¬ (i:Int)<(s.size:Int) by omega)]
  exact now rfl
 |  succ d ih =>
  intro i hi
  apply succ
  simp only [doorwardref14_end.l0,if_pos (show (i:Int)<(s.size:Int) by omega),if_pos (show 0≤(i:Int) by omega),rletter_f,rdigit_f,Option.bind_some,w1 (show i<9223372036854775807 by omega)]
  rw [runS]
  unfold eitS
  have ih1:=ih (i+1) (by omega)
  have e:((i+1+runS eitS s d (i+1):Nat):Int)=((i+(runS eitS s d (i+1)+1):Nat):Int):=by omega
  unfold eitS at ih1 e
  cases h1:letS (bt s i) with
  |  true =>
   simp only [Bool.true_or,if_true]
   exact evc ih1 e
  |  false =>
   cases h2:dS (bt s i) with
   |  true =>
    simp only [Bool.or_true,if_true,if_neg (show ¬ (false=true) by decide)]
    exact evc ih1 e
   |  false =>
    simp only [Bool.or_self,if_neg (show ¬ (false=true) by decide)]
    exact now rfl
theorem remark_ev (s:ByteArray) (hs:s.size≤1000000):∀ (d i:Nat),i+d=s.size→Ev (fun k => doorwardref14_Token.l0 k s (i:Int)) ((-1:Int),((i+runS notNl s d i:Nat):Int)):=by
 intro d
 induction d with
 |  zero =>
  intro i hi
  apply succ
  simp only [doorwardref14_Token.l0,if_neg (show ¬ (i:Int)<(s.size:Int) by omega)]
  exact now rfl
 |  succ d ih =>
  intro i hi
  apply succ
  simp only [doorwardref14_Token.l0,if_pos (show (i:Int)<(s.size:Int) by omega),if_pos (show 0≤(i:Int) by omega),w1 (show i<9223372036854775807 by omega)]
  rw [runS]
  by_cases h:bt s i=10
  ·simp only [if_pos h]
   rw [if_neg (by simp [notNl,h])]
   exact now rfl
  ·simp only [if_neg h]
   rw [if_pos (by simp [notNl,h])]
   exact evc (ih (i+1) (by omega)) (by rw [show i+1+runS notNl s d (i+1)=i+(runS notNl s d (i+1)+1) by omega])
/-- A sign's text at a place: by its bytes. -/
theorem preS_1 (s:ByteArray) (p:Nat) (hp:p<s.size) (c:UInt8):preS (s.extract p s.size) ⟨#[c]⟩=(bt s p==(c.toNat:Int)):=by
 have hl:p<s.data.toList.length:=by rw [← Lib.size_eq];exact hp
 unfold preS
 have e1:(⟨#[c]⟩:ByteArray).size=1:=rfl
 have e2:(⟨#[c]⟩:ByteArray).toList=[c]:=by rw [Lib.toList_data]
 rw [e1,e2,Lib.extract_toList,Lib.extract_data,List.drop_zero]
 have ht:(s.data.toList.drop p).take (s.size - p)=s.data.toList.drop p:=by
  rw [List.take_of_length_le];rw [List.length_drop,← Lib.size_eq];exact Nat.le_refl _
 rw [ht,drop_cons hl,bt_get s p _ (List.getElem?_eq_getElem hl)]
 simp
 rw [Bool.eq_iff_iff]
 simp
 constructor
 ·rintro ⟨_,h⟩;rw [h]
 ·intro h;exact ⟨by omega,UInt8.toNat_inj.1 (by omega)⟩
theorem preS_2 (s:ByteArray) (p:Nat) (hp:p<s.size) (c d:UInt8):preS (s.extract p s.size) ⟨#[c,d]⟩=(bt s p==(c.toNat:Int) && (decide (p+1<s.size) && bt s ((p+1:Nat):Int)==(d.toNat:Int))):=by
 have hl:p<s.data.toList.length:=by rw [← Lib.size_eq];exact hp
 unfold preS
 have e1:(⟨#[c,d]⟩:ByteArray).size=2:=rfl
 have e2:(⟨#[c,d]⟩:ByteArray).toList=[c,d]:=by rw [Lib.toList_data]
 rw [e1,e2,Lib.extract_toList,Lib.extract_data,List.drop_zero]
 have ht:(s.data.toList.drop p).take (s.size - p)=s.data.toList.drop p:=by
  rw [List.take_of_length_le];rw [List.length_drop,← Lib.size_eq];exact Nat.le_refl _
 rw [ht,drop_cons hl,bt_get s p _ (List.getElem?_eq_getElem hl)]
 by_cases h2:p+1<s.size
 ·have hl2:p+1<s.data.toList.length:=by rw [← Lib.size_eq];exact h2
  rw [drop_cons hl2,bt_get s (p+1) _ (List.getElem?_eq_getElem hl2)]
  simp
  rw [Bool.eq_iff_iff]
  simp
  constructor
  ·rintro ⟨_,h,h'⟩;rw [h,h'];exact ⟨rfl,h2,rfl⟩
  ·rintro ⟨h,_,h'⟩;exact ⟨by omega,UInt8.toNat_inj.1 (by omega),UInt8.toNat_inj.1 (by omega)⟩
 ·rw [List.drop_of_length_le (by rw [← Lib.size_eq];omega)]
  simp [h2]

def sgS (c:Int) (two:Bool):Nat :=
 if two=true∧(c=61 ∨ c=33 ∨ c=60 ∨ c=62) then 2 else if c=60 ∨ c=62 ∨ c=38 ∨ c=40 ∨ c=41 then 1 else 0
theorem sign_size (s:ByteArray) (p:Nat) (hp:p<s.size):(signFrom (s.extract p s.size) signsL).size=sgS (bt s p) (decide (p+1<s.size) && bt s ((p+1:Nat):Int)==61):=by
 simp only [signsL,signFrom,preS_1 s p hp,preS_2 s p hp]
 generalize bt s (p:Int)=c
 have e61:((61:UInt8).toNat:Int)=61:=rfl
 have e33:((33:UInt8).toNat:Int)=33:=rfl
 have e60:((60:UInt8).toNat:Int)=60:=rfl
 have e62:((62:UInt8).toNat:Int)=62:=rfl
 have e38:((38:UInt8).toNat:Int)=38:=rfl
 have e40:((40:UInt8).toNat:Int)=40:=rfl
 have e41:((41:UInt8).toNat:Int)=41:=rfl
 rw [e61,e33,e60,e62,e38,e40,e41]
 generalize (decide (p+1<s.size) && bt s ((p+1:Nat):Int)==61)=two
 unfold sgS
 cases two with
 |  true =>
  simp only [Bool.and_true,beq_iff_eq,true_and]
  by_cases h1:c=61
  ·rw [if_pos h1,if_pos (Or.inl h1)];rfl
  rw [if_neg h1]
  by_cases h2:c=33
  ·rw [if_pos h2,if_pos (by omega)];rfl
  rw [if_neg h2]
  by_cases h3:c=60
  ·rw [if_pos h3,if_pos (by omega)];rfl
  rw [if_neg h3]
  by_cases h4:c=62
  ·rw [if_pos h4,if_pos (by omega)];rfl
  rw [if_neg h4,if_neg h3,if_neg h4,if_neg (show ¬ (c=61 ∨ c=33 ∨ c=60 ∨ c=62) by omega)]
  by_cases h5:c=38
  ·rw [if_pos h5,if_pos (by omega)];rfl
  rw [if_neg h5]
  by_cases h6:c=40
  ·rw [if_pos h6,if_pos (by omega)];rfl
  rw [if_neg h6]
  by_cases h7:c=41
  ·rw [if_pos h7,if_pos (by omega)];rfl
  rw [if_neg h7,if_neg (by omega)];rfl
 |  false =>
  simp only [Bool.and_false,beq_iff_eq,false_and,if_neg (show ¬ (false=true) by decide)]
  by_cases h3:c=60
  ·rw [if_pos h3,if_neg (by simp),if_pos (by omega)];rfl
  rw [if_neg h3]
  by_cases h4:c=62
  ·rw [if_pos h4,if_neg (by simp),if_pos (by omega)];rfl
  rw [if_neg h4]
  by_cases h5:c=38
  ·rw [if_pos h5,if_neg (by simp),if_pos (by omega)];rfl
  rw [if_neg h5]
  by_cases h6:c=40
  ·rw [if_pos h6,if_neg (by simp),if_pos (by omega)];rfl
  rw [if_neg h6]
  by_cases h7:c=41
  ·rw [if_pos h7,if_neg (by simp),if_pos (by omega)];rfl
  rw [if_neg h7,if_neg (by simp),if_neg (by omega)];rfl
theorem rsign_ev (s:ByteArray) (p:Nat) (hs:s.size≤1000000) (hp:p<s.size):Ev (fun k => doorwardref14_sign.f k s (p:Int)) (((signFrom (s.extract p s.size) signsL).size:Nat):Int):=by
 rw [sign_size s p hp]
 have hj1:∀ (c:Int) (b two:Bool),b=(two && decide (c=61 ∨ c=33 ∨ c=60 ∨ c=62))→Ev (fun k => doorwardref14_sign.j1 k c b) ((sgS c two:Nat):Int):=by
  intro c b two hb
  apply succ
  unfold sgS
  cases b with
  |  true =>
   simp only [doorwardref14_sign.j1,if_true]
   have:=hb.symm
   simp only [Bool.and_eq_true,decide_eq_true_eq] at this
   rw [if_pos this]
   exact now rfl
  |  false =>
   have hn:¬ (two=true∧(c=61 ∨ c=33 ∨ c=60 ∨ c=62)):=by
    intro h
    have:=hb.symm
    rw [h.1,decide_eq_true h.2] at this
    exact absurd this (by decide)
   rw [if_neg hn]
   simp only [doorwardref14_sign.j1,if_neg (show ¬ (false=true) by decide)]
   by_cases h3:c=60
   ·simp only [if_pos h3];rw [if_pos (by omega)];exact now rfl
   simp only [if_neg h3]
   by_cases h4:c=62
   ·simp only [if_pos h4];rw [if_pos (by omega)];exact now rfl
   simp only [if_neg h4]
   by_cases h5:c=38
   ·simp only [if_pos h5];rw [if_pos (by omega)];exact now rfl
   simp only [if_neg h5]
   by_cases h6:c=40
   ·simp only [if_pos h6];rw [if_pos (by omega)];exact now rfl
   simp only [if_neg h6]
   by_cases h7:c=41
   ·simp only [if_pos h7];rw [if_pos (by omega)];exact now rfl
   simp only [if_neg h7]
   rw [if_neg (by omega)];exact now rfl
 have hj0:∀ (c:Int) (two:Bool),Ev (fun k => doorwardref14_sign.j0 k c two) ((sgS c two:Nat):Int):=by
  intro c two
  apply succ
  cases two with
  |  false =>
   simp only [doorwardref14_sign.j0,if_neg (show ¬ (false=true) by decide)]
   exact hj1 c false false rfl
  |  true =>
   simp only [doorwardref14_sign.j0,if_true]
   by_cases h1:c=61
   ·simp only [if_pos h1];exact hj1 c true true (by simp [h1])
   simp only [if_neg h1]
   by_cases h2:c=33
   ·simp only [if_pos h2];exact hj1 c true true (by simp [h2])
   simp only [if_neg h2]
   by_cases h3:c=60
   ·simp only [if_pos h3];exact hj1 c true true (by simp [h3])
   simp only [if_neg h3]
   exact hj1 c (c==62) true (by simp [h1,h2,h3];rw [Bool.eq_iff_iff];simp)
 simp only [doorwardref14_sign.f,if_pos (show 0≤(p:Int) by omega),if_pos (show (p:Int)<(s.size:Int) by omega),w1 (show p<9223372036854775807 by omega)]
 by_cases h:p+1<s.size
 ·simp only [if_pos (show ((p+1:Nat):Int)<(s.size:Int) by omega),if_pos (show 0≤((p+1:Nat):Int) by omega)]
  rw [decide_eq_true h,Bool.true_and]
  exact hj0 _ _
 ·simp only [if_neg (show ¬ ((p+1:Nat):Int)<(s.size:Int) by omega)]
  rw [decide_eq_false h,Bool.false_and]
  exact hj0 _ _
def tokR (p:Nat):Option (Nat × Option Int)→Int × Int
 |  none => (-2,p)
 |  some (n,none) => (-1,((p+n:Nat):Int))
 |  some (n,some k) => (k,((p+n:Nat):Int))
theorem token_ev (s:ByteArray) (p:Nat) (hs:s.size≤1000000) (hp:p<s.size):Ev (fun k => doorwardref14_Token.f k s (p:Int)) (tokR p (stepL s p)):=by
 have hend:=end_ev s hs (s.size - p) p (by omega)
 have hle:=runS_le eitS s (s.size - p) p
 have hj:∀ b:Bool,b=decide (bt s p=32 ∨ bt s p=9 ∨ bt s p=13)→Ev (fun k => doorwardref14_Token.j0 k s (p:Int) (bt s p) b) (tokR p (stepL s p)):=by
  intro b hb
  apply succ
  unfold stepL
  cases b with
  |  true =>
   simp only [doorwardref14_Token.j0,if_true]
   rw [if_pos (of_decide_eq_true hb.symm)]
   exact now (by simp only [tokR,w1 (show p<9223372036854775807 by omega)])
  |  false =>
   simp only [doorwardref14_Token.j0,if_neg (show ¬ (false=true) by decide)]
   rw [if_neg (of_decide_eq_false hb.symm)]
   by_cases h1:bt s p=35
   ·simp only [if_pos h1];exact remark_ev s hs _ p (by omega)
   simp only [if_neg h1]
   by_cases h2:bt s p=10
   ·simp only [if_pos h2];exact now (by simp only [tokR,w1 (show p<9223372036854775807 by omega)])
   simp only [if_neg h2,rletter_f,rdigit_f,Option.bind_some]
   cases h3:letS (bt s p) with
   |  true =>
    simp only [if_true]
    exact Ev.bind hend (now rfl)
   |  false =>
    simp only [if_neg (show ¬ (false=true) by decide)]
    cases h4:dS (bt s p) with
    |  true =>
     simp only [if_true]
     refine Ev.bind hend ?_
     simp only [if_pos (show 0≤(p:Int) by omega),if_pos (show (p:Int)≤((p+runS eitS s (s.size - p) p:Nat):Int) by omega),if_pos (show ((p+runS eitS s (s.size - p) p:Nat):Int)≤(s.size:Int) by omega),Int.toNat_natCast]
     refine Ev.bind (number_ev _ (by simp;omega)) ?_
     cases numS (s.extract p (p+runS eitS s (s.size - p) p)) with
     |  none => simp only [numR,if_neg (show ¬ (false=true) by decide),Option.isSome_none];exact now rfl
     |  some u => simp only [numR,if_true,Option.isSome_some];exact now rfl
    |  false =>
     simp only [if_neg (show ¬ (false=true) by decide)]
     refine Ev.bind (rsign_ev s p hs hp) ?_
     have hsz:(signFrom (s.extract p s.size) signsL).size≤2:=by rw [sign_size s p hp];unfold sgS;split<;>(try split)<;>omega
     by_cases h5:(signFrom (s.extract p s.size) signsL).size=0
     ·simp only [if_neg (show ¬ (((signFrom (s.extract p s.size) signsL).size:Nat):Int)>0 by omega)]
      rw [if_pos h5];exact now rfl
     ·simp only [if_pos (show (((signFrom (s.extract p s.size) signsL).size:Nat):Int)>0 by omega)]
      rw [if_neg h5]
      refine now ?_
      simp only [tokR]
      rw [wr (by omega) (by omega)];simp
 simp only [doorwardref14_Token.f,if_pos (show 0≤(p:Int) by omega),if_pos (show (p:Int)<(s.size:Int) by omega)]
 by_cases h1:bt s p=32
 ·simp only [if_pos h1]
  exact hj true (by simp [h1])
 simp only [if_neg h1]
 by_cases h2:bt s p=9
 ·simp only [if_pos h2]
  exact hj true (by simp [h2])
 simp only [if_neg h2]
 exact hj _ (by simp [h1,h2];rw [Bool.eq_iff_iff];simp)
theorem stepL_kind {s:ByteArray} {p n:Nat} {k:Int} (h:stepL s p=some (n,some k)):1≤k∧k≤4:=by
 unfold stepL at h
 split at h
 ·cases h
 split at h
 ·cases h
 split at h
 ·cases h;omega
 split at h
 ·cases h;omega
 split at h
 ·split at h
  ·cases h;omega
  ·cases h
 split at h
 ·cases h
 ·cases h;omega
/-! ### the reference's word, action, None, Text and Depth are show's -/
theorem rsv15_f (s:ByteArray):doorwardref15_Reserved.f s=some (rsvB s):=by
 unfold doorwardref15_Reserved.f rsvB rsvL
 rw [List.contains_eq_any_beq]
 simp only [List.any_cons,List.any_nil,Bool.or_false]
 have e:∀ l:List UInt8,¬ s.toList=l→(s.toList==l)=false:=fun l h => by rw [beq_eq_false_iff_ne];exact h
 by_cases h1:s.toList=[105,102]
 ·rw [if_pos h1,h1];rfl
 rw [if_neg h1]
 by_cases h2:s.toList=[97,110,100]
 ·rw [if_pos h2,h2];rfl
 rw [if_neg h2]
 by_cases h3:s.toList=[111,114]
 ·rw [if_pos h3,h3];rfl
 rw [if_neg h3,e _ h1,e _ h2,e _ h3];rfl
theorem lexG_mem {s:ByteArray}:∀ (d p:Nat) (l:List S74),lexG s d p=.ok l→∀ t ∈ l,∃ q n k,p≤q∧q<s.size∧stepL s q=some (n,some k)∧t=⟨k,s.extract q (q+n),q⟩
 |  0,p,l,h,t,ht => by rw [lexG] at h;cases h;cases ht
 |  d+1,p,l,h,t,ht => by
  rw [lexG] at h
  split at h
  ·rename_i hp
   cases hst:stepL s p with
   |  none => rw [hst] at h;cases h
   |  some v =>
    obtain ⟨n,ko⟩:=v
    rw [hst] at h
    cases ko with
    |  none =>
     obtain ⟨q,m,k,h1,h2⟩:=lexG_mem d (p+n) l h t ht
     exact ⟨q,m,k,by omega,h2⟩
    |  some k =>
     simp only at h
     cases hr:lexG s d (p+n) with
     |  error e => rw [hr] at h;cases h
     |  ok m =>
      rw [hr] at h
      cases h
      rcases List.mem_cons.1 ht with e|e
      ·exact ⟨p,n,k,Nat.le_refl _,hp,hst,e⟩
      ·obtain ⟨q,m',k',h1,h2⟩:=lexG_mem d (p+n) m hr t e
       exact ⟨q,m',k',by omega,h2⟩
  ·cases h;cases ht
theorem lexG_one {s:ByteArray} {k:Int} (h0:s.size ≠ 0) (h:stepL s 0=some (s.size,some k)):lexG s s.size 0=.ok [⟨k,s.extract 0 s.size,0⟩]:=by
 obtain ⟨d,hd⟩:∃ d,s.size=d+1:=⟨s.size - 1,by omega⟩
 have e:lexG s d (0+s.size)=.ok []:=by
  cases d with
  |  zero => rw [lexG]
  |  succ d => rw [lexG,if_neg (by omega)]
 have e2:lexG s (d+1) 0=.ok [⟨k,s.extract 0 (0+s.size),0⟩]:=by
  rw [lexG,if_pos (by omega),h]
  simp only
  rw [e];rfl
 rw [Nat.zero_add] at e2
 rw [← e2];congr 1
theorem word_step (s:ByteArray):wordS s=(decide (s.size≤2000) && (decide (s.size ≠ 0) && (decide (stepL s 0=some (s.size,some 1)) && !rsvB s))):=by
 by_cases h2:2000<s.size
 ·have e:decide (s.size≤2000)=false:=decide_eq_false (by omega)
  rw [e,Bool.false_and]
  unfold wordS lexS
  rw [if_pos h2];rfl
 have e2:decide (s.size≤2000)=true:=decide_eq_true (by omega)
 rw [e2,Bool.true_and]
 have eL:lexS s=lexR s (lexG s s.size 0):=by unfold lexS;rw [if_neg h2]
 have hle:∀ q n k,stepL s q=some (n,some k)→q<s.size→1≤n∧q+n≤s.size:=fun q n k h hq => stepL_pos hq h
 by_cases h:s.size ≠ 0∧stepL s 0=some (s.size,some 1)
 ·rw [decide_eq_true h.1,decide_eq_true h.2,Bool.true_and,Bool.true_and]
  unfold wordS
  rw [eL,lexG_one h.1 h.2]
  have e3:s.extract 0 s.size=s:=by first|exact ByteArray.extract_zero_size|(simp;done)
  rw [e3]
  have e4:rd_T74 (lexR s (.ok [⟨1,s,0⟩])).1 0=⟨1,s,0⟩:=rfl
  rw [e4]
  show (decide ((0:Int)=0) && (decide ((2:Nat)=2) && (decide ((1:Int)=1) && (decide (s.toList=s.toList) && !rsvB s))))=!rsvB s
  simp
 ·have e:(decide (s.size ≠ 0) && (decide (stepL s 0=some (s.size,some 1)) && !rsvB s))=false:=by
   rw [Bool.eq_false_iff]
   intro q
   rw [Bool.and_eq_true,Bool.and_eq_true,decide_eq_true_eq,decide_eq_true_eq] at q
   exact h ⟨q.1,q.2.1⟩
  rw [e,Bool.eq_false_iff]
  intro q
  unfold wordS at q
  rw [eL,Bool.and_eq_true,Bool.and_eq_true,Bool.and_eq_true,Bool.and_eq_true,decide_eq_true_eq,decide_eq_true_eq,decide_eq_true_eq,decide_eq_true_eq] at q
  obtain ⟨q1,q2,q3,q4,_⟩:=q
  cases hg:lexG s s.size 0 with
  |  error p => rw [hg] at q1;exact absurd q1 (by show ¬ (60:Int)=0;decide)
  |  ok l =>
   rw [hg] at q2 q3 q4
   have q2:(l++[(⟨0,s.extract s.size s.size,s.size⟩:S74)]).length=2:=q2
   rw [List.length_append] at q2
   cases l with
   |  nil => simp at q2
   |  cons t r =>
    have q3:t.f0=1:=q3
    have q4:t.f1.toList=s.toList:=q4
    obtain ⟨qp,n,k,_,h5,h6,h7⟩:=lexG_mem s.size 0 _ hg t List.mem_cons_self
    obtain ⟨h8,h9⟩:=hle qp n k h6 h5
    have hk:k=1:=by rw [h7] at q3;exact q3
    have hsz:t.f1.size=s.size:=by
     have:=congrArg List.length q4
     rwa [Lib.toList_data,Lib.toList_data,← Lib.size_eq,← Lib.size_eq] at this
    rw [h7] at hsz
    have hsz:(s.extract qp (qp+n)).size=s.size:=hsz
    rw [ByteArray.size_extract] at hsz
    have hq0:qp=0:=by omega
    have hn:n=s.size:=by omega
    subst hq0
    rw [hn,hk] at h6
    exact h ⟨by omega,h6⟩
theorem word17_ev (s:ByteArray):Ev (fun k => doorwardref17_word.f k s) (wordS s):=by
 rw [word_step]
 unfold doorwardref17_word.f
 by_cases h0:s.toList=[]
 ·simp only [if_pos h0]
  have e:s.size=0:=by have:=congrArg List.length h0;rw [Lib.toList_data,← Lib.size_eq] at this;exact this
  refine now ?_
  rw [e];simp
 have hz:s.size ≠ 0:=fun e => h0 (by rw [Lib.toList_data];rw [Lib.size_eq] at e;exact List.length_eq_zero_iff.1 e)
 simp only [if_neg h0]
 by_cases h2:(s.size:Int)>2000
 ·simp only [if_pos h2]
  refine now ?_
  rw [decide_eq_false (show ¬ s.size≤2000 by omega),Bool.false_and]
 simp only [if_neg h2,rsv15_f,Option.bind_some]
 rw [decide_eq_true (show s.size≤2000 by omega),Bool.true_and,decide_eq_true hz,Bool.true_and]
 cases hr:rsvB s with
 |  true =>
  simp only [if_true]
  refine now ?_
  rw [Bool.not_true,Bool.and_false]
 |  false =>
  simp only [Bool.false_eq_true,if_false]
  rw [Bool.not_false,Bool.and_true]
  refine Ev.bind (token_ev s 0 (by omega) (by omega)) ?_
  cases hst:stepL s 0 with
  |  none => simp only [tokR];exact now (by simp)
  |  some v =>
   obtain ⟨n,ko⟩:=v
   cases ko with
   |  none => simp only [tokR];exact now (by simp)
   |  some k =>
    simp only [tokR]
    by_cases hk:k=1
    ·simp only [hk,↓reduceIte]
     refine now ?_
     congr 1
     rw [Bool.eq_iff_iff,beq_iff_eq,decide_eq_true_eq]
     constructor
     ·intro e;rw [show n=s.size by omega]
     ·intro e;injection e with e;injection e with e1 e2;omega
    ·simp only [hk,↓reduceIte]
     refine now ?_
     congr 1
     symm
     apply decide_eq_false
     intro e;injection e with e;injection e with e1 e2;injection e2 with e2;exact hk e2
theorem action17_f (n:ByteArray) (d:Int) (h0:0≤d) (h1:d<18446744073709551616) (hn:n.size≤1000000):doorwardref17_action.f n d=some (actS n d):=by
 have hs:=numT_size d h1
 unfold doorwardref17_action.f actS
 by_cases hd:d=0
 ·rw [if_neg (by omega),if_pos hd]
 ·have e1:(⟨#[32]⟩:ByteArray).size=1:=rfl
  rw [if_pos (by omega),if_neg hd,if_pos (by omega),number17_f d h0 h1,Option.bind_some,if_pos (by rw [sz_app,e1];omega),joinT_cons,tailT_cons,tailT_nil]
  congr 1;apply jt_ext;simp
theorem none16_f (c:CN):doorwardref16_None.f c.f0 c.f1 c.f2 c.f3 c.f4 c.f5=some (noneS c):=by
 unfold doorwardref16_None.f noneS
 by_cases h0:c.f0=0
 ·rw [if_pos h0,decide_eq_true h0,Bool.true_and,bare16_f,Option.bind_some]
  cases bareS c with
  |  true => rw [if_pos rfl,Bool.true_and];congr 1;rw [Bool.eq_iff_iff,beq_iff_eq,decide_eq_true_eq];omega
  |  false => rw [if_neg (by decide),Bool.false_and]
 ·rw [if_neg h0,decide_eq_false h0,Bool.false_and]
theorem text17_f (c:CN) (h1:fitsC c=true) (h2:rngC c=true) (h3:nodesC c≤1000000):doorwardref17_Text.f c.f0 c.f1 c.f2 c.f3 c.f4 c.f5=some (writeC c):=by
 unfold doorwardref17_Text.f;rw [cn_eta,if_pos ⟨h1,h2,h3⟩]
theorem depth17_l0 (c:CN) (l:List CN) (hl:l.length≤1000000) (ih:∀ k ∈ l,depthC k≤2000000∧Ev (fun n => doorwardref17_Depth.f n k.f0 k.f1 k.f2 k.f3 k.f4 k.f5) (depthC k:Int)):∀ (d i acc:Nat),i+d=l.length→acc≤3000000→Ev (fun n => doorwardref17_Depth.l0 n (acc:Int) l (l.length:Int) (i:Int) c.f0 c.f1 c.f2 c.f3 c.f4 c.f5) ((max acc (depthL c.f0 (l.drop i)):Nat):Int):=by
 intro d
 induction d with
 |  zero =>
  intro i acc hi ha
  apply succ
  simp only [doorwardref17_Depth.l0,if_neg (show ¬ (i:Int)<(l.length:Int) by omega)]
  refine now ?_
  rw [List.drop_of_length_le (by omega),depthL];simp
 |  succ d ihd =>
  intro i acc hi ha
  have hil:i<l.length:=by omega
  have hrd:rd_T28 l (i:Int)=l[i]:=by
   unfold rd_T28
   rw [Int.toNat_natCast,List.getD_eq_getElem?_getD,List.getElem?_eq_getElem hil];rfl
  rw [drop_cons hil,depthL]
  apply succ
  simp only [doorwardref17_Depth.l0,if_pos (show (i:Int)<(l.length:Int) by omega),if_pos (show 0≤(i:Int) by omega),hrd]
  obtain ⟨hd1,hd2⟩:=ih l[i] (List.getElem_mem hil)
  generalize l[i]=k at hd1 hd2
  have hw:wrap64 ((i:Int)+1)=((i+1:Nat):Int):=w1 (by omega)
  have ha1:wrap64 ((depthC k:Int)+1)=((depthC k+1:Nat):Int):=w1 (by omega)
  refine Ev.bind hd2 ?_
  simp only [closed_f,Option.bind_some]
  have key:∀ m:Nat,m≤2000001→Ev (fun n => doorwardref17_Depth.j1 n (acc:Int) (m:Int) l (l.length:Int) (i:Int) c.f0 c.f1 c.f2 c.f3 c.f4 c.f5) ((max acc (max (m+(if c.f0=3 then 1 else 0)) (depthL c.f0 (l.drop (i+1)))):Nat):Int):=by
   intro m hm
   apply succ
   simp only [doorwardref17_Depth.j1]
   have e1:wrap64 ((m:Int)+1)=((m+1:Nat):Int):=w1 (by omega)
   by_cases h3:c.f0=3
   ·simp only [if_pos h3,e1,hw]
    by_cases hg:acc<m+1
    ·simp only [if_pos (show ((m+1:Nat):Int)>(acc:Int) by omega)]
     refine evc (ihd (i+1) (m+1) (by omega) (by omega)) ?_
     congr 1;omega
    ·simp only [if_neg (show ¬ ((m+1:Nat):Int)>(acc:Int) by omega)]
     refine evc (ihd (i+1) acc (by omega) (by omega)) ?_
     congr 1;omega
   ·simp only [if_neg h3,hw]
    by_cases hg:acc<m
    ·simp only [if_pos (show (m:Int)>(acc:Int) by omega)]
     refine evc (ihd (i+1) m (by omega) (by omega)) ?_
     congr 1;omega
    ·simp only [if_neg (show ¬ (m:Int)>(acc:Int) by omega)]
     refine evc (ihd (i+1) acc (by omega) (by omega)) ?_
     congr 1;omega
  by_cases hcl:k.f0=2 ∨ (k.f0=1∧c.f0 ≠ 2)
  ·have e:(if (k.f0=1 ∨ k.f0=2)∧¬ (c.f0=2∧k.f0=1) then 1 else 0)=1:=if_pos (by omega)
   simp only [decide_eq_true hcl,if_true,ha1]
   refine evc (key (depthC k+1) (by omega)) ?_
   rw [e];congr 1;omega
  ·have e:(if (k.f0=1 ∨ k.f0=2)∧¬ (c.f0=2∧k.f0=1) then 1 else 0)=0:=if_neg (by omega)
   simp only [decide_eq_false hcl,Bool.false_eq_true,if_false]
   refine evc (key (depthC k) (by omega)) ?_
   rw [e];rfl
theorem depth17_ev:∀ c:CN,nodesC c≤1000000→Ev (fun n => doorwardref17_Depth.f n c.f0 c.f1 c.f2 c.f3 c.f4 c.f5) (depthC c:Int):=by
 refine cond_ind fun c ih hn => ?_
 apply succ
 simp only [doorwardref17_Depth.f]
 have hl:c.f1.length≤1000000:=by have:=nodesL_len c.f1;rw [nodesC_eq] at hn;omega
 refine evc (depth17_l0 c c.f1 hl (fun k hk => ?_) c.f1.length 0 0 (by omega) (by omega)) ?_
 ·have:=nodes_kid hk
  have:=depth_le k
  exact ⟨by omega,ih k hk (by omega)⟩
 ·rw [List.drop_zero,depthC_eq];simp

end Go.Proofs.YtdfjjimmnbijmaaGreatDoor.ZQ

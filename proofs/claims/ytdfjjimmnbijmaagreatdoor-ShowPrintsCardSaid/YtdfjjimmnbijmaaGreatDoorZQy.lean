import Derived.Test.YtdfjjimmnbijmaaGreatDoorZQv
namespace Go.Proofs.YtdfjjimmnbijmaaGreatDoor.ZQ
open Go.RowKit Go.Proofs.YtdfjjimmnbijmaaGreatDoorW.PrintWords Go.Proofs.YtdfjjimmnbijmaaGreatDoorW.PrintLast Go.Proofs.YtdfjjimmnbijmaaGreatDoorW.PrintMore Go.Proofs.YtdfjjimmnbijmaaGreatDoor.Base
attribute [local go_sem] max2_int min2_int max_two min_two max_three min_three max_four min_four
set_option linter.unusedVariables false
set_option linter.unusedSimpArgs false
/-! ### the reference's Few -/
def fewB (rs:List RN):Bool:=decide (rs.length≤30) && rs.all fun r => decide (r.f2.length≤60) && decide (nodesC r.f3≤100)
theorem few_l0 (a b:ByteArray) (n:Int) (q l:List RN) (hl:l.length≤1000000):∀ (d i:Nat),i+d=l.length→Ev (fun k => doorwardref15_Few.l0 k l (l.length:Int) (i:Int) a b n q) (a,b,n,q,(l.drop i).all fun r => decide (r.f2.length≤60) && decide (nodesC r.f3≤100)):=by
 intro d
 induction d with
 |  zero =>
  intro i hi
  apply succ
  simp only [doorwardref15_Few.l0,if_neg (show ¬ (i:Int)<(l.length:Int) by omega)]
  refine now ?_
  rw [List.drop_of_length_le (by omega)];rfl
 |  succ d ihd =>
  intro i hi
  have hil:i<l.length:=by omega
  have hrd:rd_T47 l (i:Int)=l[i]:=by
   unfold rd_T47
   rw [Int.toNat_natCast,List.getD_eq_getElem?_getD,List.getElem?_eq_getElem hil];rfl
  rw [drop_cons hil,List.all_cons]
  apply succ
  have e:∀ c:CN,doorwardref15_Many.f c.f0 c.f1 c.f2 c.f3 c.f4 c.f5 100=some ((manyS c 100:Nat):Int):=fun c => many_f c 100 (by omega) (by omega)
  simp only [doorwardref15_Few.l0,if_pos (show (i:Int)<(l.length:Int) by omega),if_pos (show 0≤(i:Int) by omega),hrd,e,Option.bind_some]
  generalize l[i]=r
  by_cases h1:r.f2.length≤60
  ·simp only [if_neg (show ¬ (r.f2.length:Int)>60 by omega)]
   rw [decide_eq_true h1,Bool.true_and]
   by_cases h2:nodesC r.f3≤100
   ·simp only [if_neg (show ¬ ((manyS r.f3 100:Nat):Int)>100 by unfold manyS;omega),w1 (show i<9223372036854775807 by omega)]
    rw [decide_eq_true h2,Bool.true_and]
    exact ihd (i+1) (by omega)
   ·simp only [if_pos (show ((manyS r.f3 100:Nat):Int)>100 by unfold manyS;omega)]
    rw [decide_eq_false h2];exact now rfl
  ·simp only [if_pos (show (r.f2.length:Int)>60 by omega)]
   rw [decide_eq_false h1];exact now rfl
theorem few_ev (a b:ByteArray) (n:Int) (l:List RN):Ev (fun k => doorwardref15_Few.f k a b n l) (a,b,n,l,fewB l):=by
 unfold doorwardref15_Few.f fewB
 by_cases h:l.length≤30
 ·simp only [if_neg (show ¬ (l.length:Int)>30 by omega)]
  refine evc (few_l0 a b n l l (by omega) l.length 0 (by omega)) ?_
  rw [List.drop_zero,decide_eq_true h,Bool.true_and]
 ·simp only [if_pos (show (l.length:Int)>30 by omega)]
  rw [decide_eq_false h];exact now rfl
/-! ### the reference's Print is show's -/
def T10 (ls:List ByteArray):ByteArray:=joinT ⟨#[10]⟩ ls++⟨#[10]⟩
def resS:Option ByteArray→ByteArray × Int
 |  some o => (o,0)
 |  none => (⟨#[]⟩,1)
def outP (v:ByteArray × Bool):ByteArray × Int:=if v.2=true then (v.1,0) else (⟨#[]⟩,1)
def finR (y:ByteArray) (c:CN) (go:ByteArray→Option ByteArray):Option ByteArray :=
 if noneS c=true then (if (y++⟨#[10]⟩).size>2000 then none else go (y++⟨#[10]⟩))
 else if rightS c=true∧depthC c≤8 then (if (y++⟨#[32,105,102,32]⟩++writeC c++⟨#[10]⟩).size>2000 then none else go (y++⟨#[32,105,102,32]⟩++writeC c++⟨#[10]⟩))
 else none
def refR:ByteArray→List RN→Option ByteArray
 |  out,[] => if out.size>2000 then none else some out
 |  out,r :: t => if wordS r.f0=true∧r.f2.length ≠ 0∧(r.f2.any fun s => !wordS s)=false then finR (out++actS r.f0 r.f1++tailT ⟨#[32]⟩ r.f2) r.f3 (fun o => refR o t) else none
theorem p17_l1 (rs:List RN) (i:Nat) (hi:i<1000000000) (r:RN) (hr:okR r) (go:ByteArray→Option ByteArray)
  (hgo:∀ o:ByteArray,o.size≤2000→Ev (fun k => doorwardref17_Print.l0 k o rs (rs.length:Int) ((i+1:Nat):Int)) (resS (go o))) (xs:List ByteArray) (hx:xs.length≤2000000) :
  ∀ (d j:Nat) (y:ByteArray),j+d=xs.length→y.size+2001 * d≤5000000000→Ev (fun k => doorwardref17_Print.l1 k y rs (rs.length:Int) (i:Int) xs (xs.length:Int) (j:Int) r.f0 r.f1 r.f2 r.f3.f0 r.f3.f1 r.f3.f2 r.f3.f3 r.f3.f4 r.f3.f5) (resS (if ((xs.drop j).any fun s => !wordS s)=false then finR (y++tailT ⟨#[32]⟩ (xs.drop j)) r.f3 go else none)):=by
 intro d
 induction d with
 |  zero =>
  intro j y hj hy
  apply succ
  rw [List.drop_of_length_le (by omega),List.any_nil,if_pos rfl,tailT_nil,app_nil]
  simp only [doorwardref17_Print.l1,if_neg (show ¬ (j:Int)<(xs.length:Int) by omega),none16_f,Option.bind_some]
  have w_:wrap64 ((i:Int)+1)=((i+1:Nat):Int):=w1 (by omega)
  have e1:(⟨#[10]⟩:ByteArray).size=1:=rfl
  have e4:(⟨#[32,105,102,32]⟩:ByteArray).size=4:=rfl
  unfold finR
  by_cases hn:noneS r.f3=true
  ·simp only [hn,↓reduceIte,w_,if_pos (show y.size+1≤9223372036854775807 by omega)]
   by_cases hs:(y++(⟨#[10]⟩:ByteArray)).size>2000
   ·simp only [if_pos hs,if_pos (show (((y++(⟨#[10]⟩:ByteArray)).size:Nat):Int)>2000 by omega)];exact now rfl
   ·simp only [if_neg hs,if_neg (show ¬ (((y++(⟨#[10]⟩:ByteArray)).size:Nat):Int)>2000 by omega)];exact hgo _ (by omega)
  ·rw [if_neg hn]
   rw [Bool.not_eq_true] at hn
   simp only [hn,Bool.false_eq_true,if_false]
   obtain ⟨Z,hZ⟩:∃ Z,(if rightS r.f3=true∧depthC r.f3≤8 then (if (y++⟨#[32,105,102,32]⟩++writeC r.f3++⟨#[10]⟩).size>2000 then none else go (y++⟨#[32,105,102,32]⟩++writeC r.f3++⟨#[10]⟩)) else none)=Z:=⟨_,rfl⟩
   rw [hZ]
   have j4:∀ b:Bool,b=(!(rightS r.f3 && decide (depthC r.f3≤8)))→Ev (fun k => doorwardref17_Print.j4 k y rs (rs.length:Int) (i:Int) b r.f0 r.f1 r.f2 r.f3.f0 r.f3.f1 r.f3.f2 r.f3.f3 r.f3.f4 r.f3.f5) (resS Z):=by
    intro b hb
    apply succ
    simp only [doorwardref17_Print.j4]
    by_cases hk:rightS r.f3=true∧depthC r.f3≤8
    ·have hbf:b=false:=by rw [hb,hk.1,decide_eq_true hk.2];rfl
     subst hbf
     rw [if_pos hk] at hZ
     have hw:nodesC r.f3≤100∧fitsC r.f3=true:=by have h_:=hk.1;unfold rightS at h_;rw [Bool.and_eq_true,decide_eq_true_eq] at h_;exact h_
     have hsz:=writeC_size r.f3 hw.2 hr.1
     have hwn:=hw.1
     simp only [Bool.false_eq_true,if_false,text17_f r.f3 hw.2 hr.1 (by omega),Option.bind_some,w_,if_pos (show y.size+4≤9223372036854775807 by omega),if_pos (show (y++(⟨#[32,105,102,32]⟩:ByteArray)).size+(writeC r.f3).size≤9223372036854775807 by rw [sz_app,e4];omega),if_pos (show (y++(⟨#[32,105,102,32]⟩:ByteArray)++writeC r.f3).size+1≤9223372036854775807 by rw [sz_app,sz_app,e4];omega)]
     rw [← hZ]
     by_cases hs:(y++(⟨#[32,105,102,32]⟩:ByteArray)++writeC r.f3++(⟨#[10]⟩:ByteArray)).size>2000
     ·simp only [if_pos hs,if_pos (show (((y++(⟨#[32,105,102,32]⟩:ByteArray)++writeC r.f3++(⟨#[10]⟩:ByteArray)).size:Nat):Int)>2000 by omega)];exact now rfl
     ·simp only [if_neg hs,if_neg (show ¬ (((y++(⟨#[32,105,102,32]⟩:ByteArray)++writeC r.f3++(⟨#[10]⟩:ByteArray)).size:Nat):Int)>2000 by omega)];exact hgo _ (by omega)
    ·have hbt:b=true:=by
      rw [hb]
      cases h1:rightS r.f3 with
      |  false => rfl
      |  true => rw [decide_eq_false (fun h2 => hk ⟨h1,h2⟩)];rfl
     subst hbt
     rw [if_neg hk] at hZ
     simp only [if_true]
     rw [← hZ];exact now rfl
   refine Ev.bind (right16_ev r.f3) ?_
   cases hrt:rightS r.f3 with
   |  true =>
    have hw:nodesC r.f3≤100:=by have h_:=hrt;unfold rightS at h_;rw [Bool.and_eq_true,decide_eq_true_eq] at h_;exact h_.1
    simp only [if_true]
    refine Ev.bind (depth17_ev r.f3 (by omega)) (j4 _ ?_)
    rw [hrt,Bool.true_and]
    by_cases h8:depthC r.f3≤8
    ·rw [decide_eq_true h8,decide_eq_false (by omega)];rfl
    ·rw [decide_eq_false h8,decide_eq_true (by omega)];rfl
   |  false => simp only [Bool.false_eq_true,if_false];exact j4 true (by rw [hrt];rfl)
 |  succ d ihd =>
  intro j y hj hy
  have hjl:j<xs.length:=by omega
  have hrd:rdOf ByteArray.empty xs (j:Int)=xs[j]:=by
   unfold rdOf
   rw [Int.toNat_natCast,List.getD_eq_getElem?_getD,List.getElem?_eq_getElem hjl];rfl
  rw [drop_cons hjl]
  apply succ
  simp only [doorwardref17_Print.l1,if_pos (show (j:Int)<(xs.length:Int) by omega),if_pos (show 0≤(j:Int) by omega),hrd]
  generalize xs[j]=s
  refine Ev.bind (word17_ev s) ?_
  rw [List.any_cons]
  have e1:(⟨#[32]⟩:ByteArray).size=1:=rfl
  cases hw:wordS s with
  |  true =>
   have hsz:=wordS_size hw
   simp only [if_true,w1 (show j<9223372036854775807 by omega),if_pos (show y.size+1≤9223372036854775807 by omega),if_pos (show (y++(⟨#[32]⟩:ByteArray)).size+s.size≤9223372036854775807 by rw [sz_app,e1];omega)]
   refine evc (ihd (j+1) (y++⟨#[32]⟩++s) (by omega) (by rw [sz_app,sz_app,e1];omega)) ?_
   rw [Bool.not_true,Bool.false_or,tailT_cons]
   congr 2
   ·congr 1;apply jt_ext;simp
  |  false =>
   simp only [Bool.false_eq_true,if_false]
   exact now (by simp [resS])
theorem p17_l0 (rs:List RN) (hl:rs.length≤1000000) (hok:∀ r ∈ rs,okR r):∀ (d i:Nat) (out:ByteArray),i+d=rs.length→out.size≤100000→Ev (fun k => doorwardref17_Print.l0 k out rs (rs.length:Int) (i:Int)) (resS (refR out (rs.drop i))):=by
 intro d
 induction d with
 |  zero =>
  intro i out hi ho
  apply succ
  rw [List.drop_of_length_le (by omega),refR]
  simp only [doorwardref17_Print.l0,if_neg (show ¬ (i:Int)<(rs.length:Int) by omega)]
  by_cases hs:out.size>2000
  ·simp only [if_pos hs,if_pos (show (out.size:Int)>2000 by omega)];exact now rfl
  ·simp only [if_neg hs,if_neg (show ¬ (out.size:Int)>2000 by omega)];exact now rfl
 |  succ d ihd =>
  intro i out hi ho
  have hil:i<rs.length:=by omega
  have hrd:rd_T47 rs (i:Int)=rs[i]:=by
   unfold rd_T47
   rw [Int.toNat_natCast,List.getD_eq_getElem?_getD,List.getElem?_eq_getElem hil];rfl
  have hr:=hok rs[i] (List.getElem_mem hil)
  rw [drop_cons hil]
  apply succ
  simp only [doorwardref17_Print.l0,if_pos (show (i:Int)<(rs.length:Int) by omega),if_pos (show 0≤(i:Int) by omega),hrd]
  generalize rs[i]=r at hr
  obtain ⟨Z,hZ⟩:∃ Z,refR out (r :: rs.drop (i+1))=Z:=⟨_,rfl⟩
  rw [hZ]
  have j2:∀ b:Bool,b=(!(wordS r.f0 && decide (r.f2.length ≠ 0)))→Ev (fun k => doorwardref17_Print.j2 k out rs (rs.length:Int) (i:Int) b r.f0 r.f1 r.f2 r.f3.f0 r.f3.f1 r.f3.f2 r.f3.f3 r.f3.f4 r.f3.f5) (resS Z):=by
   intro b hb
   apply succ
   simp only [doorwardref17_Print.j2]
   by_cases hk:wordS r.f0=true∧r.f2.length ≠ 0
   ·have hbf:b=false:=by rw [hb,hk.1,decide_eq_true hk.2];rfl
    subst hbf
    have h1:=wordS_size hk.1
    have h2:=actS_size r.f0 r.f1 hr.2.2.1
    have h3:=hr.2.2.2
    simp only [Bool.false_eq_true,if_false,action17_f r.f0 r.f1 hr.2.1 hr.2.2.1 (by omega),Option.bind_some,if_pos (show out.size+(actS r.f0 r.f1).size≤9223372036854775807 by omega)]
    refine evc (p17_l1 rs i (by omega) r hr (fun o => refR o (rs.drop (i+1))) (fun o ho2 => ihd (i+1) o (by omega) (by omega)) r.f2 hr.2.2.2 r.f2.length 0 (out++actS r.f0 r.f1) (by omega) (by rw [sz_app];omega)) ?_
    rw [List.drop_zero,← hZ,refR]
    by_cases ha:(r.f2.any fun s => !wordS s)=false
    ·rw [if_pos ha,if_pos ⟨hk.1,hk.2,ha⟩]
    ·rw [if_neg ha,if_neg (fun h => ha h.2.2)]
   ·have hbt:b=true:=by
     rw [hb]
     cases h1:wordS r.f0 with
     |  false => rfl
     |  true => rw [decide_eq_false (fun h2 => hk ⟨h1,h2⟩)];rfl
    subst hbt
    simp only [if_true]
    rw [← hZ,refR,if_neg (fun h => hk ⟨h.1,h.2.1⟩)]
    exact now rfl
  refine Ev.bind (word17_ev r.f0) ?_
  cases hw:wordS r.f0 with
  |  true =>
   simp only [if_true]
   refine j2 _ ?_
   rw [hw,Bool.true_and,Bool.eq_iff_iff,beq_iff_eq,Bool.not_eq_true',decide_eq_false_iff_not]
   omega
  |  false => simp only [Bool.false_eq_true,if_false];exact j2 true (by rw [hw];rfl)
theorem refR_cons (out:ByteArray) (r:RN) (t:List RN):refR out (r :: t)=if (ruleS r).2=true then (if (out++(ruleS r).1++⟨#[10]⟩).size>2000 then none else refR (out++(ruleS r).1++⟨#[10]⟩) t) else none:=by
 rw [refR]
 unfold ruleS
 by_cases h:wordS r.f0=true∧r.f2.length ≠ 0∧(r.f2.any fun s => !wordS s)=false
 ·have eo:out++actS r.f0 r.f1++tailT ⟨#[32]⟩ r.f2=out++outS r:=by
   unfold outS
   cases hx:r.f2 with
   |  nil => exact absurd (by rw [hx];rfl) h.2.1
   |  cons x q =>
    simp only [joinT_cons,tailT_cons,tailT_nil]
    apply jt_ext;simp
  rw [if_pos h,if_pos h,eo]
  unfold finR
  by_cases hn:noneS r.f3=true
  ·rw [if_pos hn,if_pos hn,if_pos rfl]
  ·rw [if_neg hn,if_neg hn]
   by_cases hk:rightS r.f3=true∧depthC r.f3≤8
   ·have e:out++outS r++⟨#[32,105,102,32]⟩++writeC r.f3=out++joinT ⟨#[32,105,102,32]⟩ [outS r,writeC r.f3]:=by
     rw [joinT_cons,tailT_cons,tailT_nil];apply jt_ext;simp
    rw [if_pos hk,if_pos hk,if_pos rfl,e]
   ·rw [if_neg hk,if_neg hk,if_neg (by decide)]
 ·rw [if_neg h,if_neg h,if_neg (by decide)]
theorem tailT_app (b:ByteArray):∀ p q:List ByteArray,tailT b (p++q)=tailT b p++tailT b q
 |  [],q => by rw [List.nil_append,tailT_nil,nil_app]
 |  x :: p,q => by rw [List.cons_append,tailT_cons,tailT_cons,tailT_app b p q,app_assoc (b++x)]
theorem T10_snoc (acc:List ByteArray) (x:ByteArray) (h:acc ≠ []):T10 (acc++[x])=T10 acc++x++⟨#[10]⟩:=by
 cases acc with
 |  nil => exact absurd rfl h
 |  cons a q =>
  unfold T10
  rw [List.cons_append,joinT_cons,joinT_cons,tailT_app,tailT_cons,tailT_nil]
  apply jt_ext;simp
theorem snoc_ne (acc:List ByteArray) (x:ByteArray):acc++[x] ≠ []:=by simp
theorem T10_snoc_size (acc:List ByteArray) (x:ByteArray) (h:acc ≠ []):(T10 (acc++[x])).size=(T10 acc).size+x.size+1:=by
 rw [T10_snoc acc x h,sz_app,sz_app];rfl
theorem lines_mono:∀ (rs:List RN) (long:Nat) (acc ls:List ByteArray),acc ≠ []→linesS long rs acc=some ls→(T10 acc).size≤(T10 ls).size
 |  [],long,acc,ls,h,e => by rw [linesS] at e;cases e;exact Nat.le_refl _
 |  r :: t,long,acc,ls,h,e => by
  rw [linesS] at e
  split at e
  ·have h1:=lines_mono t _ _ ls (snoc_ne _ _) e
   rw [T10_snoc_size acc _ h] at h1
   omega
  ·cases e
theorem lines_ref:∀ (rs:List RN) (long:Nat) (acc:List ByteArray),acc ≠ []→long≤(T10 acc).size→resS (refR (T10 acc) rs)=outP (endS (linesS long rs acc))
 |  [],long,acc,h,hl => by
  rw [refR,linesS]
  show _=outP (T10 acc,decide ((T10 acc).size≤2000))
  unfold outP
  by_cases hs:(T10 acc).size>2000
  ·rw [if_pos hs,decide_eq_false (show ¬ (T10 acc).size≤2000 by omega)];rfl
  ·rw [if_neg hs,decide_eq_true (show (T10 acc).size≤2000 by omega)];rfl
 |  r :: t,long,acc,h,hl => by
  rw [refR_cons,linesS]
  have es:=T10_snoc_size acc (ruleS r).1 h
  rw [← T10_snoc acc _ h]
  by_cases h2:(ruleS r).2=true
  ·rw [if_pos h2]
   by_cases h3:long+(ruleS r).1.size≤2000
   ·rw [if_pos (c:=(ruleS r).2=true∧long+(ruleS r).1.size≤2000) ⟨h2,h3⟩]
    have ih:=lines_ref t (long+(ruleS r).1.size) (acc++[(ruleS r).1]) (snoc_ne _ _) (by omega)
    by_cases hs:(T10 (acc++[(ruleS r).1])).size>2000
    ·rw [if_pos hs]
     cases hL:linesS (long+(ruleS r).1.size) t (acc++[(ruleS r).1]) with
     |  none => rfl
     |  some ls =>
      have hm:=lines_mono t _ _ ls (snoc_ne _ _) hL
      show _=outP (T10 ls,decide ((T10 ls).size≤2000))
      rw [decide_eq_false (show ¬ (T10 ls).size≤2000 by omega)];rfl
    ·rw [if_neg hs,ih]
   ·rw [if_neg (c:=(ruleS r).2=true∧long+(ruleS r).1.size≤2000) (fun q => h3 q.2),if_pos (by omega)];rfl
  ·rw [if_neg h2,if_neg (fun q => h2 q.1)];rfl
theorem head_T10 (a d:ByteArray) (n:Int):T10 [headA a,headD d n]=(⟨#[97,114,99,104,32]⟩:ByteArray)++a++⟨#[10]⟩++⟨#[100,101,102,97,117,108,116,32]⟩++actS d n++⟨#[10]⟩:=by
 unfold T10 headA headD
 rw [joinT_cons,tailT_cons,tailT_nil,joinT_cons,tailT_cons,tailT_nil,joinT_cons,tailT_cons,tailT_nil]
 apply jt_ext;simp
theorem print17_ev (a d:ByteArray) (n:Int) (rs:List RN) (hn0:0≤n) (hn1:n<18446744073709551616) (hl:rs.length≤2000) (hok:∀ r ∈ rs,okR r):Ev (fun k => doorwardref17_Print.f k a d n rs) (outP (sourceS a d n rs)):=by
 obtain ⟨Z,hZ⟩:∃ Z,sourceS a d n rs=Z:=⟨_,rfl⟩
 rw [hZ]
 unfold sourceS at hZ
 unfold doorwardref17_Print.f
 have j0:∀ b:Bool,b=(!(wordS a && wordS d))→Ev (fun k => doorwardref17_Print.j0 k b a d n rs) (outP Z):=by
  intro b hb
  apply succ
  simp only [doorwardref17_Print.j0]
  by_cases hk:wordS a=true∧wordS d=true
  ·have hbf:b=false:=by rw [hb,hk.1,hk.2];rfl
   subst hbf
   rw [if_pos ⟨hk.1,hk.2,hl⟩] at hZ
   have h1:=wordS_size hk.1
   have h2:=wordS_size hk.2
   have h3:=actS_size d n hn1
   have e5:(⟨#[97,114,99,104,32]⟩:ByteArray).size=5:=rfl
   have e1:(⟨#[10]⟩:ByteArray).size=1:=rfl
   have e8:(⟨#[100,101,102,97,117,108,116,32]⟩:ByteArray).size=8:=rfl
   simp only [Bool.false_eq_true,if_false,action17_f d n hn0 hn1 (by omega),Option.bind_some,sz_app,e5,e1,e8]
   simp only [if_pos (show 5+a.size≤9223372036854775807 by omega),if_pos (show 5+a.size+1≤9223372036854775807 by omega),if_pos (show 5+a.size+1+8≤9223372036854775807 by omega),if_pos (show 5+a.size+1+8+(actS d n).size≤9223372036854775807 by omega),if_pos (show 5+a.size+1+8+(actS d n).size+1≤9223372036854775807 by omega)]
   rw [← head_T10 a d n]
   refine evc (p17_l0 rs (by omega) hok rs.length 0 _ (by omega) (by rw [head_T10];simp only [sz_app,e5,e1,e8];omega)) ?_
   rw [List.drop_zero,← hZ]
   exact lines_ref rs 0 _ (by simp) (Nat.zero_le _)
  ·have hbt:b=true:=by
    rw [hb]
    cases h1:wordS a with
    |  false => rfl
    |  true =>
     cases h2:wordS d with
     |  false => rfl
     |  true => exact absurd ⟨h1,h2⟩ hk
   subst hbt
   rw [if_neg (fun h => hk ⟨h.1,h.2.1⟩)] at hZ
   simp only [if_true]
   rw [← hZ];exact now rfl
 refine Ev.bind (word17_ev a) ?_
 cases hw:wordS a with
 |  true =>
  simp only [if_true]
  exact Ev.bind (word17_ev d) (j0 _ (by rw [hw,Bool.true_and]))
 |  false => simp only [Bool.false_eq_true,if_false];exact j0 true (by rw [hw];rfl)

end Go.Proofs.YtdfjjimmnbijmaaGreatDoor.ZQ

-- Written for this claim by myprint.py over the kit's print (functions of this session supplied)
import Derived.Test.YtdfjjimmnbijmaaGreatDoorZQ0
import Derived.Test.YtdfjjimmnbijmaaGreatDoorZQ1
import Derived.Test.YtdfjjimmnbijmaaGreatDoorZQ3
import Derived.Test.YtdfjjimmnbijmaaGreatDoorZQ4
import Derived.Test.YtdfjjimmnbijmaaGreatDoorZQ5
import Derived.Test.YtdfjjimmnbijmaaGreatDoorZQ6
import Derived.Test.YtdfjjimmnbijmaaGreatDoorZQ8
import Derived.Test.YtdfjjimmnbijmaaGreatDoorZQ9
namespace Go.Proofs.YtdfjjimmnbijmaaGreatDoor.ZQ
open Go.RowKit Go.Proofs.YtdfjjimmnbijmaaGreatDoorW.PrintWords Go.Proofs.YtdfjjimmnbijmaaGreatDoorW.PrintLast Go.Proofs.YtdfjjimmnbijmaaGreatDoorW.PrintMore Go.Proofs.YtdfjjimmnbijmaaGreatDoor.Base
attribute [local go_sem] max2_int min2_int max_two min_two max_three min_three max_four min_four   -- for this text's walks alone
set_option linter.unusedVariables false
set_option linter.unusedSimpArgs false

/-! ### show_rule: function 35 -/
/-! ### words, actions and depth in plain words -/
def rsvL:List (List UInt8):=[[105,102],[97,110,100],[111,114],[110,111,116]]
def rsvB (s:ByteArray):Bool:=rsvL.contains s.toList
theorem rsv_ev (s:ByteArray):Ev (fun k => parse_Reserved.f k s) (rsvB s):=by
 unfold parse_Reserved.f
 refine Ev.bind (contains_ev _ s (by decide)) (now ?_)
 unfold rsvB rsvL
 rw [List.contains_eq_any_beq]
 simp only [List.any_cons,List.any_nil,Lib.toList_data]
 have e:∀ (a b:List UInt8),(a==b)=(b==a):=fun a b => by rw [Bool.eq_iff_iff,beq_iff_eq,beq_iff_eq];exact eq_comm
 simp only [e _ s.data.toList]
def wordS (s:ByteArray):Bool:=decide ((lexS s).2.1=0) && (decide ((lexS s).1.length=2) && (decide ((rd_T74 (lexS s).1 0).f0=1) && (decide ((rd_T74 (lexS s).1 0).f1.toList=s.toList) && !rsvB s)))
theorem word_ev (s:ByteArray):Ev (fun k => show_word.f k s) (wordS s):=by
 unfold show_word.f wordS
 simp only [lex_Lex.f,Option.bind_some]
 generalize lexS s=L
 by_cases h1:L.2.1=0
 ·simp only [if_pos h1,decide_eq_true h1,Bool.true_and]
  by_cases h2:L.1.length=2
  ·simp only [if_pos (show (L.1.length:Int)=2 by omega),if_pos (show 0<(L.1.length:Int) by omega),decide_eq_true h2,Bool.true_and]
   by_cases h3:(rd_T74 L.1 0).f0=1
   ·simp only [if_pos h3,decide_eq_true h3,Bool.true_and]
    by_cases h4:(rd_T74 L.1 0).f1.toList=s.toList
    ·simp only [if_pos h4,decide_eq_true h4,Bool.true_and]
     exact Ev.bind (rsv_ev s) (now rfl)
    ·simp only [if_neg h4,decide_eq_false h4,Bool.false_and];exact now rfl
   ·simp only [if_neg h3,decide_eq_false h3,Bool.false_and];exact now rfl
  ·simp only [if_neg (show ¬ (L.1.length:Int)=2 by omega),decide_eq_false h2,Bool.false_and];exact now rfl
 ·simp only [if_neg h1,decide_eq_false h1,Bool.false_and];exact now rfl
theorem word_any (s:ByteArray) (w:World) (hLd:LaidAt w):Calls Tryz.prog 32 #[.string s] w fun e w' => e=.returned (.bool (wordS s))∧Below w.heap.size w w':=by
 obtain ⟨k,hk⟩:=Ev.rounds (word_ev s)
 exact show_word.calls k s (wordS s) w hLd hk
theorem wordS_lex {s:ByteArray} (h:wordS s=true):(lexS s).2.1=0:=by
 unfold wordS at h
 rw [Bool.and_eq_true,decide_eq_true_eq] at h
 exact h.1
theorem wordS_size {s:ByteArray} (h:wordS s=true):s.size≤2000:=by
 have h1:=wordS_lex h
 unfold lexS at h1
 split at h1
 ·cases h1
 ·omega
def actS (n:ByteArray) (d:Int):ByteArray:=if d=0 then n else joinT ⟨#[32]⟩ [n,numT d]
theorem actS_size (n:ByteArray) (d:Int) (hd:d<18446744073709551616):(actS n d).size≤n.size+21:=by
 unfold actS
 split
 ·omega
 ·have s5:=numT_size d hd
  have e3:(⟨#[32]⟩:ByteArray).size=1:=rfl
  rw [joinT_size,sumZ_cons,sumZ_cons,sumZ_nil,e3]
  simp only [List.length_cons,List.length_nil]
  omega
theorem join_f (b:ByteArray) (l:List ByteArray) (h1:l.length≤140737488355328) (h2:(joinT b l).size≤140737488355328):show_join.f b l=some (joinT b l):=by
 unfold show_join.f;rw [if_pos ⟨h1,h2⟩]
theorem number_f (d:Int) (h0:0≤d) (h1:d<18446744073709551616):show_number.f d=some (numT d):=by
 unfold show_number.f strconv_FormatUint.f
 rw [if_pos ⟨⟨h0,h1⟩,Or.inl rfl⟩]
 rfl
theorem action_f (n:ByteArray) (d:Int) (h0:0≤d) (h1:d<18446744073709551616) (hn:n.size≤1000000):show_action.f n d=some (actS n d):=by
 have hs:=actS_size n d h1
 unfold show_action.f actS at *
 by_cases hd:d=0
 ·rw [if_pos hd,if_pos hd]
 ·rw [if_neg hd] at hs
  rw [if_neg hd,if_neg hd,number_f d h0 h1,Option.bind_some,join_f _ _ (by simp) (by omega),Option.bind_some]
theorem action_any (n:ByteArray) (d:Int) (h0:0≤d) (h1:d<18446744073709551616) (hn:n.size≤1000000) (w:World) (hLd:LaidAt w):Calls Tryz.prog 34 #[.string n,.int .u64 d] w fun e w' => e=.returned (.string (actS n d))∧Below w.heap.size w w' :=
 show_action.calls n d _ w hLd (action_f n d h0 h1 hn)
def noneS (c:CN):Bool:=decide (c.f0=0) && (bareS c && decide (c.f1.length=0))
theorem none_f (c:CN):show_none.f c.f0 c.f1 c.f2 c.f3 c.f4 c.f5=some (noneS c):=by
 unfold show_none.f noneS bareS
 by_cases h0:c.f0=0
 ·rw [if_pos h0,decide_eq_true h0,Bool.true_and]
  by_cases h2:c.f2=0
  ·rw [if_pos h2,decide_eq_true h2,Bool.true_and]
   by_cases h3:c.f3=0
   ·rw [if_pos h3,decide_eq_true h3,Bool.true_and]
    by_cases h4:c.f4.toList=[]
    ·rw [if_pos h4,h4,List.isEmpty_nil,Bool.true_and]
     by_cases h5:c.f5=0
     ·rw [if_pos h5,decide_eq_true h5,Bool.true_and]
      congr 1
      rw [Bool.eq_iff_iff,beq_iff_eq,decide_eq_true_eq];omega
     ·rw [if_neg h5,decide_eq_false h5,Bool.false_and]
    ·rw [if_neg h4]
     have:c.f4.toList.isEmpty=false:=by cases hq:c.f4.toList with|nil => exact absurd hq h4|cons a r => rfl
     rw [this,Bool.false_and,Bool.false_and]
   ·rw [if_neg h3,decide_eq_false h3,Bool.false_and,Bool.false_and]
  ·rw [if_neg h2,decide_eq_false h2,Bool.false_and,Bool.false_and]
 ·rw [if_neg h0,decide_eq_false h0,Bool.false_and]
theorem cn_eta (c:CN):(⟨c.f0,c.f1,c.f2,c.f3,c.f4,c.f5⟩:CN)=c:=by cases c;rfl
theorem right_f (c:CN):types_Right.f c.f0 c.f1 c.f2 c.f3 c.f4 c.f5=some (rightS c):=by
 unfold types_Right.f types_count.f
 rw [cn_eta,Option.bind_some,← cnt_top c 0]
 cases cntR 101 [c] 1 0<;>rfl
def condS (c:CN):ByteArray × Int:=if rightS c=true then (writeC c,0) else (⟨#[]⟩,1)
theorem cond_f (c:CN) (hr:rngC c=true):show_Cond.f c.f0 c.f1 c.f2 c.f3 c.f4 c.f5=some (condS c):=by
 unfold show_Cond.f condS
 rw [right_f,Option.bind_some]
 by_cases h:rightS c=true
 ·rw [if_pos h,if_pos h]
  unfold rightS at h
  rw [Bool.and_eq_true,decide_eq_true_eq] at h
  unfold show_write.f
  rw [cn_eta,if_pos ⟨h.2,hr,by omega⟩];rfl
 ·rw [if_neg h,if_neg h]
theorem depth_l0 (c:CN) (l:List CN) (hl:l.length≤1000000) (ih:∀ k ∈ l,depthC k≤2000000∧Ev (fun n => show_depth.f n k.f0 k.f1 k.f2 k.f3 k.f4 k.f5) (depthC k:Int)):∀ (d i acc:Nat),i+d=l.length→acc≤3000000→Ev (fun n => show_depth.l0 n (acc:Int) l (l.length:Int) (i:Int) c.f0 c.f1 c.f2 c.f3 c.f4 c.f5) ((max acc (depthL c.f0 (l.drop i)):Nat):Int):=by
 intro d
 induction d with
 |  zero =>
  intro i acc hi ha
  apply succ
  simp only [show_depth.l0,if_neg (show ¬ (i:Int)<(l.length:Int) by omega)]
  refine now ?_
  rw [List.drop_of_length_le (by omega),depthL];simp
 |  succ d ihd =>
  intro i acc hi ha
  have hil:i<l.length:=by omega
  have hrd:rd_T28 l (i:Int)=l[i]:=by
   unfold rd_T28
   rw [Int.toNat_natCast,List.getD_eq_getElem?_getD,List.getElem?_eq_getElem hil];rfl
  rw [drop_cons hil,depthL]
  apply succ
  simp only [show_depth.l0,if_pos (show (i:Int)<(l.length:Int) by omega),if_pos (show 0≤(i:Int) by omega),hrd]
  obtain ⟨hd1,hd2⟩:=ih l[i] (List.getElem_mem hil)
  generalize l[i]=k at hd1 hd2
  have hw:wrap64 ((i:Int)+1)=((i+1:Nat):Int):=w1 (by omega)
  have ha1:wrap64 ((depthC k:Int)+1)=((depthC k+1:Nat):Int):=w1 (by omega)
  have ha2:wrap64 (((depthC k+1:Nat):Int)+1)=((depthC k+1+1:Nat):Int):=w1 (by omega)
  have hmx:∀ x y:Nat,mx (x:Int) (y:Int)=((max x y:Nat):Int):=by intro x y;unfold mx;split<;>omega
  refine Ev.bind hd2 ?_
  have nx:∀ a:Nat,a≤2000002→Ev (fun n => show_depth.l0 n (mx (acc:Int) (a:Int)) l (l.length:Int) (wrap64 ((i:Int)+1)) c.f0 c.f1 c.f2 c.f3 c.f4 c.f5) ((max acc (max a (depthL c.f0 (l.drop (i+1)))):Nat):Int):=by
   intro a hA
   rw [hw,hmx]
   refine evc (ihd (i+1) (max acc a) (by omega) (by omega)) ?_
   congr 1
   omega
  have key:∀ b:Bool,(b=true ↔ (k.f0=1 ∨ k.f0=2))→Ev (fun n => show_depth.j1 n (acc:Int) (depthC k:Int) b l (l.length:Int) (i:Int) c.f0 c.f1 c.f2 c.f3 c.f4 c.f5 k.f0 k.f1 k.f2 k.f3 k.f4 k.f5) ((max acc (max (depthC k+(if c.f0=3 then 1 else 0)+(if (k.f0=1 ∨ k.f0=2)∧¬ (c.f0=2∧k.f0=1) then 1 else 0)) (depthL c.f0 (l.drop (i+1)))):Nat):Int):=by
   intro b hb
   apply succ
   simp only [show_depth.j1]
   by_cases h3:c.f0=3
   ·simp only [if_pos h3]
    cases b with
    |  true =>
     have hk:=hb.1 rfl
     simp only [if_true,if_neg (show ¬ c.f0=2 by omega),ha1,ha2]
     refine evc (nx (depthC k+1+1) (by omega)) ?_
     rw [if_pos ⟨hk,fun h => by omega⟩]
    |  false =>
     have hk:¬ (k.f0=1 ∨ k.f0=2):=fun h => by have:=hb.2 h;cases this
     simp only [Bool.false_eq_true,if_false,ha1]
     refine evc (nx (depthC k+1) (by omega)) ?_
     rw [if_neg (fun h => hk h.1)]
   ·simp only [if_neg h3]
    cases b with
    |  true =>
     have hk:=hb.1 rfl
     simp only [if_true]
     by_cases h2:c.f0=2
     ·simp only [if_pos h2]
      by_cases hk1:k.f0=1
      ·simp only [if_pos hk1]
       refine evc (nx (depthC k) (by omega)) ?_
       rw [if_neg (fun h => h.2 ⟨h2,hk1⟩)];rfl
      ·simp only [if_neg hk1,ha1]
       refine evc (nx (depthC k+1) (by omega)) ?_
       rw [if_pos ⟨hk,fun h => hk1 h.2⟩]
     ·simp only [if_neg h2,ha1]
      refine evc (nx (depthC k+1) (by omega)) ?_
      rw [if_pos ⟨hk,fun h => h2 h.1⟩]
    |  false =>
     have hk:¬ (k.f0=1 ∨ k.f0=2):=fun h => by have:=hb.2 h;cases this
     simp only [Bool.false_eq_true,if_false]
     refine evc (nx (depthC k) (by omega)) ?_
     rw [if_neg (fun h => hk h.1)];rfl
  by_cases h1:k.f0=1
  ·simp only [if_pos h1]
   have:=key true (by simp [h1])
   exact this
  ·simp only [if_neg h1]
   have:=key (k.f0==2) (by rw [beq_iff_eq];omega)
   exact this
theorem depth_ev:∀ c:CN,nodesC c≤1000000→Ev (fun n => show_depth.f n c.f0 c.f1 c.f2 c.f3 c.f4 c.f5) (depthC c:Int):=by
 refine cond_ind fun c ih hn => ?_
 apply succ
 simp only [show_depth.f]
 have hl:c.f1.length≤1000000:=by have:=nodesL_len c.f1;rw [nodesC_eq] at hn;omega
 refine evc (depth_l0 c c.f1 hl (fun k hk => ?_) c.f1.length 0 0 (by omega) (by omega)) ?_
 ·have:=nodes_kid hk
  have:=depth_le k
  exact ⟨by omega,ih k hk (by omega)⟩
 ·rw [List.drop_zero,depthC_eq];simp
/-! ### slices.ContainsFunc of names that are no words -/
theorem rule1_any (s:ByteArray) (w:World) (hLd:LaidAt w):Calls Tryz.prog 63 #[.string s] w fun e w' => e=.returned (.bool (!wordS s))∧Below w.heap.size w w':=by
 have HW:=Aside0.mk (word_any s w hLd)
 clear hLd
 cases hs:wordS s with
 |  true =>
  rw [hs] at HW
  clear hs
  go_enter Tryz.func63,Tryz.ntmps63
  go_wp2_with fail
  go_at_call 32
  refine HW.out.mono ?_
  rintro e w1 ⟨rfl,hb⟩
  go_wp2_with fail
  all_goals go_ret
  exact ⟨rfl,hb⟩
 |  false =>
  rw [hs] at HW
  clear hs
  go_enter Tryz.func63,Tryz.ntmps63
  go_wp2_with fail
  go_at_call 32
  refine HW.out.mono ?_
  rintro e w1 ⟨rfl,hb⟩
  go_wp2_with fail
  all_goals go_ret
  exact ⟨rfl,hb⟩
def IdxP (w:World) (xs:List ByteArray) (e:Ending) (w':World):Prop:=∃ r:Int,e=.returned (.int .i64 r)∧decide (r ≥ 0)=(xs.any fun s => !wordS s)∧-1≤r∧Below w.heap.size w w'
theorem CS_at {w:World} {A:Option Addr} {xs:List ByteArray} (h:Kd.C Kd.string w A xs.length xs) (h0:0<xs.length):∃ bk o,A=some ⟨bk,o,none⟩∧(∀ (j:Nat) x,xs[j]?=some x→w.cell? ⟨bk,o+j,none⟩=some (.string x)):=by
 obtain ⟨bk,o,h1,h2,_⟩:=C_strs h h0
 exact ⟨bk,o,h1,h2⟩
set_option maxHeartbeats 3200000 in
set_option maxRecDepth 100000 in
theorem idxf_any (xs:List ByteArray) (A:Option Addr) (cap:Nat) (w:World) (hC:Kd.C Kd.string w A xs.length xs) (hLd:LaidAt w) :
  Calls Tryz.prog 87 #[.slice A xs.length cap,.func (.func 63) #[] #[]] w (IdxP w xs):=by
 have HC:=Aside0.mk hC
 have HLD:=Aside0.mk hLd
 have HXL:=Aside0.mk (show xs.length≤9223372036854775807 from hC.2.1)
 clear hC hLd
 go_enter Tryz.func87,Tryz.ntmps87
 go_wp2_with fail
 go_loopw [8] (fun v8 wr =>∃i:Nat,v8=.int .i64 i∧Aside0 (i≤xs.length)∧Aside0 (∀ x ∈ xs.take i,wordS x=true)∧Aside0 (Below w.heap.size w wr)) (fun v8 _ => xs.length - (intOf v8).toNat)
 case atStart => exact ⟨0,rfl,⟨Nat.zero_le _⟩,⟨fun x hx => by simp at hx⟩,⟨Below.refl _ _⟩⟩
 case round =>
  obtain ⟨i,rfl,hi,hall,hB⟩:=hrel
  by_cases hil:i<xs.length
  ·have hd:decide ((i:Int)<(xs.length:Int))=true:=decide_eq_true (by omega)
   have hdn:(i<xs.length)=True:=eq_true hil
   have hi0:(0≤(i:Int))=True:=eq_true (Int.natCast_nonneg i)
   have hi1:((i:Int)<(xs.length:Int))=True:=eq_true (by omega)
   obtain ⟨bk,o,rfl,hcell⟩:=CS_at HC.out (by omega)
   obtain ⟨x,hx⟩:∃ x,xs[i]?=some x:=⟨_,List.getElem?_eq_getElem hil⟩
   have x0:=pw_cell_below hB.out (hcell i x hx)
   have HX:=Aside0.mk hx
   have HIL:=Aside0.mk hil
   have HR1:=Aside0.mk (rule1_any x wr (LaidAt.of HLD.out hB.out))
   clear hcell hx hil
   cases hs:wordS x with
   |  true =>
    rw [hs] at HR1
    have HS:=Aside0.mk hs
    clear hs
    go_wp2_with ((with_reducible refine HR1.out.mono ?_);rintro e w3 ⟨rfl,hb3⟩)
    go_roundw
    case rel =>
     refine ⟨i+1,by have:=HIL.out;have:=HXL.out;rw [show wrap64 ((i:Int)+1)=((i+1:Nat):Int) by unfold wrap64;omega],⟨HIL.out⟩,⟨fun y hy => ?_⟩,⟨hB.out.trans (hb3.mono hB.out.size)⟩⟩
     rw [List.take_add_one,HX.out] at hy
     rcases List.mem_append.1 hy with h|h
     ·exact hall.out y h
     ·simp at h;subst h;exact HS.out
    case measure =>
     have:=HIL.out
     have:=HXL.out
     rw [show wrap64 ((i:Int)+1)=((i+1:Nat):Int) by unfold wrap64;omega]
     simp only [intOf,Int.toNat_natCast]
     omega
   |  false =>
    rw [hs] at HR1
    have HS:=Aside0.mk hs
    clear hs
    go_wp2_with ((with_reducible refine HR1.out.mono ?_);rintro e w3 ⟨rfl,hb3⟩)
    all_goals go_ret
    refine ⟨i,rfl,?_,by omega,hB.out.trans (hb3.mono hB.out.size)⟩
    rw [decide_eq_true (by omega)]
    symm
    rw [List.any_eq_true]
    exact ⟨x,List.mem_of_getElem? HX.out,by rw [HS.out];rfl⟩
  ·have hd:decide ((i:Int)<(xs.length:Int))=false:=decide_eq_false (by omega)
   have hdn:(i<xs.length)=False:=eq_false hil
   have HALL:=Aside0.mk (show ∀ x ∈ xs,wordS x=true by have:=hall.out;rw [List.take_of_length_le (by omega)] at this;exact this)
   clear hil
   go_wp2_with fail
   all_goals go_ret
   refine ⟨-1,rfl,?_,by omega,hB.out⟩
   rw [decide_eq_false (by omega)]
   symm
   rw [List.any_eq_false]
   intro x hx
   rw [HALL.out x hx];decide
set_option maxHeartbeats 3200000 in
set_option maxRecDepth 100000 in
theorem containsf_any (xs:List ByteArray) (A:Option Addr) (cap:Nat) (w:World) (hC:Kd.C Kd.string w A xs.length xs) (hLd:LaidAt w) :
  Calls Tryz.prog 62 #[.slice A xs.length cap,.func (.func 63) #[] #[]] w fun e w' => e=.returned (.bool (xs.any fun s => !wordS s))∧Below w.heap.size w w':=by
 have HI:=Aside0.mk (idxf_any xs A cap w hC hLd)
 clear hC hLd
 go_enter Tryz.func62,Tryz.ntmps62
 go_wp2_with fail
 go_at_call 87
 refine HI.out.mono ?_
 rintro e w1 ⟨r,rfl,hr,hr1,hb⟩
 have HR:=Aside0.mk hr
 have HB:=Aside0.mk hb
 clear hr hb
 go_wp2_with fail
 all_goals go_ret
 exact ⟨congrArg (fun b => Ending.returned (.bool b)) HR.out,HB.out⟩
/-! ### show.rule -/
abbrev RN:=S47
def outS (r:RN):ByteArray:=joinT ⟨#[32]⟩ [actS r.f0 r.f1,joinT ⟨#[32]⟩ r.f2]
def ruleS (r:RN):ByteArray × Bool :=
 if wordS r.f0=true∧r.f2.length ≠ 0∧(r.f2.any fun s => !wordS s)=false then
  if noneS r.f3=true then (outS r,true)
  else if rightS r.f3=true∧depthC r.f3≤8 then (joinT ⟨#[32,105,102,32]⟩ [outS r,writeC r.f3],true)
  else (⟨#[]⟩,false)
 else (⟨#[]⟩,false)
def okR (r:RN):Prop:=rngC r.f3=true∧0≤r.f1∧r.f1<18446744073709551616∧r.f2.length≤2000000
theorem words_size:∀ l:List ByteArray,(l.any fun s => !wordS s)=false→sumZ l≤2000 * l.length
 |  [],_ => by simp [sumZ]
 |  s :: t,h => by
  rw [List.any_cons,Bool.or_eq_false_iff] at h
  have h1:s.size≤2000:=wordS_size (by simpa using h.1)
  have h2:=words_size t h.2
  rw [sumZ_cons,List.length_cons];omega
theorem names_size {l:List ByteArray} (h:(l.any fun s => !wordS s)=false) (hl:l.length≤2000000):(joinT ⟨#[32]⟩ l).size≤5000000000:=by
 have h1:=words_size l h
 have h2:=joinT_le ⟨#[32]⟩ l
 have e3:(⟨#[32]⟩:ByteArray).size=1:=rfl
 rw [e3] at h2
 omega
theorem outS_size {r:RN} (h0:wordS r.f0=true) (h:(r.f2.any fun s => !wordS s)=false) (hr:okR r):(outS r).size≤6000000000:=by
 have h1:=names_size h hr.2.2.2
 have h2:=actS_size r.f0 r.f1 hr.2.2.1
 have h3:=wordS_size h0
 have e3:(⟨#[32]⟩:ByteArray).size=1:=rfl
 unfold outS
 rw [joinT_size,sumZ_cons,sumZ_cons,sumZ_nil,e3]
 simp only [List.length_cons,List.length_nil]
 omega
theorem depth_any (c:CN) (hn:nodesC c≤1000000) (A:Option Addr) (cap:Nat) (w:World) (hC:Kd.C k28 w A c.f1.length c.f1) (hcap:c.f1.length≤cap) (hLd:LaidAt w) :
  Calls Tryz.prog 65 #[.agg #[.int .i64 c.f0,.slice A c.f1.length cap,.int .i64 c.f2,.int .u64 c.f3,.string c.f4,.int .u64 c.f5]] w fun e w' => e=.returned (.int .i64 (depthC c:Int))∧Below w.heap.size w w':=by
 obtain ⟨k,hk⟩:=Ev.rounds (depth_ev c hn)
 exact show_depth.calls k c.f0 A cap c.f1 c.f2 c.f3 c.f4 c.f5 _ w hC hcap hLd hk
theorem none_any (c:CN) (A:Option Addr) (cap:Nat) (w:World) (hC:Kd.C k28 w A c.f1.length c.f1) (hcap:c.f1.length≤cap) (hLd:LaidAt w) :
  Calls Tryz.prog 64 #[.agg #[.int .i64 c.f0,.slice A c.f1.length cap,.int .i64 c.f2,.int .u64 c.f3,.string c.f4,.int .u64 c.f5]] w fun e w' => e=.returned (.bool (noneS c))∧Below w.heap.size w w' :=
 show_none.calls c.f0 A cap c.f1 c.f2 c.f3 c.f4 c.f5 _ w hC hcap hLd (none_f c)
theorem cond_any (c:CN) (hr:rngC c=true) (A:Option Addr) (cap:Nat) (w:World) (hC:Kd.C k28 w A c.f1.length c.f1) (hcap:c.f1.length≤cap) (hLd:LaidAt w) :
  Calls Tryz.prog 12 #[.agg #[.int .i64 c.f0,.slice A c.f1.length cap,.int .i64 c.f2,.int .u64 c.f3,.string c.f4,.int .u64 c.f5]] w fun e w' => e=.returned (.tuple #[.string (condS c).1,.int .i64 (condS c).2])∧Below w.heap.size w w' :=
 show_Cond.calls c.f0 A cap c.f1 c.f2 c.f3 c.f4 c.f5 _ _ w hC hcap hLd (cond_f c hr)
set_option maxHeartbeats 6400000 in
set_option maxRecDepth 100000 in
theorem rule_any (r:RN) (hr:okR r) (A2:Option Addr) (c2:Nat) (A4:Option Addr) (c4:Nat) (w:World) (hC2:Kd.C Kd.string w A2 r.f2.length r.f2) (hc2:r.f2.length≤c2) (hC4:Kd.C k28 w A4 r.f3.f1.length r.f3.f1) (hc4:r.f3.f1.length≤c4) (hLd:LaidAt w) :
  Calls Tryz.prog 35 #[.agg #[.string r.f0,.int .u64 r.f1,.slice A2 r.f2.length c2,.int .i64 r.f3.f0,.slice A4 r.f3.f1.length c4,.int .i64 r.f3.f2,.int .u64 r.f3.f3,.string r.f3.f4,.int .u64 r.f3.f5]] w fun e w' => e=.returned (.tuple #[.string (ruleS r).1,.bool (ruleS r).2])∧Below w.heap.size w w':=by
 obtain ⟨Z,hZ⟩:∃ Z,ruleS r=Z:=⟨_,rfl⟩
 rw [hZ]
 have hb0:Below w.heap.size w (w.alloc (.cells #[.string r.f0,.int .u64 r.f1,.slice A2 r.f2.length c2,.int .i64 r.f3.f0,.slice A4 r.f3.f1.length c4,.int .i64 r.f3.f2,.int .u64 r.f3.f3,.string r.f3.f4,.int .u64 r.f3.f5] 47)):=(Below.refl _ _).alloc (Nat.le_refl _) _
 have HB0:=Aside0.mk hb0
 have HK0:=Aside0.mk (blk_new w (.cells #[.string r.f0,.int .u64 r.f1,.slice A2 r.f2.length c2,.int .i64 r.f3.f0,.slice A4 r.f3.f1.length c4,.int .i64 r.f3.f2,.int .u64 r.f3.f3,.string r.f3.f4,.int .u64 r.f3.f5] 47))
 have HLD:=Aside0.mk hLd
 have HR:=Aside0.mk hr
 have HC2:=Aside0.mk hC2
 have HC4:=Aside0.mk hC4
 have HL2:=Aside0.mk hc2
 have HL4:=Aside0.mk hc4
 have HW0:=Aside0.mk (word_any r.f0 _ (LaidAt.of hLd hb0))
 clear hb0 hLd hr hC2 hC4 hc2 hc4
 cases hw:wordS r.f0 with
 |  false =>
  have HZ:=Aside0.mk (show (⟨#[]⟩,false)=Z by rw [← hZ];unfold ruleS;rw [if_neg (by rw [hw];simp)])
  rw [hw] at HW0
  have HZ1:=HZ.out
  subst HZ1
  clear hw hZ HZ
  go_enter Tryz.func35,Tryz.ntmps35
  go_wp2_with fail
  go_at_call 32
  refine (HW0.out).mono ?_
  rintro e w1 ⟨rfl,hb1⟩
  have HB1:=Aside0.mk (HB0.out.trans (hb1.mono HB0.out.size))
  have HK1:=Aside0.mk (blk_below HK0.out hb1)
  clear hb1
  go_wp2_with fail
  all_goals go_ret2
  exact ⟨rfl,HB1.out⟩
 |  true =>
  rw [hw] at HW0
  have HWT:=Aside0.mk hw
  clear hw
  by_cases hl:r.f2.length=0
  ·have HZ:=Aside0.mk (show (⟨#[]⟩,false)=Z by rw [← hZ];unfold ruleS;rw [if_neg (fun h => h.2.1 hl)])
   have HZ1:=HZ.out
   subst HZ1
   have hl0:((r.f2.length:Int)==0)=true:=by rw [hl];rfl
   have hl1:(r.f2=[])=True:=eq_true (List.length_eq_zero_iff.1 hl)
   have HL0:=Aside0.mk hl0
   have HL1:=Aside0.mk hl1
   clear hl hZ HZ hl0 hl1
   go_enter Tryz.func35,Tryz.ntmps35
   go_wp2_with fail
   go_at_call 32
   refine (HW0.out).mono ?_
   rintro e w1 ⟨rfl,hb1⟩
   have HB1:=Aside0.mk (HB0.out.trans (hb1.mono HB0.out.size))
   have HK1:=Aside0.mk (blk_below HK0.out hb1)
   clear hb1
   have y2:w1.cell? ⟨w.heap.size,2,none⟩=some (.slice A2 r.f2.length c2):=blk_cell HK1.out 2
   have hl0:=HL0.out
   have hl1:=HL1.out
   go_wp2_with fail
   all_goals go_ret2
   exact ⟨rfl,HB1.out⟩
  ·have hl0:((r.f2.length:Int)==0)=false:=by rw [beq_eq_false_iff_ne];omega
   have hl1:(r.f2=[])=False:=eq_false (fun h => hl (by rw [h];rfl))
   have HL0:=Aside0.mk hl0
   have HL1:=Aside0.mk hl1
   clear hl0 hl1
   cases hany:(r.f2.any fun s => !wordS s) with
   |  true =>
    have HZ:=Aside0.mk (show (⟨#[]⟩,false)=Z by rw [← hZ];unfold ruleS;rw [if_neg (fun h => by rw [hany] at h;exact absurd h.2.2 (by decide))])
    have HZ1:=HZ.out
    subst HZ1
    have HANY:=Aside0.mk hany
    clear hl hZ HZ hany
    go_enter Tryz.func35,Tryz.ntmps35
    go_wp2_with fail
    go_at_call 32
    refine (HW0.out).mono ?_
    rintro e w1 ⟨rfl,hb1⟩
    have HB1:=Aside0.mk (HB0.out.trans (hb1.mono HB0.out.size))
    have HK1:=Aside0.mk (blk_below HK0.out hb1)
    clear hb1
    have y2:w1.cell? ⟨w.heap.size,2,none⟩=some (.slice A2 r.f2.length c2):=blk_cell HK1.out 2
    have hl0:=HL0.out
    have hl1:=HL1.out
    have HCF:=Aside0.mk (containsf_any r.f2 A2 c2 w1 (Kd.C_below HC2.out HB1.out) (LaidAt.of HLD.out HB1.out))
    rw [HANY.out] at HCF
    go_wp2_with fail
    go_at_call 62
    refine (HCF.out).mono ?_
    rintro e w2 ⟨rfl,hb2⟩
    have HB2:=Aside0.mk (HB1.out.trans (hb2.mono HB1.out.size))
    have HK2:=Aside0.mk (blk_below HK1.out hb2)
    clear hb2 hl0 hl1 y2
    go_wp2_with fail
    all_goals go_ret2
    exact ⟨rfl,HB2.out⟩
   |  false =>
    have HANY:=Aside0.mk hany
    have HZA:=Aside0.mk (show (if noneS r.f3=true then (outS r,true) else if rightS r.f3=true∧depthC r.f3≤8 then (joinT ⟨#[32,105,102,32]⟩ [outS r,writeC r.f3],true) else (⟨#[]⟩,false))=Z from (show ruleS r=_ from if_pos ⟨HWT.out,hl,hany⟩).symm.trans hZ)
    have HNS:=Aside0.mk (names_size hany HR.out.2.2.2)
    have HOS:=Aside0.mk (outS_size HWT.out hany HR.out)
    have HACT:=Aside0.mk (fun (w1:World) (h:LaidAt w1) => action_any r.f0 r.f1 HR.out.2.1 HR.out.2.2.1 (by have:=wordS_size HWT.out;omega) w1 h)
    have HJN:=Aside0.mk (fun (w1:World) (hb:Below w.heap.size w w1) => show_join.calls ⟨#[32]⟩ A2 c2 r.f2 (joinT ⟨#[32]⟩ r.f2) w1 (Kd.C_below HC2.out hb) HL2.out (LaidAt.of HLD.out hb) (join_f _ _ (by have:=HR.out.2.2.2;omega) (by have:=HNS.out;omega)))
    have HOJ:=Aside0.mk (show (joinT ⟨#[32]⟩ [actS r.f0 r.f1,joinT ⟨#[32]⟩ r.f2]).size≤140737488355328 by have:=HOS.out;unfold outS at this;omega)
    clear hl hZ hany
    go_enter Tryz.func35,Tryz.ntmps35
    go_wp2_with fail
    go_at_call 32
    refine (HW0.out).mono ?_
    rintro e w1 ⟨rfl,hb1⟩
    have HB1:=Aside0.mk (HB0.out.trans (hb1.mono HB0.out.size))
    have HK1:=Aside0.mk (blk_below HK0.out hb1)
    clear hb1
    have y2:w1.cell? ⟨w.heap.size,2,none⟩=some (.slice A2 r.f2.length c2):=blk_cell HK1.out 2
    have hl0:=HL0.out
    have hl1:=HL1.out
    have HCF:=Aside0.mk (containsf_any r.f2 A2 c2 w1 (Kd.C_below HC2.out HB1.out) (LaidAt.of HLD.out HB1.out))
    rw [HANY.out] at HCF
    go_wp2_with fail
    go_at_call 62
    refine (HCF.out).mono ?_
    rintro e w2 ⟨rfl,hb2⟩
    have HB2:=Aside0.mk (HB1.out.trans (hb2.mono HB1.out.size))
    have HK2:=Aside0.mk (blk_below HK1.out hb2)
    clear hb2 hl0 hl1 y2
    go_upto_region 3 with (fail)
    have hdr:Below w2.heap.size w2 w2.drew:=(Below.refl _ _).drew
    have HBd:=Aside0.mk (HB2.out.trans (hdr.mono HB2.out.size))
    have HKd:=Aside0.mk (blk_below HK2.out hdr)
    clear hdr
    have g0:w2.drew.cell? ⟨w.heap.size,0,none⟩=some (.string r.f0):=blk_cell HKd.out 0
    have g1:w2.drew.cell? ⟨w.heap.size,1,none⟩=some (.int .u64 r.f1):=blk_cell HKd.out 1
    have g2:w2.drew.cell? ⟨w.heap.size,2,none⟩=some (.slice A2 r.f2.length c2):=blk_cell HKd.out 2
    refine start_ (n:=11) (S:=fun w' => w'.cell? ⟨w.heap.size,0,none⟩=some (.string r.f0)∧w'.cell? ⟨w.heap.size,1,none⟩=some (.int .u64 r.f1)∧w'.cell? ⟨w.heap.size,2,none⟩=some (.slice A2 r.f2.length c2)) (ds:=[9]) #[false,false,false,false,false,false,false,false,false,false,false] (by kernel_rfl) rfl rfl ⟨g0,g1,g2⟩ (fun hHeld => ?_)
    refine pure_ (i:=0) (N:=some 22) (v:=?_) (a':=?_) #[true,false,false,false,false,false,false,false,false,false,false] rfl rfl (by kernel_rfl) (fun _ _ _ h => h) (Or.inl ⟨by rfl,?_⟩) ?_ ?_
    rotate_left
    ·intro w'
     go_simp
     with_reducible rfl
    rotate_left
    ·simp only [Act.put,List.setIfInBounds_toArray,List.set_cons_zero,List.set_cons_succ,i64_w,i32_w]
     rfl
    refine pure_ (i:=2) (N:=some 24) (v:=?_) (a':=?_) #[true,false,true,false,false,false,false,false,false,false,false] rfl rfl (by kernel_rfl) (fun _ _ _ h => h) (Or.inl ⟨by rfl,?_⟩) ?_ ?_
    rotate_left
    ·intro w'
     go_simp
     with_reducible rfl
    rotate_left
    ·simp only [Act.put,List.setIfInBounds_toArray,List.set_cons_zero,List.set_cons_succ,i64_w,i32_w]
     rfl
    refine pure_ (i:=5) (N:=some 27) (v:=?_) (a':=?_) #[true,false,true,false,false,true,false,false,false,false,false] rfl rfl (by kernel_rfl) (fun _ _ _ h => h) (Or.inl ⟨by rfl,?_⟩) ?_ ?_
    rotate_left
    ·intro w'
     go_simp
     with_reducible rfl
    rotate_left
    ·simp only [Act.put,List.setIfInBounds_toArray,List.set_cons_zero,List.set_cons_succ,i64_w,i32_w]
     rfl
    refine take_ (i:=1) (N:=some 23) (v:=?_) (a':=?_) #[true,true,true,false,false,true,false,false,false,false,false] rfl rfl (by kernel_rfl) (fun _ _ _ h => h) (Or.inl ⟨by rfl,?_⟩) hHeld ?_ ?_
    rotate_left
    ·rintro w' ⟨s0,s1,s2⟩
     go_simp
     with_reducible rfl
    rotate_left
    ·simp only [Act.put,List.setIfInBounds_toArray,List.set_cons_zero,List.set_cons_succ,i64_w,i32_w]
     rfl
    refine take_ (i:=3) (N:=some 25) (v:=?_) (a':=?_) #[true,true,true,true,false,true,false,false,false,false,false] rfl rfl (by kernel_rfl) (fun _ _ _ h => h) (Or.inl ⟨by rfl,?_⟩) hHeld ?_ ?_
    rotate_left
    ·rintro w' ⟨s0,s1,s2⟩
     go_simp
     with_reducible rfl
    rotate_left
    ·simp only [Act.put,List.setIfInBounds_toArray,List.set_cons_zero,List.set_cons_succ,i64_w,i32_w]
     rfl
    refine take_ (i:=6) (N:=some 28) (v:=?_) (a':=?_) #[true,true,true,true,false,true,true,false,false,false,false] rfl rfl (by kernel_rfl) (fun _ _ _ h => h) (Or.inl ⟨by rfl,?_⟩) hHeld ?_ ?_
    rotate_left
    ·rintro w' ⟨s0,s1,s2⟩
     go_simp
     with_reducible rfl
    rotate_left
    ·simp only [Act.put,List.setIfInBounds_toArray,List.set_cons_zero,List.set_cons_succ,i64_w,i32_w]
     rfl
    refine one_ (i:=4) (N:=some 26) #[true,true,true,true,true,true,true,false,false,false,false] rfl rfl (by kernel_rfl) (by decide) (fun K hK => ?_)
    refine goes_ Tryz.func34 (by kernel_rfl) rfl #[.string r.f0,.int .u64 r.f1] (by rfl) rfl rfl (by simp only [List.map_toArray,List.map_cons,List.map_nil];rfl) ?_
    with_reducible refine (HACT.out _ (LaidAt.of HLD.out HBd.out)).mono ?_
    rintro e w4 ⟨rfl,hb4⟩
    refine ⟨_,rfl,?_⟩
    have HK4:=Aside0.mk (blk_below HKd.out hb4)
    have HB4:=Aside0.mk (HBd.out.trans (hb4.mono HBd.out.size))
    clear hb4
    refine hK.out _ _ ⟨((blk_cell HK4.out 0).trans rfl),((blk_cell HK4.out 1).trans rfl),((blk_cell HK4.out 2).trans rfl)⟩ (fun hHeld => ?_)
    clear hK K
    refine norm_ (a':=?_) ?_ ?_
    rotate_left
    ·show Act.put _ (some 26) _=_
     simp only [Act.put,List.setIfInBounds_toArray,List.set_cons_zero,List.set_cons_succ,i64_w,i32_w]
     rfl
    refine one_ (i:=7) (N:=some 29) #[true,true,true,true,true,true,true,true,false,false,false] rfl rfl (by kernel_rfl) (by decide) (fun K hK => ?_)
    refine goes_ Tryz.func33 (by kernel_rfl) rfl #[.string ⟨#[32]⟩,.slice A2 r.f2.length c2] (by rfl) rfl rfl (by simp only [List.map_toArray,List.map_cons,List.map_nil];rfl) ?_
    with_reducible refine (HJN.out _ HB4.out).mono ?_
    rintro e w5 ⟨rfl,hb5⟩
    refine ⟨_,rfl,?_⟩
    have HK5:=Aside0.mk (blk_below HK4.out hb5)
    have HB5:=Aside0.mk (HB4.out.trans (hb5.mono HB4.out.size))
    clear hb5
    refine hK.out _ _ ⟨((blk_cell HK5.out 0).trans rfl),((blk_cell HK5.out 1).trans rfl),((blk_cell HK5.out 2).trans rfl)⟩ (fun hHeld => ?_)
    clear hK K
    refine norm_ (a':=?_) ?_ ?_
    rotate_left
    ·show Act.put _ (some 29) _=_
     simp only [Act.put,List.setIfInBounds_toArray,List.set_cons_zero,List.set_cons_succ,i64_w,i32_w]
     rfl
    refine one_ (i:=8) (N:=some 30) #[true,true,true,true,true,true,true,true,true,false,false] rfl rfl (by kernel_rfl) (by decide) (fun K hK => ?_)
    refine value_ (w1:=?_) (v:=?_) (by rfl) rfl ?_ ?_
    rotate_left 2
    ·go_simp
     constructor
     ·rfl
     ·rfl
    refine hK.out _ _ ⟨((blk_cell (blk_alloc HK5.out _) 0).trans rfl),((blk_cell (blk_alloc HK5.out _) 1).trans rfl),((blk_cell (blk_alloc HK5.out _) 2).trans rfl)⟩ (fun hHeld => ?_)
    clear hK K
    refine norm_ (a':=?_) ?_ ?_
    rotate_left
    ·show Act.put _ (some 30) _=_
     simp only [Act.put,List.setIfInBounds_toArray,List.set_cons_zero,List.set_cons_succ,i64_w,i32_w]
     rfl
    refine last_ (i:=9) (N:=some 31) #[true,true,true,true,true,true,true,true,true,true,false] rfl rfl (by kernel_rfl) (by decide) (fun K hK => ?_)
    refine goes_ Tryz.func33 (by kernel_rfl) rfl #[.string ⟨#[32]⟩,.slice (some ⟨w5.heap.size,0,none⟩) 2 2] (by rfl) rfl rfl (by simp only [List.map_toArray,List.map_cons,List.map_nil];rfl) ?_
    with_reducible refine (join2 ⟨#[32]⟩ (actS r.f0 r.f1) (joinT ⟨#[32]⟩ r.f2) w5 HOJ.out).mono ?_
    rintro e w6 ⟨rfl,hb6⟩
    refine ⟨_,rfl,?_⟩
    have HK6:=Aside0.mk (blk_below HK5.out hb6)
    have HB6:=Aside0.mk (HB5.out.trans (hb6.mono HB5.out.size))
    clear hb6
    refine hK.out _ _ ?_
    clear hK K
    refine norm_ (a':=?_) ?_ ?_
    rotate_left
    ·show Act.put _ (some 31) _=_
     simp only [Act.put,List.setIfInBounds_toArray,List.set_cons_zero,List.set_cons_succ,i64_w,i32_w]
     rfl
    refine pure_ (i:=10) (N:=some 4) (v:=?_) (a':=?_) #[true,true,true,true,true,true,true,true,true,true,true] rfl rfl (by kernel_rfl) (fun _ _ _ h => h) (Or.inl ⟨by rfl,?_⟩) ?_ ?_
    rotate_left
    ·intro w'
     go_simp
     with_reducible rfl
    rotate_left
    ·simp only [Act.put,List.setIfInBounds_toArray,List.set_cons_zero,List.set_cons_succ,i64_w,i32_w]
     rfl
    refine done_ (by kernel_rfl) ?_
    have y3:w6.cell? ⟨w.heap.size,3,none⟩=some (.int .i64 r.f3.f0):=blk_cell HK6.out 3
    have y4:w6.cell? ⟨w.heap.size,4,none⟩=some (.slice A4 r.f3.f1.length c4):=blk_cell HK6.out 4
    have y5:w6.cell? ⟨w.heap.size,5,none⟩=some (.int .i64 r.f3.f2):=blk_cell HK6.out 5
    have y6:w6.cell? ⟨w.heap.size,6,none⟩=some (.int .u64 r.f3.f3):=blk_cell HK6.out 6
    have y7:w6.cell? ⟨w.heap.size,7,none⟩=some (.string r.f3.f4):=blk_cell HK6.out 7
    have y8:w6.cell? ⟨w.heap.size,8,none⟩=some (.int .u64 r.f3.f5):=blk_cell HK6.out 8
    have HNN:=Aside0.mk (none_any r.f3 A4 c4 w6 (Kd.C_below HC4.out HB6.out) HL4.out (LaidAt.of HLD.out HB6.out))
    cases hnn:noneS r.f3 with
    |  true =>
     rw [hnn] at HNN HZA
     have HZ1:=HZA.out
     rw [if_pos rfl] at HZ1
     subst HZ1
     clear hnn HZA
     go_wp2_with fail
     go_at_call 64
     refine (HNN.out).mono ?_
     rintro e w7 ⟨rfl,hb7⟩
     have HB7:=Aside0.mk (HB6.out.trans (hb7.mono HB6.out.size))
     have HK7:=Aside0.mk (blk_below HK6.out hb7)
     clear hb7 y3 y4 y5 y6 y7 y8
     go_wp2_with fail
     all_goals go_ret2
     exact ⟨rfl,HB7.out⟩
    |  false =>
     rw [hnn] at HNN HZA
     rw [if_neg (by decide)] at HZA
     clear hnn
     go_wp2_with fail
     go_at_call 64
     refine (HNN.out).mono ?_
     rintro e w7 ⟨rfl,hb7⟩
     have HB7:=Aside0.mk (HB6.out.trans (hb7.mono HB6.out.size))
     have HK7:=Aside0.mk (blk_below HK6.out hb7)
     clear hb7 y3 y4 y5 y6 y7 y8
     have y3:w7.cell? ⟨w.heap.size,3,none⟩=some (.int .i64 r.f3.f0):=blk_cell HK7.out 3
     have y4:w7.cell? ⟨w.heap.size,4,none⟩=some (.slice A4 r.f3.f1.length c4):=blk_cell HK7.out 4
     have y5:w7.cell? ⟨w.heap.size,5,none⟩=some (.int .i64 r.f3.f2):=blk_cell HK7.out 5
     have y6:w7.cell? ⟨w.heap.size,6,none⟩=some (.int .u64 r.f3.f3):=blk_cell HK7.out 6
     have y7:w7.cell? ⟨w.heap.size,7,none⟩=some (.string r.f3.f4):=blk_cell HK7.out 7
     have y8:w7.cell? ⟨w.heap.size,8,none⟩=some (.int .u64 r.f3.f5):=blk_cell HK7.out 8
     have HCD:=Aside0.mk (cond_any r.f3 HR.out.1 A4 c4 w7 (Kd.C_below HC4.out HB7.out) HL4.out (LaidAt.of HLD.out HB7.out))
     unfold condS at HCD
     by_cases hrt:rightS r.f3=true
     ·rw [if_pos hrt] at HCD
      simp only at HCD
      have HRT:=Aside0.mk hrt
      have HFN:=Aside0.mk (show nodesC r.f3≤100∧fitsC r.f3=true by unfold rightS at hrt;rw [Bool.and_eq_true,decide_eq_true_eq] at hrt;exact hrt)
      have HWS:=Aside0.mk (writeC_size r.f3 HFN.out.2 HR.out.1)
      clear hrt
      go_wp2_with fail
      go_at_call 12
      refine (HCD.out).mono ?_
      rintro e w8 ⟨rfl,hb8⟩
      have HB8:=Aside0.mk (HB7.out.trans (hb8.mono HB7.out.size))
      have HK8:=Aside0.mk (blk_below HK7.out hb8)
      clear hb8 y3 y4 y5 y6 y7 y8
      have y3:w8.cell? ⟨w.heap.size,3,none⟩=some (.int .i64 r.f3.f0):=blk_cell HK8.out 3
      have y4:w8.cell? ⟨w.heap.size,4,none⟩=some (.slice A4 r.f3.f1.length c4):=blk_cell HK8.out 4
      have y5:w8.cell? ⟨w.heap.size,5,none⟩=some (.int .i64 r.f3.f2):=blk_cell HK8.out 5
      have y6:w8.cell? ⟨w.heap.size,6,none⟩=some (.int .u64 r.f3.f3):=blk_cell HK8.out 6
      have y7:w8.cell? ⟨w.heap.size,7,none⟩=some (.string r.f3.f4):=blk_cell HK8.out 7
      have y8:w8.cell? ⟨w.heap.size,8,none⟩=some (.int .u64 r.f3.f5):=blk_cell HK8.out 8
      have HDP:=Aside0.mk (depth_any r.f3 (by have:=HFN.out.1;omega) A4 c4 w8 (Kd.C_below HC4.out HB8.out) HL4.out (LaidAt.of HLD.out HB8.out))
      go_wp2_with fail
      go_at_call 65
      refine (HDP.out).mono ?_
      rintro e w9 ⟨rfl,hb9⟩
      have HB9:=Aside0.mk (HB8.out.trans (hb9.mono HB8.out.size))
      have HK9:=Aside0.mk (blk_below HK8.out hb9)
      clear hb9 y3 y4 y5 y6 y7 y8
      by_cases hdp:depthC r.f3≤8
      ·have hd1:decide ((depthC r.f3:Int)>8)=false:=decide_eq_false (by omega)
       have hd2:(8<depthC r.f3)=False:=eq_false (by omega)
       have hd3:decide (8<(depthC r.f3:Int))=false:=decide_eq_false (by omega)
       have HZ1:=HZA.out
       rw [if_pos ⟨HRT.out,hdp⟩] at HZ1
       subst HZ1
       clear HZA hdp
       have HJ9:=Aside0.mk (show (joinT ⟨#[32,105,102,32]⟩ [outS r,writeC r.f3]).size≤140737488355328 by
        have h1:=HOS.out
        have h2:=HWS.out
        have h3:=HFN.out.1
        have e3:(⟨#[32,105,102,32]⟩:ByteArray).size=4:=rfl
        rw [joinT_size,sumZ_cons,sumZ_cons,sumZ_nil,e3]
        simp only [List.length_cons,List.length_nil]
        omega)
       go_wp2_with fail
       go_at_call 33
       refine (join2 ⟨#[32,105,102,32]⟩ (outS r) (writeC r.f3) w9 HJ9.out).mono ?_
       rintro e w10 ⟨rfl,hb10⟩
       have HB10:=Aside0.mk (HB9.out.trans (hb10.mono HB9.out.size))
       clear hb10
       go_wp2_with fail
       all_goals go_ret2
       exact ⟨rfl,HB10.out⟩
      ·have hd1:decide ((depthC r.f3:Int)>8)=true:=decide_eq_true (by omega)
       have hd2:(8<depthC r.f3)=True:=eq_true (by omega)
       have hd3:decide (8<(depthC r.f3:Int))=true:=decide_eq_true (by omega)
       have HZ1:=HZA.out
       rw [if_neg (fun h => hdp h.2)] at HZ1
       subst HZ1
       clear HZA hdp
       go_wp2_with fail
       all_goals go_ret2
       exact ⟨rfl,HB9.out⟩
     ·rw [if_neg hrt] at HCD
      simp only at HCD
      have HZ1:=HZA.out
      rw [if_neg (fun h => hrt h.1)] at HZ1
      subst HZ1
      clear HZA hrt
      go_wp2_with fail
      go_at_call 12
      refine (HCD.out).mono ?_
      rintro e w8 ⟨rfl,hb8⟩
      have HB8:=Aside0.mk (HB7.out.trans (hb8.mono HB7.out.size))
      have HK8:=Aside0.mk (blk_below HK7.out hb8)
      clear hb8 y3 y4 y5 y6 y7 y8
      go_wp2_with fail
      all_goals go_ret2
      exact ⟨rfl,HB8.out⟩

instance (r:RN):Decidable (okR r):=by unfold okR;infer_instance
def show_rule.f (a0_0:ByteArray) (a0_1:Int) (l0_2:List ByteArray) (a0_3:Int) (l0_4:List CN) (a0_5:Int) (a0_6:Int) (a0_7:ByteArray) (a0_8:Int):Option (ByteArray × Bool):=if okR ⟨a0_0,a0_1,l0_2,⟨a0_3,l0_4,a0_5,a0_6,a0_7,a0_8⟩⟩ then some (ruleS ⟨a0_0,a0_1,l0_2,⟨a0_3,l0_4,a0_5,a0_6,a0_7,a0_8⟩⟩) else none
theorem show_rule.calls (a0_0:ByteArray) (a0_1:Int) (A0_2:Option Addr) (c0_2:Nat) (l0_2:List ByteArray) (a0_3:Int) (A0_4:Option Addr) (c0_4:Nat) (l0_4:List (S28)) (a0_5:Int) (a0_6:Int) (a0_7:ByteArray) (a0_8:Int) (r1:ByteArray) (r2:Bool) (w:World) (hr0_2:Kd.C Kd.string w A0_2 l0_2.length l0_2) (hc0_2:l0_2.length≤c0_2) (hr0_4:Kd.C k28 w A0_4 l0_4.length l0_4) (hc0_4:l0_4.length≤c0_4) (hLd:LaidAt w) (h:show_rule.f a0_0 a0_1 l0_2 a0_3 l0_4 a0_5 a0_6 a0_7 a0_8=some (r1,r2)) :
  Calls Tryz.prog 35 #[.agg #[.string a0_0,.int .u64 a0_1,.slice A0_2 l0_2.length c0_2,.int .i64 a0_3,.slice A0_4 l0_4.length c0_4,.int .i64 a0_5,.int .u64 a0_6,.string a0_7,.int .u64 a0_8]] w fun e w' => e=.returned (.tuple #[.string r1,.bool r2])∧Below w.heap.size w w':=by
 unfold show_rule.f at h
 split at h
 ·rename_i hs
  have e:=Option.some.inj h
  have h_:=rule_any ⟨a0_0,a0_1,l0_2,⟨a0_3,l0_4,a0_5,a0_6,a0_7,a0_8⟩⟩ hs A0_2 c0_2 A0_4 c0_4 w hr0_2 hc0_2 hr0_4 hc0_4 hLd
  rw [e] at h_
  exact h_
 ·cases h

end Go.Proofs.YtdfjjimmnbijmaaGreatDoor.ZQ

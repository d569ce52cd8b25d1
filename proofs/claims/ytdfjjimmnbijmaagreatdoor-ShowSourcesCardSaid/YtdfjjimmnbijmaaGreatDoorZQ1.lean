-- Written for this claim by myprint.py over the kit's print (functions of this session supplied)
import Derived.Test.YtdfjjimmnbijmaaGreatDoorZQ0
namespace Go.Proofs.YtdfjjimmnbijmaaGreatDoor.ZQ
open Go.RowKit Go.Proofs.YtdfjjimmnbijmaaGreatDoorW.PrintWords Go.Proofs.YtdfjjimmnbijmaaGreatDoorW.PrintLast Go.Proofs.YtdfjjimmnbijmaaGreatDoorW.PrintMore Go.Proofs.YtdfjjimmnbijmaaGreatDoor.Base
attribute [local go_sem] max2_int min2_int max_two min_two max_three min_three max_four min_four   -- for this text's walks alone
set_option linter.unusedVariables false
set_option linter.unusedSimpArgs false

/-! ### doorwardref15_Many: function 7 -/
/-! ### conditions in plain words: how many, which may be, what is written -/
abbrev CN:=S28
mutual
def nodesC:S28→Nat
 |  ⟨_,l,_,_,_,_⟩ => 1+nodesL l
def nodesL:List S28→Nat
 |  [] => 0
 |  c :: r => nodesC c+nodesL r
end
theorem nodesC_eq (c:CN):nodesC c=1+nodesL c.f1:=by cases c;rw [nodesC]
theorem nodesL_app:∀ a b:List CN,nodesL (a++b)=nodesL a+nodesL b
 |  [],b => by simp [nodesL]
 |  c :: r,b => by rw [List.cons_append,nodesL,nodesL,nodesL_app r b];omega
theorem nodesL_mem:∀ {l:List CN} {c:CN},c ∈ l→nodesC c≤nodesL l
 |  x :: r,c,h => by
  rw [nodesL]
  rcases List.mem_cons.1 h with e|e
  ·subst e;omega
  ·have:=nodesL_mem e;omega
theorem nodesC_pos (c:CN):1≤nodesC c:=by rw [nodesC_eq];omega
theorem nodesL_len:∀ l:List CN,l.length≤nodesL l
 |  [] => by simp
 |  c :: r => by rw [nodesL,List.length_cons];have:=nodesL_len r;have:=nodesC_pos c;omega
theorem nodes_kid {c k:CN} (h:k ∈ c.f1):nodesC k<nodesC c:=by rw [nodesC_eq c];have:=nodesL_mem h;omega
/-- Whatever holds of each condition whose kids it holds of. -/
theorem cond_ind {p:CN→Prop} (h:∀ c,(∀ k ∈ c.f1,p k)→p c) (c:CN):p c:=by
 have aux:∀ n c,nodesC c≤n→p c:=by
  intro n
  induction n with
  |  zero => intro c hc;have:=nodesC_pos c;omega
  |  succ n ih => exact fun c hc => h c fun k hk => ih k (by have:=nodes_kid hk;omega)
 exact aux _ c (Nat.le_refl _)
/-! #### which may be -/
def sgnL:List (List UInt8):=[[61,61],[33,61],[60],[60,61],[62],[62,61]]
def sgnB (s:ByteArray):Bool:=sgnL.contains s.toList
def bareS (c:CN):Bool:=decide (c.f2=0) && (decide (c.f3=0) && (c.f4.toList.isEmpty && decide (c.f5=0)))
def oneS (c:CN):Bool :=
 if c.f0=4 then decide (0≤c.f2) && (decide (c.f2<6) && (sgnB c.f4 && decide (c.f1.length=0)))
 else if c.f0=1 then bareS c && decide (2≤c.f1.length)
 else if c.f0=2 then bareS c && decide (2≤c.f1.length)
 else if c.f0=3 then bareS c && decide (c.f1.length=1)
 else false
mutual
def fitsC:S28→Bool
 |  ⟨a,l,b,d,e,f⟩ => oneS ⟨a,l,b,d,e,f⟩ && fitsL l
def fitsL:List S28→Bool
 |  [] => true
 |  c :: r => fitsC c && fitsL r
end
theorem fitsC_eq (c:CN):fitsC c=(oneS c && fitsL c.f1):=by cases c;rw [fitsC]
theorem fitsL_app:∀ a b:List CN,fitsL (a++b)=(fitsL a && fitsL b)
 |  [],b => by simp [fitsL]
 |  c :: r,b => by rw [List.cons_append,fitsL,fitsL,fitsL_app r b,Bool.and_assoc]
theorem fitsL_all:∀ {l:List CN},fitsL l=true→∀ c ∈ l,fitsC c=true
 |  x :: r,h,c,hc => by
  rw [fitsL,Bool.and_eq_true] at h
  rcases List.mem_cons.1 hc with e|e
  ·subst e;exact h.1
  ·exact fitsL_all h.2 c e
def rightS (c:CN):Bool:=decide (nodesC c≤100) && fitsC c
/-! #### the counting, one condition behind the other -/
def cntR:Nat→List CN→Nat→Int→Option Int
 |  0,_,_,_ => none
 |  _+1,[],_,t => some t
 |  k+1,c :: r,n,t => if 100 - n<c.f1.length then none else if oneS c=true then cntR k (r++c.f1) (n+c.f1.length) (if c.f0=4 then t+1 else t) else none
theorem cnt_right:∀ (k:Nat) (p:List CN) (n:Nat) (t:Int),p.length≤n→n≤100→100<k+(n - p.length)→(cntR k p n t).isSome=(decide (nodesL p+(n - p.length)≤100) && fitsL p)
 |  0,p,n,t,h0,h1,h2 => by omega
 |  k+1,[],n,t,h0,h1,h2 => by simp [cntR,nodesL,fitsL,h1]
 |  k+1,c :: r,n,t,h0,h1,h2 => by
  rw [List.length_cons] at h0 h2
  rw [cntR]
  have e1:nodesL (c :: r)=1+nodesL c.f1+nodesL r:=by rw [nodesL,nodesC_eq]
  have e2:fitsL (c :: r)=((oneS c && fitsL c.f1) && fitsL r):=by rw [fitsL,fitsC_eq]
  have e3:=nodesL_len c.f1
  have e4:=nodesL_len r
  by_cases hl:100 - n<c.f1.length
  ·rw [if_pos hl,decide_eq_false (by rw [e1,List.length_cons];omega)];rfl
  ·rw [if_neg hl]
   by_cases ho:oneS c=true
   ·rw [if_pos ho,cnt_right k (r++c.f1) (n+c.f1.length) _ (by rw [List.length_append];omega) (by omega) (by rw [List.length_append];omega),e2,ho,nodesL_app,fitsL_app,e1]
    have e5:n+c.f1.length - (r++c.f1).length+(nodesL r+nodesL c.f1)=1+nodesL c.f1+nodesL r+(n - (c :: r).length):=by rw [List.length_append,List.length_cons];omega
    rw [Bool.true_and,Bool.and_comm (fitsL c.f1) (fitsL r)]
    congr 1
    exact decide_eq_decide.2 (by omega)
   ·rw [if_neg ho,e2,Bool.eq_false_iff.2 ho];simp
theorem cntR_none:∀ (k:Nat) (p:List CN) (n:Nat) (t:Int),cntR (k+1) p n t=match p with|[] => some t|c :: r => if 100 - n<c.f1.length then none else if oneS c=true then cntR k (r++c.f1) (n+c.f1.length) (if c.f0=4 then t+1 else t) else none
 |  k,[],n,t => rfl
 |  k,c :: r,n,t => rfl
theorem cnt_top (c:CN) (t:Int):(cntR 101 [c] 1 t).isSome=rightS c:=by
 rw [cnt_right 101 [c] 1 t (by simp) (by omega) (by simp)]
 simp [rightS,nodesL,fitsL]
/-! #### the reference's counting -/
def manyR:Nat→List CN→Nat→Nat→Nat
 |  0,_,n,_ => n
 |  _+1,[],n,_ => n
 |  k+1,c :: r,n,m => if n≤m then manyR k (r++c.f1.take (m+1 - n)) (n+(c.f1.take (m+1 - n)).length) m else n
theorem many_is:∀ (k:Nat) (p:List CN) (n m:Nat),p.length≤n→n≤m+1→m<k+(n - p.length)→manyR k p n m=min (nodesL p+(n - p.length)) (m+1)
 |  0,p,n,m,h0,h1,h2 => by rw [manyR];have:=nodesL_len p;omega
 |  k+1,[],n,m,h0,h1,h2 => by simp only [manyR,nodesL,List.length_nil];omega
 |  k+1,c :: r,n,m,h0,h1,h2 => by
  rw [List.length_cons] at h0 h2
  have e1:nodesL (c :: r)=1+nodesL c.f1+nodesL r:=by rw [nodesL,nodesC_eq]
  have e3:=nodesL_len c.f1
  have e4:=nodesL_len r
  have e5:(c.f1.take (m+1 - n)).length≤m+1 - n:=by rw [List.length_take];omega
  rw [manyR]
  by_cases hn:n≤m
  ·rw [if_pos hn,many_is k _ _ m (by rw [List.length_append];omega) (by omega) (by rw [List.length_append];omega),nodesL_app,e1,List.length_append,List.length_cons]
   by_cases hc:c.f1.length≤m+1 - n
   ·rw [List.take_of_length_le hc];omega
   ·have e6:(c.f1.take (m+1 - n)).length=m+1 - n:=by rw [List.length_take];omega
    have e7:=nodesL_len (c.f1.take (m+1 - n))
    omega
  ·rw [if_neg hn,e1,List.length_cons];omega
def manyS (c:CN) (m:Nat):Nat:=min (nodesC c) (m+1)
theorem many_top (c:CN) (m k:Nat) (h:m<k) (hm:1≤m):manyR k [c] 1 m=manyS c m:=by
 rw [many_is k [c] 1 m (by simp) (by omega) (by simp;omega)]
 simp [manyS,nodesL]
/-! #### how deep -/
mutual
def depthC:S28→Nat
 |  ⟨a,l,_,_,_,_⟩ => depthL a l
def depthL:Int→List S28→Nat
 |  _,[] => 0
 |  a,k :: r => max (depthC k+(if a=3 then 1 else 0)+(if (k.f0=1 ∨ k.f0=2)∧¬ (a=2∧k.f0=1) then 1 else 0)) (depthL a r)
end
theorem depthC_eq (c:CN):depthC c=depthL c.f0 c.f1:=by cases c;rw [depthC]
theorem depth_le:(∀ c:CN,depthC c≤2 * nodesC c):=by
 refine cond_ind fun c ih => ?_
 rw [depthC_eq,nodesC_eq]
 have:∀ (a:Int) (l:List CN),(∀ k ∈ l,depthC k≤2 * nodesC k)→depthL a l≤2 * nodesL l+2:=by
  intro a l
  induction l with
  |  nil => intro _;rw [depthL];omega
  |  cons k r ihr =>
   intro hl
   have h1:=hl k List.mem_cons_self
   have h2:=ihr fun x hx => hl x (List.mem_cons_of_mem _ hx)
   rw [depthL,nodesL]
   split<;>split<;>omega
 have:=this c.f0 c.f1 ih
 omega
/-! ### conditions in memory -/
theorem cell_spot {w:World} {b o:Nat} {sp:Option Nat} {v:Value} (h:w.cell? ⟨b,o,sp⟩=some v):sp=none:=by
 unfold World.cell? at h
 split at h
 ·split at h
  ·cases h
  ·rename_i hs;cases sp with|none => rfl|some _ => exact absurd rfl hs
 ·cases h
theorem CR_open {w0 w:World} {A:Option Addr} {xs:List CN} (h:ReadsRow (k28.K w0) 6 w A xs.length xs) (h0:0<xs.length) :
  ∃ b o,A=some ⟨b,o,none⟩∧b<w.heap.size∧∀ (j:Nat) (x:CN),xs[j]?=some x→∃ A1 c1,w.cell? ⟨b,o+j * 6,none⟩=some (.int .i64 x.f0)∧w.cell? ⟨b,o+j * 6+1,none⟩=some (.slice A1 x.f1.length c1)∧w.cell? ⟨b,o+j * 6+2,none⟩=some (.int .i64 x.f2)∧w.cell? ⟨b,o+j * 6+3,none⟩=some (.int .u64 x.f3)∧w.cell? ⟨b,o+j * 6+4,none⟩=some (.string x.f4)∧w.cell? ⟨b,o+j * 6+5,none⟩=some (.int .u64 x.f5)∧x.f1.length≤c1∧k28.C w0 A1 x.f1.length x.f1:=by
 obtain ⟨⟨b,o,sp⟩,rfl,hc⟩:=h.2.2 h0
 obtain ⟨cs0,_,r0,c0⟩:=hc 0 _ (List.getElem?_eq_getElem h0)
 obtain ⟨A0,cc0,rfl,_,_⟩:=k28_open r0
 have h00:=c0 0 _ rfl
 have hsp:sp=none:=by
  have e:(Addr.mk b o sp).add (0 * 6+0)=Addr.mk b o sp:=by simp [Addr.add]
  rw [e] at h00
  exact cell_spot h00
 subst hsp
 refine ⟨b,o,rfl,?_,fun j x hj => ?_⟩
 ·have:=World.block_lt_of_cell? w _ h00
  rw [add_block] at this
  exact this
 ·obtain ⟨cs,_,r,c⟩:=hc j x hj
  obtain ⟨A1,c1,rfl,l1,g1⟩:=k28_open r
  have key:∀ i u,([.int .i64 x.f0,.slice A1 x.f1.length c1,.int .i64 x.f2,.int .u64 x.f3,.string x.f4,.int .u64 x.f5]:List Value)[i]?=some u→w.cell? ⟨b,o+j * 6+i,none⟩=some u:=by
   intro i u hu
   have q:=c i u hu
   rw [add_at] at q
   rw [Nat.add_assoc]
   exact q
  exact ⟨A1,c1,key 0 _ rfl,key 1 _ rfl,key 2 _ rfl,key 3 _ rfl,key 4 _ rfl,key 5 _ rfl,l1,g1⟩
theorem CC_open {w:World} {A:Option Addr} {xs:List CN} (h:Kd.C k28 w A xs.length xs) (h0:0<xs.length) :
  ∃ b o,A=some ⟨b,o,none⟩∧b<w.heap.size∧∀ (j:Nat) (x:CN),xs[j]?=some x→∃ A1 c1,w.cell? ⟨b,o+j * 6,none⟩=some (.int .i64 x.f0)∧w.cell? ⟨b,o+j * 6+1,none⟩=some (.slice A1 x.f1.length c1)∧w.cell? ⟨b,o+j * 6+2,none⟩=some (.int .i64 x.f2)∧w.cell? ⟨b,o+j * 6+3,none⟩=some (.int .u64 x.f3)∧w.cell? ⟨b,o+j * 6+4,none⟩=some (.string x.f4)∧w.cell? ⟨b,o+j * 6+5,none⟩=some (.int .u64 x.f5)∧x.f1.length≤c1∧k28.C w A1 x.f1.length x.f1:=CR_open h h0
theorem infoCnd:(Tryz.prog.info? 28).map (fun i => (i.zero,i.size,i.bytes))=some (some (.agg #[.int .i64 0,.slice none 0 0,.int .i64 0,.int .u64 0,.string ⟨#[]⟩,.int .u64 0]),6,72):=by kernel_rfl
theorem kK_one {w:World} (q:CN) (cs:List Value) (h:k28.K w q cs):∀ u ∈ cs,u.oneCell'=true:=k28.K_one h
/-! ### the reference's count of conditions -/
theorem many_step {i m:Nat} {q:List CN} {x:CN} (hx:q[i]?=some x) (hq:q.length≤m):manyR (m+1 - i) (q.drop i) q.length m=manyR (m+1 - (i+1)) ((q++x.f1.take (m+1 - q.length)).drop (i+1)) (q++x.f1.take (m+1 - q.length)).length m:=by
 obtain ⟨hil,e⟩:=List.getElem?_eq_some_iff.1 hx
 have e1:m+1 - i=(m+1 - (i+1))+1:=by omega
 rw [e1,List.drop_eq_getElem_cons hil,e,manyR,if_pos hq,List.length_append,List.drop_append_of_le_length (by omega)]
theorem many_end {k n m:Nat} {p:List CN} (h:p=[] ∨ ¬ n≤m):manyR k p n m=n:=by
 cases k with
 |  zero => rfl
 |  succ k =>
  cases p with
  |  nil => rfl
  |  cons c r =>
   rcases h with h|h
   ·cases h
   ·rw [manyR,if_neg h]
theorem take_more {l:List CN} {j d:Nat} {y:CN} (hy:l[j]?=some y):(l.take (j+1)).take d=if j<d then (l.take j).take d++[y] else (l.take j).take d:=by
 have hj:=(List.getElem?_eq_some_iff.1 hy).1
 rw [List.take_take,List.take_take]
 by_cases h:j<d
 ·rw [if_pos h,show min d (j+1)=j+1 by omega,show min d j=j by omega,List.take_add_one,hy];rfl
 ·rw [if_neg h,show min d (j+1)=d by omega,show min d j=d by omega]
set_option maxHeartbeats 6400000 in
set_option maxRecDepth 100000 in
theorem many_any (c:CN) (m:Nat) (hm1:1≤m) (hm2:m≤1000000) (A:Option Addr) (cap:Nat) (w:World) (hC:Kd.C k28 w A c.f1.length c.f1) (hcap:c.f1.length≤cap) :
  Calls Tryz.prog 7 #[.agg #[.int .i64 c.f0,.slice A c.f1.length cap,.int .i64 c.f2,.int .u64 c.f3,.string c.f4,.int .u64 c.f5],.int .i64 m] w fun e w' => e=.returned (.int .i64 (manyS c m))∧Below w.heap.size w w':=by
 obtain ⟨R,hR⟩:∃ R,manyR (m+1) [c] 1 m=R:=⟨_,rfl⟩
 rw [← many_top c m (m+1) (by omega) hm1,hR]
 have HR:=Aside0.mk hR
 have HC:=Aside0.mk hC
 have HM1:=Aside0.mk hm1
 have HM2:=Aside0.mk hm2
 have hB:Below w.heap.size w ((w.alloc (.cells #[.int .i64 c.f0,.slice A c.f1.length cap,.int .i64 c.f2,.int .u64 c.f3,.string c.f4,.int .u64 c.f5] 28)).alloc (.cells #[.int .i64 c.f0,.slice A c.f1.length cap,.int .i64 c.f2,.int .u64 c.f3,.string c.f4,.int .u64 c.f5] 28)):=(((Below.refl _ _).alloc (Nat.le_refl _) _).alloc (by simp) _)
 have hrow:OwnRow (k28.K w) 28 6 ((w.alloc (.cells #[.int .i64 c.f0,.slice A c.f1.length cap,.int .i64 c.f2,.int .u64 c.f3,.string c.f4,.int .u64 c.f5] 28)).alloc (.cells #[.int .i64 c.f0,.slice A c.f1.length cap,.int .i64 c.f2,.int .u64 c.f3,.string c.f4,.int .u64 c.f5] 28)) (w.heap.size+1) (.slice (some ⟨w.heap.size+1,0,none⟩) 1 1) [c]:=by
  have hr:Reps (k28.K w) 6 [c] [.int .i64 c.f0,.slice A c.f1.length cap,.int .i64 c.f2,.int .u64 c.f3,.string c.f4,.int .u64 c.f5]:=by
   refine ⟨rfl,fun j p hj => ?_⟩
   cases j with
   |  zero =>
    simp only [List.getElem?_cons_zero,Option.some.injEq] at hj
    subst hj
    exact k28_mk w c hcap hC
   |  succ j => simp at hj
  have h_:=OwnRow.lit (e:=28) (w.alloc (.cells #[.int .i64 c.f0,.slice A c.f1.length cap,.int .i64 c.f2,.int .u64 c.f3,.string c.f4,.int .u64 c.f5] 28)) (w.heap.size+1) hr (by simp) (by simp)
  rw [World.size_alloc] at h_
  exact h_
 have HB:=Aside0.mk hB
 have HROW:=Aside0.mk hrow
 have HSZ:=Aside0.mk (show w.heap.size+1≤(((w.alloc (.cells #[.int .i64 c.f0,.slice A c.f1.length cap,.int .i64 c.f2,.int .u64 c.f3,.string c.f4,.int .u64 c.f5] 28)).alloc (.cells #[.int .i64 c.f0,.slice A c.f1.length cap,.int .i64 c.f2,.int .u64 c.f3,.string c.f4,.int .u64 c.f5] 28))).heap.size by simp)
 clear hR hC hcap hB hrow hm1 hm2
 go_enter Tryz.func7,Tryz.ntmps7
 go_upto_region 2 with (fail)
 obtain ⟨V,hV⟩:∃ V,V=((w.alloc (.cells #[.int .i64 c.f0,.slice A c.f1.length cap,.int .i64 c.f2,.int .u64 c.f3,.string c.f4,.int .u64 c.f5] 28)).alloc (.cells #[.int .i64 c.f0,.slice A c.f1.length cap,.int .i64 c.f2,.int .u64 c.f3,.string c.f4,.int .u64 c.f5] 28)):=⟨_,rfl⟩
 rw [← hV] at HB HROW HSZ ⊢
 clear hV
 go_wp2_with fail
 go_loopw [5,6] (fun v5 v6 wr =>∃(i:Nat) (q:List CN),v6=.int .i64 i∧Aside0 (i≤q.length)∧Aside0 (q.length≤m+1)∧Aside0 (OwnRow (k28.K w) 28 6 wr (w.heap.size+1) v5 q)∧Aside0 (Below w.heap.size w wr)∧Aside0 (w.heap.size+1≤wr.heap.size)∧Aside0 (manyR (m+1 - i) (q.drop i) q.length m=R)) (fun _ v6 _ => m+1 - (intOf v6).toNat)
 case atStart => exact ⟨0,[c],rfl,⟨Nat.zero_le _⟩,⟨by simp⟩,HROW,HB,HSZ,HR⟩
 case round =>
  obtain ⟨i,q,rfl,hi,hq,hO,hB,hS,hR⟩:=hrel
  obtain ⟨Aq,cq,ev,_,hRR⟩:=hO.out.reads
  subst ev
  have HQR:=Aside0.mk hRR
  clear hRR
  by_cases hil:i<q.length
  ·have hd:decide ((i:Int)<(q.length:Int))=true:=decide_eq_true (by omega)
   have hdn:(i<q.length)=True:=eq_true hil
   have hi0:(0≤(i:Int))=True:=eq_true (Int.natCast_nonneg i)
   have hi1:((i:Int)<(q.length:Int))=True:=eq_true (by omega)
   by_cases hqm:q.length≤m
   ·have hd2:decide ((q.length:Int)≤(m:Int))=true:=decide_eq_true (by omega)
    have hd2n:(q.length≤m)=True:=eq_true hqm
    obtain ⟨b,o,rfl,hbw,hxs⟩:=CR_open HQR.out (by omega)
    obtain ⟨x,hx⟩:∃ x,q[i]?=some x:=⟨_,List.getElem?_eq_getElem hil⟩
    obtain ⟨A1,c1,x0,x1,x2,x3,x4,x5,hc1,hC1⟩:=hxs i x hx
    have HST:=Aside0.mk ((many_step hx hqm).symm.trans hR.out)
    have HIL:=Aside0.mk hil
    have HQM:=Aside0.mk hqm
    have HC1:=Aside0.mk hC1
    have HXL:=Aside0.mk (show x.f1.length≤9223372036854775807 from hC1.2.1)
    clear hxs hx hil hqm hc1 hC1 hR HQR hbw x0 x2 x3 x4 x5
    go_wp2_with fail
    clear x1
    go_loopw [5,29] (fun v5 v29 wr =>∃(j:Nat),v29=.int .i64 j∧Aside0 (j≤x.f1.length)∧Aside0 (OwnRow (k28.K w) 28 6 wr (w.heap.size+1) v5 (q++(x.f1.take j).take (m+1 - q.length)))∧Aside0 (Below w.heap.size w wr)∧Aside0 (w.heap.size+1≤wr.heap.size)) (fun _ v29 _ => x.f1.length - (intOf v29).toNat)
    case atStart => exact ⟨0,rfl,⟨Nat.zero_le _⟩,⟨by rw [List.take_zero,List.take_nil,List.append_nil];exact hO.out⟩,hB,hS⟩
    case round =>
     obtain ⟨j,rfl,hj,hO2,hB2,hS2⟩:=hrel
     obtain ⟨l2,el2⟩:∃ l2,l2=q++(x.f1.take j).take (m+1 - q.length):=⟨_,rfl⟩
     rw [← el2] at hO2
     obtain ⟨A3,c3,ev,_⟩:=hO2.out.slice_
     subst ev
     have EL2:=Aside0.mk el2
     have HL2:=Aside0.mk (show l2.length≤m+1 by rw [el2,List.length_append,List.length_take];have:=HQM.out;omega)
     clear el2
     skip
     by_cases hjl:j<x.f1.length
     ·have hdj:decide ((j:Int)<(x.f1.length:Int))=true:=decide_eq_true (by omega)
      have hdjn:(j<x.f1.length)=True:=eq_true hjl
      have hj0:(0≤(j:Int))=True:=eq_true (Int.natCast_nonneg j)
      have hj1:((j:Int)<(x.f1.length:Int))=True:=eq_true (by omega)
      obtain ⟨b1,o1,rfl,hb1w,hys⟩:=CC_open HC1.out (by omega)
      obtain ⟨y,hy⟩:∃ y,x.f1[j]?=some y:=⟨_,List.getElem?_eq_getElem hjl⟩
      obtain ⟨A2,c2,q0,q1,q2,q3,q4,q5,hc2,hC2⟩:=hys j y hy
      have x0:=pw_cell_below hB2.out q0
      have x1:=pw_cell_below hB2.out q1
      have x2:=pw_cell_below hB2.out q2
      have x3:=pw_cell_below hB2.out q3
      have x4:=pw_cell_below hB2.out q4
      have x5:=pw_cell_below hB2.out q5
      have HY:=Aside0.mk hy
      have HJL:=Aside0.mk hjl
      have HKY:=Aside0.mk (k28_mk w y hc2 hC2)
      have HTK:=Aside0.mk (take_more (d:=m+1 - q.length) hy)
      clear hys hy hjl q0 q1 q2 q3 q4 q5 hc2 hC2 hb1w
      have hbA:Below wr.heap.size wr (wr.alloc (.cells #[.int .i64 y.f0,.slice A2 y.f1.length c2,.int .i64 y.f2,.int .u64 y.f3,.string y.f4,.int .u64 y.f5] 28)):=(Below.refl _ _).alloc (Nat.le_refl _) _
      have HZA:=Aside0.mk (blk_new wr (.cells #[.int .i64 y.f0,.slice A2 y.f1.length c2,.int .i64 y.f2,.int .u64 y.f3,.string y.f4,.int .u64 y.f5] 28))
      have HBW:=Aside0.mk (hB2.out.trans (hbA.mono (by have:=hS2.out;omega)))
      have HOA:=Aside0.mk (hO2.out.below hbA)
      clear hbA
      go_upto_region 8 with (fail)
      clear x0 x1 x2 x3 x4 x5
      obtain ⟨U,hU⟩:∃ U,U=wr.alloc (.cells #[.int .i64 y.f0,.slice A2 y.f1.length c2,.int .i64 y.f2,.int .u64 y.f3,.string y.f4,.int .u64 y.f5] 28):=⟨_,rfl⟩
      rw [← hU] at HZA HBW HOA ⊢
      clear hU
      have y0:U.cell? ⟨wr.heap.size,0,none⟩=some (.int .i64 y.f0):=blk_cell HZA.out 0
      have y1:U.cell? ⟨wr.heap.size,1,none⟩=some (.slice A2 y.f1.length c2):=blk_cell HZA.out 1
      have y2:U.cell? ⟨wr.heap.size,2,none⟩=some (.int .i64 y.f2):=blk_cell HZA.out 2
      have y3:U.cell? ⟨wr.heap.size,3,none⟩=some (.int .u64 y.f3):=blk_cell HZA.out 3
      have y4:U.cell? ⟨wr.heap.size,4,none⟩=some (.string y.f4):=blk_cell HZA.out 4
      have y5:U.cell? ⟨wr.heap.size,5,none⟩=some (.int .u64 y.f5):=blk_cell HZA.out 5
      by_cases hlm:l2.length≤m
      ·have hd3:decide ((l2.length:Int)≤(m:Int))=true:=decide_eq_true (by omega)
       have hd3n:(l2.length≤m)=True:=eq_true hlm
       have HJD:=Aside0.mk (show j<m+1 - q.length by
        have h_:=EL2.out
        have:=HQM.out
        have:=HJL.out
        have e:=congrArg List.length h_
        rw [List.length_append,List.length_take,List.length_take] at e
        omega)
       rw [if_pos HJD.out] at HTK
       have HSU:=Aside0.mk (show w.heap.size+1≤U.heap.size by have:=hS2.out;have:=blk_lt HZA.out;omega)
       clear hlm
       go_wp2_with ((with_reducible refine gate_builtin (b:=.append) (xs:=#[.tmp 37,.tmp 39]) rfl ?_);at_builtin;refine OwnRow.append (R:=k28.K w) (w0:=U) (W:=U) (w.heap.size+1) rfl (.tmp 37) (.tmp 39) 26 28 (.agg #[.int .i64 0,.slice none 0 0,.int .i64 0,.int .u64 0,.string ⟨#[]⟩,.int .u64 0]) 6 72 rfl Tryz.underlying26 infoCnd rfl (by decide) (by decide) (.slice A3 l2.length c3) l2 y [.int .i64 y.f0,.slice A2 y.f1.length c2,.int .i64 y.f2,.int .u64 y.f3,.string y.f4,.int .u64 y.f5] rfl rfl HKY.out rfl (kK_one y _ HKY.out) HOA.out (Below.refl _ _) HSU.out ?aL ?_)
       case aL => have:=HL2.out;have:=HM2.out;omega
       intro v1 w5 hR5 hb5 hg5 _
       rw [EL2.out,List.append_assoc,← HTK.out] at hR5
       have HR5:=Aside0.mk hR5
       have HB5:=Aside0.mk hb5
       clear hR5 hb5 hg5
       go_wp2_with fail
       go_roundw
       case rel => exact ⟨j+1,by have:=HJL.out;have:=HJD.out;have:=HM2.out;rw [show wrap64 ((j:Int)+1)=((j+1:Nat):Int) by unfold wrap64;omega],⟨HJL.out⟩,HR5,⟨HBW.out.trans (HB5.out.mono (by have:=HSU.out;omega))⟩,⟨by have:=HB5.out.size;have:=HSU.out;omega⟩⟩
       case measure =>
        have:=HJL.out
        have:=HJD.out
        have:=HM2.out
        rw [show wrap64 ((j:Int)+1)=((j+1:Nat):Int) by unfold wrap64;omega]
        simp only [intOf,Int.toNat_natCast]
        omega
      ·have hd3:decide ((l2.length:Int)≤(m:Int))=false:=decide_eq_false (by omega)
       have hd3n:(l2.length≤m)=False:=eq_false hlm
       have HJD:=Aside0.mk (show ¬ j<m+1 - q.length by
        intro hh
        have h_:=EL2.out
        have e:=congrArg List.length h_
        rw [List.length_append,List.length_take,List.length_take] at e
        omega)
       rw [if_neg HJD.out] at HTK
       have HSU:=Aside0.mk (show w.heap.size+1≤U.heap.size by have:=hS2.out;have:=blk_lt HZA.out;omega)
       clear hlm
       go_wp2_with fail
       go_roundw
       case rel => exact ⟨j+1,by have:=HXL.out;have:=HJL.out;rw [show wrap64 ((j:Int)+1)=((j+1:Nat):Int) by unfold wrap64;omega],⟨HJL.out⟩,⟨by rw [HTK.out,← EL2.out];exact HOA.out⟩,HBW,HSU⟩
       case measure =>
        have:=HJL.out
        have:=HXL.out;have:=HJL.out
        rw [show wrap64 ((j:Int)+1)=((j+1:Nat):Int) by unfold wrap64;omega]
        simp only [intOf,Int.toNat_natCast]
        omega
     ·have hdj:decide ((j:Int)<(x.f1.length:Int))=false:=decide_eq_false (by omega)
      have hdjn:(j<x.f1.length)=False:=eq_false hjl
      have HTJ:=Aside0.mk (show l2=q++x.f1.take (m+1 - q.length) by rw [EL2.out,List.take_of_length_le (i:=j) (by omega)])
      clear hjl
      go_wp2_with fail
      go_roundw
      case rel =>
       have:=HIL.out
       have:=HQM.out
       have:=HM2.out
       refine ⟨i+1,l2,by rw [show wrap64 ((i:Int)+1)=((i+1:Nat):Int) by unfold wrap64;omega],⟨?_⟩,HL2,hO2,hB2,hS2,⟨by rw [HTJ.out];exact HST.out⟩⟩
       rw [HTJ.out,List.length_append];omega
      case measure =>
       have:=HIL.out
       have:=HQM.out
       have:=HM2.out
       rw [show wrap64 ((i:Int)+1)=((i+1:Nat):Int) by unfold wrap64;omega]
       simp only [intOf,Int.toNat_natCast]
       omega
   ·have hd2:decide ((q.length:Int)≤(m:Int))=false:=decide_eq_false (by omega)
    have hd2n:(q.length≤m)=False:=eq_false hqm
    have HRR:=Aside0.mk ((many_end (k:=m+1 - i) (p:=q.drop i) (Or.inr hqm)).symm.trans hR.out)
    clear hqm hil
    go_wp2_with fail
    all_goals go_ret
    exact ⟨congrArg (fun x:Nat => Ending.returned (.int .i64 (x:Int))) HRR.out,hB.out⟩
  ·have hd:decide ((i:Int)<(q.length:Int))=false:=decide_eq_false (by omega)
   have hdn:(i<q.length)=False:=eq_false hil
   have HRR:=Aside0.mk ((many_end (k:=m+1 - i) (p:=q.drop i) (n:=q.length) (m:=m) (Or.inl (List.drop_of_length_le (by omega)))).symm.trans hR.out)
   clear hil
   go_wp2_with fail
   all_goals go_ret
   exact ⟨congrArg (fun x:Nat => Ending.returned (.int .i64 (x:Int))) HRR.out,hB.out⟩

def doorwardref15_Many.f (a0_0:Int) (l0_1:List CN) (a0_2:Int) (a0_3:Int) (a0_4:ByteArray) (a0_5:Int) (a1:Int):Option Int:=if 1≤a1∧a1≤1000000 then some (manyS ⟨a0_0,l0_1,a0_2,a0_3,a0_4,a0_5⟩ a1.toNat:Nat) else none
theorem doorwardref15_Many.calls (a0_0:Int) (A0_1:Option Addr) (c0_1:Nat) (l0_1:List (S28)) (a0_2:Int) (a0_3:Int) (a0_4:ByteArray) (a0_5:Int) (a1:Int) (r:Int) (w:World) (hr0_1:Kd.C k28 w A0_1 l0_1.length l0_1) (hc0_1:l0_1.length≤c0_1) (hLd:LaidAt w) (h:doorwardref15_Many.f a0_0 l0_1 a0_2 a0_3 a0_4 a0_5 a1=some r) :
  Calls Tryz.prog 7 #[.agg #[.int .i64 a0_0,.slice A0_1 l0_1.length c0_1,.int .i64 a0_2,.int .u64 a0_3,.string a0_4,.int .u64 a0_5],.int .i64 a1] w fun e w' => e=.returned (.int .i64 r)∧Below w.heap.size w w':=by
 unfold doorwardref15_Many.f at h
 split at h
 ·rename_i hs
  have e:=Option.some.inj h
  rw [← e]
  obtain ⟨m,rfl⟩:∃ m:Nat,a1=m:=⟨a1.toNat,by omega⟩
  rw [Int.toNat_natCast]
  exact many_any ⟨a0_0,l0_1,a0_2,a0_3,a0_4,a0_5⟩ m (by omega) (by omega) A0_1 c0_1 w hr0_1 hc0_1
 ·cases h

/-! ### slices_Index_string_string: function 101 -/
def slices_Index_string_string.l0:Nat→List ByteArray→ByteArray→Int→Int→Option (Int)
 |  0,_,_,_,_ => none
 |  k+1,x0,x1,x7,x8 => if x8<x7 then (if 0≤x8 then (if x8<(x0.length:Int) then (if x1.toList=(rdOf ByteArray.empty x0 x8).toList then (some x8) else (slices_Index_string_string.l0 k x0 x1 x7 (wrap64 (x8+1)))) else (none)) else (none)) else (some (-1))
def slices_Index_string_string.f (k:Nat) (l0:List ByteArray) (a1:ByteArray):Option (Int):=slices_Index_string_string.l0 k l0 a1 (l0.length:Int) 0
theorem slices_Index_string_string.mono_l:∀ k,(∀ y0 y1 y2 y3,LeO (slices_Index_string_string.l0 k y0 y1 y2 y3) (slices_Index_string_string.l0 (k+1) y0 y1 y2 y3))
 |  0 => fun _ _ _ _ r h => by simp [slices_Index_string_string.l0] at h
 |  k+1 => by
  have ih0:=slices_Index_string_string.mono_l k
  ·intro y0 y1 y2 y3
   unfold slices_Index_string_string.l0
   repeat' first
   |  (with_reducible exact ih0 _ _ _ _)
   |  (with_reducible exact LeO.refl _)
   |  (with_reducible exact LeO.none _)
   |  (with_reducible refine LeO.ite ?_ ?_)
   |  (with_reducible refine LeO.bind ?_ (fun _ => ?_))
   |  exact ih0 _ _ _ _
   |  exact LeO.none _
   |  refine LeO.ite ?_ ?_
   |  refine LeO.bind ?_ (fun _ => ?_)
theorem slices_Index_string_string.mono:∀ a0 a1 k,LeO (slices_Index_string_string.f k a0 a1) (slices_Index_string_string.f (k+1) a0 a1):=by
 intro a0 a1 k
 have ih0:=slices_Index_string_string.mono_l k
 unfold slices_Index_string_string.f
 repeat' first
   |  (with_reducible exact ih0 _ _ _ _)
   |  (with_reducible exact LeO.refl _)
   |  (with_reducible exact LeO.none _)
   |  (with_reducible refine LeO.ite ?_ ?_)
   |  (with_reducible refine LeO.bind ?_ (fun _ => ?_))
   |  exact ih0 _ _ _ _
   |  exact LeO.none _
   |  refine LeO.ite ?_ ?_
   |  refine LeO.bind ?_ (fun _ => ?_)
set_option maxHeartbeats 8000000 in
set_option maxRecDepth 100000 in
theorem slices_Index_string_string.calls (k:Nat) (A0:Option Addr) (c0:Nat) (l0:List ByteArray) (a1:ByteArray) (r:Int) (w:World) (hr0:Kd.C Kd.string w A0 l0.length l0) (hc0:l0.length≤c0) (hLd:LaidAt w) (h:slices_Index_string_string.f k l0 a1=some r) :
  Calls Tryz.prog 101 #[.slice A0 l0.length c0,.string a1] w fun e w' => e=.returned (.int .i64 r)∧Drawn0 w w':=by
 have HLD:=Aside0.mk hLd
 clear hLd
 have HR0:=Aside0.mk hr0
 have HC0:=Aside0.mk hc0
 clear hr0 hc0
 have H:(slices_Index_string_string.l0 k l0 a1 (l0.length:Int) 0)=some r:=h
 clear h
 have H':=Aside0.mk H
 clear H
 go_enter Tryz.func101,Tryz.ntmps101
 go_wp2
 go_loopg [8] k (fun kq v8 w' =>∃(x8_1:Int),v8=.int .i64 x8_1∧Aside0 (slices_Index_string_string.l0 kq l0 a1 (l0.length:Int) x8_1=some r)∧Aside0 (kq≤k)∧Drawn0 w w')
 case atStart => exact ⟨(0),(by first|rfl|(simp;done)|(simp [*];done)),H',⟨Nat.le_refl _⟩,by repeat (first|exact Drawn0.refl _|apply Drawn0.step)⟩
 case round =>
  clear H'
  obtain ⟨x8_1,rfl,HA,HK1,⟨m1,rfl⟩⟩:=hrel
  cases gk with
  |  zero => exact absurd HA.out (by simp [slices_Index_string_string.l0])
  |  succ k1 =>
   have H:=HA.out
   clear HA
   simp only [slices_Index_string_string.l0] at H
   by_cases c3:x8_1<(l0.length:Int)
   ·rw [if_pos c3] at H
    have c3b0:decide (x8_1<(l0.length:Int))=true:=decide_eq_true c3
    clear c3
    by_cases c4:0≤x8_1
    ·rw [if_pos c4] at H
     have c4b0:decide (0≤x8_1)=true:=decide_eq_true c4
     clear c4
     by_cases c5:x8_1<(l0.length:Int)
     ·rw [if_pos c5] at H
      have c5b0:decide (x8_1<(l0.length:Int))=true:=decide_eq_true c5
      clear c5
      by_cases c6:a1.toList=(rdOf ByteArray.empty l0 x8_1).toList
      ·rw [if_pos c6] at H
       have c6b0:(a1.toList==(rdOf ByteArray.empty l0 x8_1).toList)=true:=beq_iff_eq.mpr c6
       have c6b1:(a1.toList != (rdOf ByteArray.empty l0 x8_1).toList)=false:=bne_eq_false_iff_eq.mpr c6
       clear c6
       obtain rfl:=Option.some.inj H
       have p101:0≤(x8_1:Int):=of_decide_eq_true (by first|(with_reducible assumption)|assumption)
       have q101:x8_1<(l0.length:Int):=of_decide_eq_true (by first|(with_reducible assumption)|assumption)
       obtain ⟨ad101,e101,hx101_0⟩:=Kd.at_string HR0.out x8_1 p101 q101
       cases e101
       replace p101:=eq_true p101
       replace q101:=eq_true q101
       go_wp2
       go_ret
       exact ⟨by first|rfl|(simp;done)|(simp [*];done),by repeat (first|exact Drawn0.refl _|apply Drawn0.step)⟩
      ·rw [if_neg c6] at H
       have c6b0:(a1.toList==(rdOf ByteArray.empty l0 x8_1).toList)=false:=beq_eq_false_iff_ne.mpr c6
       have c6b1:(a1.toList != (rdOf ByteArray.empty l0 x8_1).toList)=true:=bne_iff_ne.mpr c6
       have H':=Aside0.mk H
       clear H
       have p101:0≤(x8_1:Int):=of_decide_eq_true (by first|(with_reducible assumption)|assumption)
       have q101:x8_1<(l0.length:Int):=of_decide_eq_true (by first|(with_reducible assumption)|assumption)
       obtain ⟨ad101,e101,hx101_0⟩:=Kd.at_string HR0.out x8_1 p101 q101
       cases e101
       replace p101:=eq_true p101
       replace q101:=eq_true q101
       go_wp2
       go_roundg k1
       case measure => have:=HK1.out;omega
       case rel => exact ⟨(wrap64 (x8_1+1)),(by first|rfl|(simp;done)|(simp [*];done)),H',⟨by have:=HK1.out;omega⟩,by repeat (first|exact Drawn0.refl _|apply Drawn0.step)⟩
     ·rw [if_neg c5] at H
      exact absurd H (by simp)
    ·rw [if_neg c4] at H
     exact absurd H (by simp)
   ·rw [if_neg c3] at H
    have c3b0:decide (x8_1<(l0.length:Int))=false:=decide_eq_false c3
    clear c3
    obtain rfl:=Option.some.inj H
    go_wp2
    go_ret
    exact ⟨by first|rfl|(simp;done)|(simp [*];done),by repeat (first|exact Drawn0.refl _|apply Drawn0.step)⟩

/-! ### slices_Contains_string_string: function 80 -/
def slices_Contains_string_string.f (k:Nat) (l0:List ByteArray) (a1:ByteArray):Option (Bool):=(slices_Index_string_string.f k l0 a1).bind fun t102 => (some (decide (t102 ≥ 0)))
theorem slices_Contains_string_string.mono:∀ a0 a1 k,LeO (slices_Contains_string_string.f k a0 a1) (slices_Contains_string_string.f (k+1) a0 a1):=by
 intro a0 a1 k
 unfold slices_Contains_string_string.f
 repeat' first
   |  (with_reducible exact slices_Index_string_string.mono _ _ _)
   |  (with_reducible exact LeO.refl _)
   |  (with_reducible exact LeO.none _)
   |  (with_reducible refine LeO.ite ?_ ?_)
   |  (with_reducible refine LeO.bind ?_ (fun _ => ?_))
   |  exact slices_Index_string_string.mono _ _ _
   |  exact LeO.none _
   |  refine LeO.ite ?_ ?_
   |  refine LeO.bind ?_ (fun _ => ?_)
set_option maxHeartbeats 8000000 in
set_option maxRecDepth 100000 in
theorem slices_Contains_string_string.calls (k:Nat) (A0:Option Addr) (c0:Nat) (l0:List ByteArray) (a1:ByteArray) (r:Bool) (w:World) (hr0:Kd.C Kd.string w A0 l0.length l0) (hc0:l0.length≤c0) (hLd:LaidAt w) (h:slices_Contains_string_string.f k l0 a1=some r) :
  Calls Tryz.prog 80 #[.slice A0 l0.length c0,.string a1] w fun e w' => e=.returned (.bool r)∧Drawn0 w w':=by
 have HLD:=Aside0.mk hLd
 clear hLd
 have HR0:=Aside0.mk hr0
 have HC0:=Aside0.mk hc0
 clear hr0 hc0
 have H:((slices_Index_string_string.f k l0 a1).bind fun t102 => (some (decide (t102 ≥ 0))))=some r:=h
 clear h
 replace H:=Option.bind_eq_some_iff.mp H
 obtain ⟨t102,A30,H⟩:=H
 replace H:(some (decide (t102 ≥ 0)))=some r:=H
 have A3:=Aside0.mk A30
 clear A30
 obtain rfl:=Option.some.inj H
 go_enter Tryz.func80,Tryz.ntmps80
 go_wp2_with (first|((with_reducible refine gate_callee (f:=101) rfl ?_);refine goesL_ (some 7) rfl rfl Tryz.func101 (by kernel_rfl) rfl #[.slice A0 l0.length c0,.string a1] rfl (by (try simp only [List.map_toArray,List.map_cons,List.map_nil]);first|done|rfl|(simp only [List.length_drop,List.length_take];rfl)) ?_;(with_reducible refine (slices_Index_string_string.calls k _ _ l0 a1 t102 _ ?side1 ?side2 ?side3 A3.out).mono ?_);(case side1 => repeat (first|exact HR0.out|(with_reducible refine Kd.C_alloc ?_ _)|(with_reducible refine Kd.C_drewN ?_ _)|(with_reducible refine Kd.C_drew ?_)));(case side2 => exact HC0.out);(case side3 => (with_reducible repeat (first|exact HLD.out|apply LaidAt.drewN|apply LaidAt.drew|apply LaidAt.alloc)));rintro e w' ⟨rfl,⟨nd,rfl⟩⟩;refine ⟨_,rfl,?_⟩))
 go_ret
 exact ⟨by first|rfl|(simp;done)|(simp [*];done),by repeat (first|exact Drawn0.refl _|apply Drawn0.step)⟩

/-! ### types_signs: function 89 -/
def types_signs.f :Option (List ByteArray):=some (([(⟨#[61,61]⟩:ByteArray),(⟨#[33,61]⟩:ByteArray),(⟨#[60]⟩:ByteArray),(⟨#[60,61]⟩:ByteArray),(⟨#[62]⟩:ByteArray),(⟨#[62,61]⟩:ByteArray)]:List ByteArray))
set_option maxHeartbeats 8000000 in
set_option maxRecDepth 100000 in
theorem types_signs.calls  (r:List ByteArray) (w:World) (hLd:LaidAt w) (h:types_signs.f =some r) :
  Calls Tryz.prog 89 #[] w fun e w' =>∃v0_:Value,e=.returned (v0_)∧Kd.R Kd.string 9 w' w.heap.size (fun _ => True) v0_ r∧Below w.heap.size w w':=by
 have HLD:=Aside0.mk hLd
 clear hLd
 have HB:=Aside0.mk (Below.refl w.heap.size w)
 have H:(some (([(⟨#[61,61]⟩:ByteArray),(⟨#[33,61]⟩:ByteArray),(⟨#[60]⟩:ByteArray),(⟨#[60,61]⟩:ByteArray),(⟨#[62]⟩:ByteArray),(⟨#[62,61]⟩:ByteArray)]:List ByteArray)))=some r:=h
 clear h
 obtain ⟨y103,hy103⟩:∃ y_:List ByteArray,y_=(([(⟨#[61,61]⟩:ByteArray),(⟨#[33,61]⟩:ByteArray),(⟨#[60]⟩:ByteArray),(⟨#[60,61]⟩:ByteArray),(⟨#[62]⟩:ByteArray),(⟨#[62,61]⟩:ByteArray)]:List ByteArray)):=⟨_,rfl⟩
 replace H:(some y103)=some r:=by first|(rw [hy103];with_reducible exact H)|(have H2_:=(Option.bind_some _ _).symm.trans H;rw [hy103];with_reducible exact H2_)|(have H2_:=(Option.bind_some _ _).symm.trans H;with_reducible exact H2_)|with_reducible exact H|(rw [hy103];exact H)|exact H
 have Ny103:=Aside0.mk hy103
 clear hy103
 obtain rfl:=Option.some.inj H
 go_enter Tryz.func89,Tryz.ntmps89
 go_wp2_with (first|((with_reducible refine gate_dst (N:=1) rfl ?_);refine Kd.R_lit Kd.string _ 9 ?hg (N:=1) ?hd (xs:=([(⟨#[61,61]⟩:ByteArray),(⟨#[33,61]⟩:ByteArray),(⟨#[60]⟩:ByteArray),(⟨#[60,61]⟩:ByteArray),(⟨#[62]⟩:ByteArray),(⟨#[62,61]⟩:ByteArray)]:List ByteArray)) (inner:=[.string (⟨#[61,61]⟩:ByteArray),.string (⟨#[33,61]⟩:ByteArray),.string (⟨#[60]⟩:ByteArray),.string (⟨#[60,61]⟩:ByteArray),.string (⟨#[62]⟩:ByteArray),.string (⟨#[62,61]⟩:ByteArray)]) (ok:=fun _ => True) (okp:=fun _ => True) ?hr ?hp (fun _ hk => hk) trivial (Below.refl _ _) (Nat.le_refl _) (by simp) ?_;(case hd => rfl);(case hg => rfl);(case hr => first|(go_simp;done)|(go_simp;rfl));(case hp => exact (Reps.one (show Kd.M Kd.string _ _ _ (⟨#[61,61]⟩:ByteArray) [.string (⟨#[61,61]⟩:ByteArray)] from rfl) (Reps.one (show Kd.M Kd.string _ _ _ (⟨#[33,61]⟩:ByteArray) [.string (⟨#[33,61]⟩:ByteArray)] from rfl) (Reps.one (show Kd.M Kd.string _ _ _ (⟨#[60]⟩:ByteArray) [.string (⟨#[60]⟩:ByteArray)] from rfl) (Reps.one (show Kd.M Kd.string _ _ _ (⟨#[60,61]⟩:ByteArray) [.string (⟨#[60,61]⟩:ByteArray)] from rfl) (Reps.one (show Kd.M Kd.string _ _ _ (⟨#[62]⟩:ByteArray) [.string (⟨#[62]⟩:ByteArray)] from rfl) (Reps.one (show Kd.M Kd.string _ _ _ (⟨#[62,61]⟩:ByteArray) [.string (⟨#[62,61]⟩:ByteArray)] from rfl) (Reps.none _ _))))))));intro v104 w1 ho2 hb hg_ hnew_;clear hg_ hnew_;(first|rw [← Ny103.out] at ho2|(simp only [Int.reduceToNat] at ho2;rw [← Ny103.out] at ho2));have n0_:=Aside0.mk (Kd.R_lower ho2 (below_size (by repeat (with_reducible first|exact HB.out|apply below_alloc|apply pw_below_drewN|apply below_drew1))));have n1_:=Aside0.mk (below_step (by repeat (with_reducible first|exact HB.out|apply below_alloc|apply pw_below_drewN|apply below_drew1)) hb);clear HB;have HO105:=n0_;have HB:=n1_;clear n0_ n1_;clear hb ho2))
 go_ret
 exact ⟨_,by first|rfl|(simp [errW_none,errW_some]<;>rfl)|(simp [*,errW_none,errW_some]<;>rfl),by (with_reducible repeat (first|apply Kd.R_alloc|apply Kd.R_drewN|apply Kd.R_drew));exact HO105.out,by repeat (with_reducible first|exact HB.out|apply below_alloc|apply pw_below_drewN|apply below_drew1)⟩

end Go.Proofs.YtdfjjimmnbijmaaGreatDoor.ZQ

-- Written for this claim by myprint.py over the kit's print (functions of this session supplied)
import Derived.Test.YtdfjjimmnbijmaaGreatDoorZQ0
import Derived.Test.YtdfjjimmnbijmaaGreatDoorZQ1
import Derived.Test.YtdfjjimmnbijmaaGreatDoorZQ2
namespace Go.Proofs.YtdfjjimmnbijmaaGreatDoor.ZQ
open Go.RowKit Go.Proofs.YtdfjjimmnbijmaaGreatDoorW.PrintWords Go.Proofs.YtdfjjimmnbijmaaGreatDoorW.PrintLast Go.Proofs.YtdfjjimmnbijmaaGreatDoorW.PrintMore Go.Proofs.YtdfjjimmnbijmaaGreatDoor.Base
attribute [local go_sem] max2_int min2_int max_two min_two max_three min_three max_four min_four   -- for this text's walks alone
set_option linter.unusedVariables false
set_option linter.unusedSimpArgs false

/-! ### types_count: function 39 -/
theorem succ {α:Type} {g:Nat→Option α} {r:α} (h:Ev (fun k => g (k+1)) r):Ev g r:=Ev.step (fun _ => rfl) h
theorem w1 {i:Nat} (h:i<9223372036854775807):wrap64 ((i:Int)+1)=((i+1:Nat):Int):=by unfold wrap64;omega
theorem wr {i:Int} (h:-9223372036854775808≤i) (h':i≤9223372036854775807):wrap64 i=i:=by unfold wrap64;omega
theorem now {α:Type} {r r':α} (h:r=r'):Ev (fun _ => some r) r':=h ▸ Ev.now r
theorem evc {α:Type} {g:Nat→Option α} {r r':α} (h:Ev g r) (e:r=r'):Ev g r':=e ▸ h
theorem drop_cons {α:Type} {l:List α} {i:Nat} (h:i<l.length):l.drop i=l[i] :: l.drop (i+1):=List.drop_eq_getElem_cons h
theorem nil_iff (a:ByteArray):a.toList=[] ↔ a.size=0:=by
 rw [Lib.toList_data,Lib.size_eq,List.length_eq_zero_iff]
theorem evP {α:Type} {c:Prop} [Decidable c] {g g':Nat→Option α} {r:α} (hc:c) (h:Ev g r):Ev (fun k => if c then g k else g' k) r:=by
 have e:(fun k => if c then g k else g' k)=g:=by funext k;rw [if_pos hc]
 rw [e];exact h
theorem evN {α:Type} {c:Prop} [Decidable c] {g g':Nat→Option α} {r:α} (hc:¬ c) (h:Ev g' r):Ev (fun k => if c then g k else g' k) r:=by
 have e:(fun k => if c then g k else g' k)=g':=by funext k;rw [if_neg hc]
 rw [e];exact h
/-! ### types.one in plain words -/
theorem idx_ev (l:List ByteArray) (s:ByteArray) (hl:l.length≤1000000):∀ d i:Nat,i+d=l.length→∃ r,Ev (fun k => slices_Index_string_string.l0 k l s (l.length:Int) (i:Int)) r∧decide (r ≥ 0)=(l.drop i).any (fun x => x.toList==s.toList):=by
 intro d
 induction d with
 |  zero =>
  intro i hi
  refine ⟨-1,?_,?_⟩
  ·apply succ
   simp only [slices_Index_string_string.l0,if_neg (show ¬ (i:Int)<(l.length:Int) by omega)]
   exact now rfl
  ·rw [List.drop_of_length_le (by omega)];rfl
 |  succ d ih =>
  intro i hi
  have hil:i<l.length:=by omega
  have hrd:rdOf ByteArray.empty l (i:Int)=l[i]:=by
   unfold rdOf
   rw [Int.toNat_natCast,List.getD_eq_getElem?_getD,List.getElem?_eq_getElem hil];rfl
  rw [drop_cons hil,List.any_cons]
  by_cases he:s.toList=l[i].toList
  ·refine ⟨i,?_,?_⟩
   ·apply succ
    simp only [slices_Index_string_string.l0,if_pos (show (i:Int)<(l.length:Int) by omega),if_pos (show 0≤(i:Int) by omega),hrd,if_pos he]
    exact now rfl
   ·rw [he];simp
  ·obtain ⟨r,h1,h2⟩:=ih (i+1) (by omega)
   refine ⟨r,?_,?_⟩
   ·apply succ
    simp only [slices_Index_string_string.l0,if_pos (show (i:Int)<(l.length:Int) by omega),if_pos (show 0≤(i:Int) by omega),hrd,if_neg he,w1 (show i<9223372036854775807 by omega)]
    exact h1
   ·rw [h2]
    have:(l[i].toList==s.toList)=false:=by rw [beq_eq_false_iff_ne];exact fun e => he e.symm
    rw [this];rfl
theorem contains_ev (l:List ByteArray) (s:ByteArray) (hl:l.length≤1000000):Ev (fun k => slices_Contains_string_string.f k l s) (l.any fun x => x.toList==s.toList):=by
 obtain ⟨r,h1,h2⟩:=idx_ev l s hl l.length 0 (by omega)
 rw [List.drop_zero] at h2
 rw [← h2]
 exact Ev.bind h1 (now rfl)
theorem one_j0 (c:CN) (k:Nat):types_one.f k c.f0 c.f1 c.f2 c.f3 c.f4 c.f5=types_one.j0 k (bareS c) c.f0 c.f1 c.f2 c.f3 c.f4 c.f5:=by
 unfold types_one.f bareS
 by_cases h2:c.f2=0
 ·rw [if_pos h2,decide_eq_true h2,Bool.true_and]
  by_cases h3:c.f3=0
  ·rw [if_pos h3,decide_eq_true h3,Bool.true_and]
   by_cases h4:c.f4.toList=[]
   ·rw [if_pos h4,h4,List.isEmpty_nil,Bool.true_and];rfl
   ·rw [if_neg h4]
    have:c.f4.toList.isEmpty=false:=by cases hq:c.f4.toList with|nil => exact absurd hq h4|cons a r => rfl
    rw [this,Bool.false_and]
  ·rw [if_neg h3,decide_eq_false h3,Bool.false_and]
 ·rw [if_neg h2,decide_eq_false h2,Bool.false_and]
theorem signs_any (s:ByteArray):([(⟨#[61,61]⟩:ByteArray),(⟨#[33,61]⟩:ByteArray),(⟨#[60]⟩:ByteArray),(⟨#[60,61]⟩:ByteArray),(⟨#[62]⟩:ByteArray),(⟨#[62,61]⟩:ByteArray)]:List ByteArray).any (fun x => x.toList==s.toList)=sgnB s:=by
 unfold sgnB sgnL
 rw [List.contains_eq_any_beq]
 simp only [List.any_cons,List.any_nil,Lib.toList_data]
 have e:∀ (a b:List UInt8),(a==b)=(b==a):=fun a b => by rw [Bool.eq_iff_iff,beq_iff_eq,beq_iff_eq];exact eq_comm
 simp only [e _ s.data.toList]
theorem one_ev (c:CN):Ev (fun k => types_one.f k c.f0 c.f1 c.f2 c.f3 c.f4 c.f5) (oneS c):=by
 have e:(fun k => types_one.f k c.f0 c.f1 c.f2 c.f3 c.f4 c.f5)=fun k => types_one.j0 k (bareS c) c.f0 c.f1 c.f2 c.f3 c.f4 c.f5:=funext fun k => one_j0 c k
 rw [e]
 apply succ
 simp only [types_one.j0]
 unfold oneS
 by_cases h4:c.f0=4
 ·simp only [if_pos h4]
  by_cases h5:0≤c.f2
  ·simp only [ge_iff_le,if_pos h5]
   by_cases h6:c.f2<6
   ·simp only [if_pos h6,types_signs.f,Option.bind_some]
    refine Ev.bind (contains_ev _ _ (by decide)) ?_
    rw [signs_any]
    cases sgnB c.f4 with
    |  true =>
     simp only [if_true]
     refine now ?_
     rw [decide_eq_true h5,decide_eq_true h6,Bool.true_and,Bool.true_and,Bool.true_and,Bool.eq_iff_iff,beq_iff_eq,decide_eq_true_eq];omega
    |  false => simp only [Bool.false_eq_true,if_false];refine now ?_;simp
   ·simp only [if_neg h6];refine now ?_;simp [h6]
  ·simp only [ge_iff_le,if_neg h5];refine now ?_;simp [h5]
 ·simp only [if_neg h4]
  have key:∀ b:Bool,(b=true ↔ (c.f0=1 ∨ c.f0=2))→Ev (fun k => types_one.j1 k (bareS c) c.f0 b c.f0 c.f1 c.f2 c.f3 c.f4 c.f5) (if c.f0=1 then bareS c && decide (2≤c.f1.length) else if c.f0=2 then bareS c && decide (2≤c.f1.length) else if c.f0=3 then bareS c && decide (c.f1.length=1) else false):=by
   intro b hb
   apply succ
   cases b with
   |  true =>
    have h12:=hb.1 rfl
    have e2:(if c.f0=1 then bareS c && decide (2≤c.f1.length) else if c.f0=2 then bareS c && decide (2≤c.f1.length) else if c.f0=3 then bareS c && decide (c.f1.length=1) else false)=(bareS c && decide (2≤c.f1.length)):=by
     rcases h12 with h|h
     ·rw [if_pos h]
     ·rw [if_neg (by omega),if_pos h]
    rw [e2]
    simp only [types_one.j1,if_true]
    cases bareS c with
    |  true => simp only [if_true];refine now ?_;rw [Bool.true_and,decide_eq_decide];omega
    |  false => simp only [Bool.false_eq_true,if_false];exact now rfl
   |  false =>
    have h12:¬ (c.f0=1 ∨ c.f0=2):=fun h => by have:=hb.2 h;cases this
    simp only [types_one.j1,Bool.false_eq_true,if_false,if_neg (show ¬ c.f0=1 from fun h => h12 (Or.inl h)),if_neg (show ¬ c.f0=2 from fun h => h12 (Or.inr h))]
    by_cases h3:c.f0=3
    ·simp only [if_pos h3]
     cases bareS c with
     |  true => simp only [if_true];refine now ?_;rw [Bool.true_and,Bool.eq_iff_iff,beq_iff_eq,decide_eq_true_eq];omega
     |  false => simp only [Bool.false_eq_true,if_false];exact now rfl
    ·simp only [if_neg h3];exact now rfl
  by_cases h1:c.f0=1
  ·simp only [if_pos h1]
   have:=key (c.f0==1) (by rw [beq_iff_eq];omega)
   simp only [if_pos h1] at this
   exact this
  ·have:=key (c.f0==2) (by rw [beq_iff_eq];omega)
   simp only [if_neg h1] at this ⊢
   exact this
/-! ### append(ps, qs...) of elements of many cells -/
section
variable {P:Program} {ops:Array Oper} {rest:List Oper} {o:Oper} {a:Act} {Q:Exit→Act→World→Prop} {α:Type} {R:α→List Value→Prop}
theorem reps_one {size:Nat} {ps:List α} {cs:List Value} (h:Reps R size ps cs) (hs:0<size) (h1:∀ q c,R q c→∀ u ∈ c,u.oneCell'=true):∀ u ∈ cs,u.oneCell'=true:=by
 intro u hu
 obtain ⟨i,hi,rfl⟩:=List.getElem_of_mem hu
 have hj:i / size<ps.length:=by rw [Nat.div_lt_iff_lt_mul hs];rw [h.1] at hi;exact hi
 have hR:=h.2 (i / size) _ (List.getElem?_eq_getElem hj)
 refine h1 _ _ hR _ ?_
 have e:i / size * size+i % size=i:=by rw [Nat.mul_comm];exact Nat.div_add_mod i size
 have hm:=Nat.mod_lt i hs
 refine List.mem_of_getElem? (i:=i % size) ?_
 rw [List.getElem?_take,if_pos hm,List.getElem?_drop,e]
 exact List.getElem?_eq_getElem hi
theorem own_append_rows {w0 W:World} (base:Nat) (hgd:o.guard=none) (s x:Operand) (t e:TypeId) (z:Value) (size bytes:Nat)
  (ho:o.op=.call { callee:=.builtin .append,args:=#[s,x],argTypes:=#[t,t] })
  (ht:P.underlying t=some (.slice e)) (hinfo:(P.info? e).map (fun i => (i.zero,i.size,i.bytes))=some (some z,size,bytes)) (hz:z.cells.size=size) (hs0:0<size) (hb0:0<bytes)
  (v:Value) (ps qs:List α) (A:Option Addr) (m c:Nat) (hs:a.eval s=v) (hx:a.eval x=.slice A m c) (h1:∀ q cs,R q cs→∀ u ∈ cs,u.oneCell'=true)
  (HO:OwnRow R e size W base v ps) (HR:ReadsRow R size W A m qs) (HB:Below base w0 W) (hbase:base≤W.heap.size) (hl:(ps.length+m) * bytes≤140737488355328)
  (h:∀ v1 w1,OwnRow R e size w1 base v1 (ps++qs)→Below base w0 w1→W.grownBy w1 v.ownBlock→(v1.ownBlock=v.ownBlock ∨∃b,v1.ownBlock=some b∧W.heap.size≤b)→wpList P ops Q rest (a.put o.dst v1) w1) :
  wpList P ops Q (o :: rest) a W:=by
 obtain ⟨i0,hi,hzz⟩:=Option.map_eq_some_iff.1 hinfo
 simp only [Prod.mk.injEq] at hzz
 obtain ⟨hz0,hz1,hz2⟩:=hzz
 have hm:qs.length=m:=HR.1
 have hlen:ps.length+m≤140737488355328:=Nat.le_trans (Nat.le_mul_of_pos_right _ hb0) hl
 obtain ⟨inner,hown,hr0⟩:=HO
 have hrun:∃ v1 w1,(Builtin.append_ #[t,t] o.type #[v,.slice A m c]).run P W=.ok v1 w1∧OwnRow R e size w1 base v1 (ps++qs)∧W.grownBy w1 v.ownBlock∧(v1.ownBlock=v.ownBlock ∨ v1.ownBlock=some W.heap.size):=by
  rcases A with _|ad
  ·have h0:m=0:=by
    rcases Nat.eq_zero_or_pos m with h0|h0
    ·exact h0
    ·obtain ⟨ad,h,_⟩:=HR.2.2 h0
     cases h
   subst h0
   obtain rfl:qs=[]:=List.eq_nil_of_length_eq_zero hm
   refine ⟨v,W,?_,⟨inner,by simpa using hown,by simpa using hr0⟩,World.grownBy.refl W _,.inl rfl⟩
   rcases hown.2 with ⟨rfl,hn⟩|⟨g,cap,cur,rfl,_,_,hnc,_⟩
   ·simp [Builtin.append_,run_underlying ht,sizeOf,typeInfo,hi,Builtin.lenOf,Builtin.firstCells]
   ·simp [Builtin.append_,run_underlying ht,sizeOf,typeInfo,hi,Builtin.lenOf,Builtin.firstCells,hnc,storeCells]
  ·obtain ⟨news,hrn,hcells⟩:=HR.inner_
   obtain ⟨v1,w1,hr,h2,h3,_,h5⟩:=run_append_own_at (P:=P) W base t o.type e i0 z size bytes ht hi hz0 hz1 hz2 hz hs0 v ps.length inner hown ad m c news (by rw [hrn.1,hm]) hcells
    (reps_one hrn hs0 h1) (by simp only [maxLen];omega) hl hbase
   exact ⟨v1,w1,hr,⟨inner++news,by rw [List.length_append,hm];exact h2,Kd.reps_append hr0 hrn⟩,h3,h5⟩
 obtain ⟨v1,w1,hr,hown1,hg,hat⟩:=hrun
 refine wpList_plain hgd fun K hK => ?_
 unfold Oper.wp execOp
 simp only [ho,resolve,invoke,builtin,Sem.run_bind,Sem.run_pure,Result.andThen_ok,List.map_toArray,List.map_cons,List.map_nil,hs,hx,hr]
 refine hK _ _ (h v1 w1 hown1 (HB.grown hg hbase (own_base hown)) hg ?_)
 rcases hat with hat|hat
 ·exact .inl hat
 ·exact .inr ⟨_,hat,Nat.le_refl _⟩
end
theorem one_any (x:CN) (A1:Option Addr) (c1:Nat) (w:World) (hC:Kd.C k28 w A1 x.f1.length x.f1) (hc1:x.f1.length≤c1) (hLd:LaidAt w) :
  Calls Tryz.prog 72 #[.agg #[.int .i64 x.f0,.slice A1 x.f1.length c1,.int .i64 x.f2,.int .u64 x.f3,.string x.f4,.int .u64 x.f5]] w fun e w' => e=.returned (.bool (oneS x))∧Below w.heap.size w w':=by
 obtain ⟨k,hk⟩:=Ev.rounds (one_ev x)
 exact types_one.calls k x.f0 A1 c1 x.f1 x.f2 x.f3 x.f4 x.f5 (oneS x) w hC hc1 hLd hk
/-! ### types.count's queue -/
def cntT (x:CN) (t:Int):Int:=if x.f0=4 then t+1 else t
structure QInv (w0 w:World) (v:Value) (q:List CN) (t:Int):Prop where
 cQ:w.heap[w0.heap.size+2]?=some (.cells #[v] 26 (0,0))
 cT:w.heap[w0.heap.size+3]?=some (.cells #[.int .i64 t] 3 (0,0))
 row:OwnRow (k28.K w0) 28 6 w (w0.heap.size+1) v q
 below:Below w0.heap.size w0 w
theorem QInv.lt {w0 w:World} {v:Value} {q:List CN} {t:Int} (h:QInv w0 w v q t):w0.heap.size+4≤w.heap.size:=by have:=blk_lt h.cT;omega
theorem QInv.grown {w0 w w':World} {v:Value} {q:List CN} {t:Int} (h:QInv w0 w v q t) (hb:Below w.heap.size w w'):QInv w0 w' v q t :=
 ⟨blk_below h.cQ hb,blk_below h.cT hb,h.row.below hb,h.below.trans (hb.mono (by have:=h.lt;omega))⟩
theorem QInv.count {w0 w:World} {v:Value} {q:List CN} {t:Int} (h:QInv w0 w v q t) (t':Int):QInv w0 (w.setCell ⟨w0.heap.size+3,0,none⟩ (.int .i64 t')) v q t' :=
 ⟨blk_far h.cQ (p:=⟨w0.heap.size+3,0,none⟩) (by show w0.heap.size+2 ≠ w0.heap.size+3;omega) _,blk_put h.cT 0 _ rfl,h.row.set_ h.cT (by decide) _ _,h.below.setCell (by show w0.heap.size≤w0.heap.size+3;omega) _⟩
theorem QInv.put {w0 w w5:World} {v v1:Value} {q q1:List CN} {t:Int} (h:QInv w0 w v q t) (h1:OwnRow (k28.K w0) 28 6 w5 (w0.heap.size+1) v1 q1) (hg:w.grownBy w5 v.ownBlock) (hb:Below w0.heap.size w0 w5):QInv w0 (w5.setCell ⟨w0.heap.size+2,0,none⟩ v1) v1 q1 t:=by
 have hl:=h.lt
 have e2:w5.heap[w0.heap.size+2]?=some (.cells #[v] 26 (0,0)):=(hg.block _ (by omega) (h.row.ne_block h.cQ (by decide))).trans h.cQ
 have e3:w5.heap[w0.heap.size+3]?=some (.cells #[.int .i64 t] 3 (0,0)):=(hg.block _ (by omega) (h.row.ne_block h.cT (by decide))).trans h.cT
 exact ⟨blk_put e2 0 v1 rfl,blk_far e3 (p:=⟨w0.heap.size+2,0,none⟩) (by show w0.heap.size+3 ≠ w0.heap.size+2;omega) _,h1.set_ e2 (by decide) _ _,hb.setCell (by show w0.heap.size≤w0.heap.size+2;omega) _⟩
set_option maxHeartbeats 6400000 in
set_option maxRecDepth 100000 in
theorem see_bad (w0 w:World) (x:CN) (A1:Option Addr) (c1:Nat) (v:Value) (q:List CN) (t:Int) (h:QInv w0 w v q t) (hLd:LaidAt w0) (hC:Kd.C k28 w0 A1 x.f1.length x.f1) (hc1:x.f1.length≤c1) (hq:q.length≤100) (ht0:0≤t) (ht:t≤1000) (hn:100 - q.length<x.f1.length) :
  Calls Tryz.prog 71 #[.agg #[.int .i64 x.f0,.slice A1 x.f1.length c1,.int .i64 x.f2,.int .u64 x.f3,.string x.f4,.int .u64 x.f5],.pointer (some ⟨w0.heap.size+3,0,none⟩),.pointer (some ⟨w0.heap.size+2,0,none⟩)] w fun e w' => e=.returned (.bool false)∧Below w0.heap.size w0 w':=by
 have hlt:=h.lt
 have hb0:Below w.heap.size w (w.alloc (.cells #[.int .i64 x.f0,.slice A1 x.f1.length c1,.int .i64 x.f2,.int .u64 x.f3,.string x.f4,.int .u64 x.f5] 28)):=(Below.refl _ _).alloc (Nat.le_refl _) _
 have HI:=Aside0.mk (h.grown hb0)
 have HZ:=Aside0.mk (blk_new w (.cells #[.int .i64 x.f0,.slice A1 x.f1.length c1,.int .i64 x.f2,.int .u64 x.f3,.string x.f4,.int .u64 x.f5] 28))
 have HC:=Aside0.mk hC
 have HC1:=Aside0.mk hc1
 have HLD:=Aside0.mk hLd
 have HLT:=Aside0.mk hlt
 have HN:=Aside0.mk hn
 have HQ:=Aside0.mk hq
 have t1:wrap64 (t+1)=t+1:=by unfold wrap64;omega
 obtain ⟨Aq,cq,ev,_⟩:=h.row.slice_
 have EV:=Aside0.mk ev
 have HOWN:=Aside0.mk (show ∀ k,v.ownBlock=some k→k<w.heap.size from fun k hk => by obtain ⟨inner,ho,_⟩:=h.row;exact own_lt ho k hk)
 have c0:(w.alloc (.cells #[.int .i64 x.f0,.slice A1 x.f1.length c1,.int .i64 x.f2,.int .u64 x.f3,.string x.f4,.int .u64 x.f5] 28)).cell? ⟨w0.heap.size+3,0,none⟩=some (.int .i64 t):=blk_cell HI.out.cT 0
 have f0:=blk_frozen HI.out.cT 0
 clear h hb0 hC hc1 hLd hlt hn hq ev ht0 ht
 cases hk:(x.f0==4) with
 |  true =>
  have HK:=Aside0.mk (show x.f0=4 by simpa using hk)
  have HV:=Aside0.mk (show QInv w0 ((w.alloc (.cells #[.int .i64 x.f0,.slice A1 x.f1.length c1,.int .i64 x.f2,.int .u64 x.f3,.string x.f4,.int .u64 x.f5] 28)).setCell ⟨w0.heap.size+3,0,none⟩ (.int .i64 (t+1))) v q (t+1) from HI.out.count (t+1))
  have HZV:=Aside0.mk (show ((w.alloc (.cells #[.int .i64 x.f0,.slice A1 x.f1.length c1,.int .i64 x.f2,.int .u64 x.f3,.string x.f4,.int .u64 x.f5] 28)).setCell ⟨w0.heap.size+3,0,none⟩ (.int .i64 (t+1))).heap[w.heap.size]?=some (.cells #[.int .i64 x.f0,.slice A1 x.f1.length c1,.int .i64 x.f2,.int .u64 x.f3,.string x.f4,.int .u64 x.f5] 28 (0,0)) from blk_far HZ.out (p:=⟨w0.heap.size+3,0,none⟩) (by have:=HLT.out;show w.heap.size ≠ w0.heap.size+3;omega) _)
  go_enter Tryz.func71,Tryz.ntmps71
  go_upto_region 3 with (fail)
  clear c0 f0 HI HZ
  obtain ⟨V,hV⟩:∃ V,V=((w.alloc (.cells #[.int .i64 x.f0,.slice A1 x.f1.length c1,.int .i64 x.f2,.int .u64 x.f3,.string x.f4,.int .u64 x.f5] 28)).setCell ⟨w0.heap.size+3,0,none⟩ (.int .i64 (t+1))):=⟨_,rfl⟩
  rw [← hV] at HV HZV ⊢
  clear hV
  have EV:=EV.out
  subst EV
  have z1:V.cell? ⟨w.heap.size,1,none⟩=some (.slice A1 x.f1.length c1):=blk_cell HZV.out 1
  have y2:V.cell? ⟨w0.heap.size+2,0,none⟩=some (.slice Aq q.length cq):=blk_cell HV.out.cQ 0
  have hw:wrap64 (100 - (q.length:Int))=100 - (q.length:Int):=by have:=HQ.out;unfold wrap64;omega
  have hd:decide ((x.f1.length:Int)>100 - (q.length:Int))=true:=decide_eq_true (by have:=HN.out;have:=HQ.out;omega)
  have hd2:decide (100 - (q.length:Int)<(x.f1.length:Int))=true:=decide_eq_true (by have:=HN.out;have:=HQ.out;omega)
  go_wp2_with fail
  all_goals go_ret
  exact ⟨rfl,HV.out.below⟩
 |  false =>
  have HK:=Aside0.mk (show ¬ x.f0=4 by simpa using hk)
  have HV:=Aside0.mk (show QInv w0 (w.alloc (.cells #[.int .i64 x.f0,.slice A1 x.f1.length c1,.int .i64 x.f2,.int .u64 x.f3,.string x.f4,.int .u64 x.f5] 28)) v q t from HI.out)
  have HZV:=Aside0.mk (show (w.alloc (.cells #[.int .i64 x.f0,.slice A1 x.f1.length c1,.int .i64 x.f2,.int .u64 x.f3,.string x.f4,.int .u64 x.f5] 28)).heap[w.heap.size]?=some (.cells #[.int .i64 x.f0,.slice A1 x.f1.length c1,.int .i64 x.f2,.int .u64 x.f3,.string x.f4,.int .u64 x.f5] 28 (0,0)) from HZ.out)
  go_enter Tryz.func71,Tryz.ntmps71
  go_upto_region 3 with (fail)
  clear c0 f0 HI HZ
  obtain ⟨V,hV⟩:∃ V,V=(w.alloc (.cells #[.int .i64 x.f0,.slice A1 x.f1.length c1,.int .i64 x.f2,.int .u64 x.f3,.string x.f4,.int .u64 x.f5] 28)):=⟨_,rfl⟩
  rw [← hV] at HV HZV ⊢
  clear hV
  have EV:=EV.out
  subst EV
  have z1:V.cell? ⟨w.heap.size,1,none⟩=some (.slice A1 x.f1.length c1):=blk_cell HZV.out 1
  have y2:V.cell? ⟨w0.heap.size+2,0,none⟩=some (.slice Aq q.length cq):=blk_cell HV.out.cQ 0
  have hw:wrap64 (100 - (q.length:Int))=100 - (q.length:Int):=by have:=HQ.out;unfold wrap64;omega
  have hd:decide ((x.f1.length:Int)>100 - (q.length:Int))=true:=decide_eq_true (by have:=HN.out;have:=HQ.out;omega)
  have hd2:decide (100 - (q.length:Int)<(x.f1.length:Int))=true:=decide_eq_true (by have:=HN.out;have:=HQ.out;omega)
  go_wp2_with fail
  all_goals go_ret
  exact ⟨rfl,HV.out.below⟩
set_option maxHeartbeats 6400000 in
set_option maxRecDepth 100000 in
theorem see_ok (w0 w:World) (x:CN) (A1:Option Addr) (c1:Nat) (v:Value) (q:List CN) (t:Int) (h:QInv w0 w v q t) (hLd:LaidAt w0) (hC:Kd.C k28 w0 A1 x.f1.length x.f1) (hc1:x.f1.length≤c1) (hq:q.length≤100) (ht0:0≤t) (ht:t≤1000) (hn:¬ 100 - q.length<x.f1.length) :
  Calls Tryz.prog 71 #[.agg #[.int .i64 x.f0,.slice A1 x.f1.length c1,.int .i64 x.f2,.int .u64 x.f3,.string x.f4,.int .u64 x.f5],.pointer (some ⟨w0.heap.size+3,0,none⟩),.pointer (some ⟨w0.heap.size+2,0,none⟩)] w fun e w' =>∃v',e=.returned (.bool (oneS x))∧QInv w0 w' v' (q++x.f1) (cntT x t):=by
 have hlt:=h.lt
 have hb0:Below w.heap.size w (w.alloc (.cells #[.int .i64 x.f0,.slice A1 x.f1.length c1,.int .i64 x.f2,.int .u64 x.f3,.string x.f4,.int .u64 x.f5] 28)):=(Below.refl _ _).alloc (Nat.le_refl _) _
 have HI:=Aside0.mk (h.grown hb0)
 have HZ:=Aside0.mk (blk_new w (.cells #[.int .i64 x.f0,.slice A1 x.f1.length c1,.int .i64 x.f2,.int .u64 x.f3,.string x.f4,.int .u64 x.f5] 28))
 have HC:=Aside0.mk hC
 have HC1:=Aside0.mk hc1
 have HLD:=Aside0.mk hLd
 have HLT:=Aside0.mk hlt
 have HN:=Aside0.mk hn
 have HQ:=Aside0.mk hq
 have t1:wrap64 (t+1)=t+1:=by unfold wrap64;omega
 obtain ⟨Aq,cq,ev,_⟩:=h.row.slice_
 have EV:=Aside0.mk ev
 have HOWN:=Aside0.mk (show ∀ k,v.ownBlock=some k→k<w.heap.size from fun k hk => by obtain ⟨inner,ho,_⟩:=h.row;exact own_lt ho k hk)
 have c0:(w.alloc (.cells #[.int .i64 x.f0,.slice A1 x.f1.length c1,.int .i64 x.f2,.int .u64 x.f3,.string x.f4,.int .u64 x.f5] 28)).cell? ⟨w0.heap.size+3,0,none⟩=some (.int .i64 t):=blk_cell HI.out.cT 0
 have f0:=blk_frozen HI.out.cT 0
 clear h hb0 hC hc1 hLd hlt hn hq ev ht0 ht
 cases hk:(x.f0==4) with
 |  true =>
  have HK:=Aside0.mk (show x.f0=4 by simpa using hk)
  have HV:=Aside0.mk (show QInv w0 ((w.alloc (.cells #[.int .i64 x.f0,.slice A1 x.f1.length c1,.int .i64 x.f2,.int .u64 x.f3,.string x.f4,.int .u64 x.f5] 28)).setCell ⟨w0.heap.size+3,0,none⟩ (.int .i64 (t+1))) v q (t+1) from HI.out.count (t+1))
  have HZV:=Aside0.mk (show ((w.alloc (.cells #[.int .i64 x.f0,.slice A1 x.f1.length c1,.int .i64 x.f2,.int .u64 x.f3,.string x.f4,.int .u64 x.f5] 28)).setCell ⟨w0.heap.size+3,0,none⟩ (.int .i64 (t+1))).heap[w.heap.size]?=some (.cells #[.int .i64 x.f0,.slice A1 x.f1.length c1,.int .i64 x.f2,.int .u64 x.f3,.string x.f4,.int .u64 x.f5] 28 (0,0)) from blk_far HZ.out (p:=⟨w0.heap.size+3,0,none⟩) (by have:=HLT.out;show w.heap.size ≠ w0.heap.size+3;omega) _)
  go_enter Tryz.func71,Tryz.ntmps71
  go_upto_region 3 with (fail)
  clear c0 f0 HI HZ
  obtain ⟨V,hV⟩:∃ V,V=((w.alloc (.cells #[.int .i64 x.f0,.slice A1 x.f1.length c1,.int .i64 x.f2,.int .u64 x.f3,.string x.f4,.int .u64 x.f5] 28)).setCell ⟨w0.heap.size+3,0,none⟩ (.int .i64 (t+1))):=⟨_,rfl⟩
  rw [← hV] at HV HZV ⊢
  clear hV
  have EV:=EV.out
  subst EV
  have z1:V.cell? ⟨w.heap.size,1,none⟩=some (.slice A1 x.f1.length c1):=blk_cell HZV.out 1
  have y2:V.cell? ⟨w0.heap.size+2,0,none⟩=some (.slice Aq q.length cq):=blk_cell HV.out.cQ 0
  have hw:wrap64 (100 - (q.length:Int))=100 - (q.length:Int):=by have:=HQ.out;unfold wrap64;omega
  have hd:decide ((x.f1.length:Int)>100 - (q.length:Int))=false:=decide_eq_false (by have:=HN.out;have:=HQ.out;omega)
  have hd2:decide (100 - (q.length:Int)<(x.f1.length:Int))=false:=decide_eq_false (by have:=HN.out;have:=HQ.out;omega)
  have fz2:=blk_frozen HV.out.cQ 0
  go_wp2_with ((with_reducible refine gate_builtin (b:=.append) (xs:=#[.tmp 17,.tmp 19]) rfl ?_);at_builtin;refine own_append_rows (R:=k28.K w0) (w0:=V) (w0.heap.size+1) rfl (.tmp 17) (.tmp 19) 26 28 (.agg #[.int .i64 0,.slice none 0 0,.int .i64 0,.int .u64 0,.string ⟨#[]⟩,.int .u64 0]) 6 72 rfl Tryz.underlying26 infoCnd rfl (by decide) (by decide) (.slice Aq q.length cq) q x.f1 A1 x.f1.length c1 rfl rfl kK_one HV.out.row ?aR ?aB ?aS ?aL ?_)
  case aR => exact HC.out.imp_ HV.out.below (fun _ _ hp => hp)
  case aB => exact Below.refl _ _
  case aS => have:=HV.out.lt;omega
  case aL => have:=HN.out;have:=HQ.out;omega
  intro v1 w5 hR5 hb5 hg5 _
  obtain ⟨A5,c5,e5,_⟩:=hR5.slice_
  subst e5
  obtain ⟨nq,hnq⟩:∃ n,n=(q++x.f1).length:=⟨_,rfl⟩
  rw [← hnq] at hR5 ⊢
  clear hnq
  have hV5:=HV.out.put hR5 hg5 (HV.out.below.trans (hb5.mono (by omega)))
  have hZ5:w5.heap[w.heap.size]?=some (.cells #[.int .i64 x.f0,.slice A1 x.f1.length c1,.int .i64 x.f2,.int .u64 x.f3,.string x.f4,.int .u64 x.f5] 28 (0,0)):=(hg5.block _ (blk_lt HZV.out) (fun e => by have:=HOWN.out _ e.symm;omega)).trans HZV.out
  have hQ5:w5.heap[w0.heap.size+2]?=some (.cells #[.slice Aq q.length cq] 26 (0,0)):=(hg5.block _ (by have:=HV.out.lt;omega) (HV.out.row.ne_block HV.out.cQ (by decide))).trans HV.out.cQ
  have hZ6:=blk_far hZ5 (p:=⟨w0.heap.size+2,0,none⟩) (by have:=HLT.out;show w.heap.size ≠ w0.heap.size+2;omega) (.slice A5 nq c5)
  have HV5:=Aside0.mk hV5
  have HZ6:=Aside0.mk hZ6
  have q2:w5.cell? ⟨w0.heap.size+2,0,none⟩=some (.slice Aq q.length cq):=blk_cell hQ5 0
  have q3:=blk_frozen hQ5 0
  clear hR5 hb5 hg5 hV5 hZ5 hQ5 hZ6 z1 y2 fz2
  go_upto_region 6 with (fail)
  clear q2 q3
  obtain ⟨U,hU⟩:∃ U,U=w5.setCell ⟨w0.heap.size+2,0,none⟩ (.slice A5 nq c5):=⟨_,rfl⟩
  rw [← hU] at HV5 HZ6 ⊢
  clear hU
  have y0:U.cell? ⟨w.heap.size,0,none⟩=some (.int .i64 x.f0):=blk_cell HZ6.out 0
  have y1:U.cell? ⟨w.heap.size,1,none⟩=some (.slice A1 x.f1.length c1):=blk_cell HZ6.out 1
  have y2:U.cell? ⟨w.heap.size,2,none⟩=some (.int .i64 x.f2):=blk_cell HZ6.out 2
  have y3:U.cell? ⟨w.heap.size,3,none⟩=some (.int .u64 x.f3):=blk_cell HZ6.out 3
  have y4:U.cell? ⟨w.heap.size,4,none⟩=some (.string x.f4):=blk_cell HZ6.out 4
  have y5:U.cell? ⟨w.heap.size,5,none⟩=some (.int .u64 x.f5):=blk_cell HZ6.out 5
  go_wp2_with fail
  go_at_call 72
  refine (one_any x A1 c1 U (Kd.C_below HC.out HV5.out.below) HC1.out (LaidAt.of HLD.out HV5.out.below)).mono ?_
  rintro e w6 ⟨rfl,hb6⟩
  have HV6:=Aside0.mk (HV5.out.grown hb6)
  go_wp2_with fail
  all_goals go_ret
  exact ⟨_,rfl,by unfold cntT;rw [if_pos HK.out];exact HV6.out⟩
 |  false =>
  have HK:=Aside0.mk (show ¬ x.f0=4 by simpa using hk)
  have HV:=Aside0.mk (show QInv w0 (w.alloc (.cells #[.int .i64 x.f0,.slice A1 x.f1.length c1,.int .i64 x.f2,.int .u64 x.f3,.string x.f4,.int .u64 x.f5] 28)) v q t from HI.out)
  have HZV:=Aside0.mk (show (w.alloc (.cells #[.int .i64 x.f0,.slice A1 x.f1.length c1,.int .i64 x.f2,.int .u64 x.f3,.string x.f4,.int .u64 x.f5] 28)).heap[w.heap.size]?=some (.cells #[.int .i64 x.f0,.slice A1 x.f1.length c1,.int .i64 x.f2,.int .u64 x.f3,.string x.f4,.int .u64 x.f5] 28 (0,0)) from HZ.out)
  go_enter Tryz.func71,Tryz.ntmps71
  go_upto_region 3 with (fail)
  clear c0 f0 HI HZ
  obtain ⟨V,hV⟩:∃ V,V=(w.alloc (.cells #[.int .i64 x.f0,.slice A1 x.f1.length c1,.int .i64 x.f2,.int .u64 x.f3,.string x.f4,.int .u64 x.f5] 28)):=⟨_,rfl⟩
  rw [← hV] at HV HZV ⊢
  clear hV
  have EV:=EV.out
  subst EV
  have z1:V.cell? ⟨w.heap.size,1,none⟩=some (.slice A1 x.f1.length c1):=blk_cell HZV.out 1
  have y2:V.cell? ⟨w0.heap.size+2,0,none⟩=some (.slice Aq q.length cq):=blk_cell HV.out.cQ 0
  have hw:wrap64 (100 - (q.length:Int))=100 - (q.length:Int):=by have:=HQ.out;unfold wrap64;omega
  have hd:decide ((x.f1.length:Int)>100 - (q.length:Int))=false:=decide_eq_false (by have:=HN.out;have:=HQ.out;omega)
  have hd2:decide (100 - (q.length:Int)<(x.f1.length:Int))=false:=decide_eq_false (by have:=HN.out;have:=HQ.out;omega)
  have fz2:=blk_frozen HV.out.cQ 0
  go_wp2_with ((with_reducible refine gate_builtin (b:=.append) (xs:=#[.tmp 17,.tmp 19]) rfl ?_);at_builtin;refine own_append_rows (R:=k28.K w0) (w0:=V) (w0.heap.size+1) rfl (.tmp 17) (.tmp 19) 26 28 (.agg #[.int .i64 0,.slice none 0 0,.int .i64 0,.int .u64 0,.string ⟨#[]⟩,.int .u64 0]) 6 72 rfl Tryz.underlying26 infoCnd rfl (by decide) (by decide) (.slice Aq q.length cq) q x.f1 A1 x.f1.length c1 rfl rfl kK_one HV.out.row ?aR ?aB ?aS ?aL ?_)
  case aR => exact HC.out.imp_ HV.out.below (fun _ _ hp => hp)
  case aB => exact Below.refl _ _
  case aS => have:=HV.out.lt;omega
  case aL => have:=HN.out;have:=HQ.out;omega
  intro v1 w5 hR5 hb5 hg5 _
  obtain ⟨A5,c5,e5,_⟩:=hR5.slice_
  subst e5
  obtain ⟨nq,hnq⟩:∃ n,n=(q++x.f1).length:=⟨_,rfl⟩
  rw [← hnq] at hR5 ⊢
  clear hnq
  have hV5:=HV.out.put hR5 hg5 (HV.out.below.trans (hb5.mono (by omega)))
  have hZ5:w5.heap[w.heap.size]?=some (.cells #[.int .i64 x.f0,.slice A1 x.f1.length c1,.int .i64 x.f2,.int .u64 x.f3,.string x.f4,.int .u64 x.f5] 28 (0,0)):=(hg5.block _ (blk_lt HZV.out) (fun e => by have:=HOWN.out _ e.symm;omega)).trans HZV.out
  have hQ5:w5.heap[w0.heap.size+2]?=some (.cells #[.slice Aq q.length cq] 26 (0,0)):=(hg5.block _ (by have:=HV.out.lt;omega) (HV.out.row.ne_block HV.out.cQ (by decide))).trans HV.out.cQ
  have hZ6:=blk_far hZ5 (p:=⟨w0.heap.size+2,0,none⟩) (by have:=HLT.out;show w.heap.size ≠ w0.heap.size+2;omega) (.slice A5 nq c5)
  have HV5:=Aside0.mk hV5
  have HZ6:=Aside0.mk hZ6
  have q2:w5.cell? ⟨w0.heap.size+2,0,none⟩=some (.slice Aq q.length cq):=blk_cell hQ5 0
  have q3:=blk_frozen hQ5 0
  clear hR5 hb5 hg5 hV5 hZ5 hQ5 hZ6 z1 y2 fz2
  go_upto_region 6 with (fail)
  clear q2 q3
  obtain ⟨U,hU⟩:∃ U,U=w5.setCell ⟨w0.heap.size+2,0,none⟩ (.slice A5 nq c5):=⟨_,rfl⟩
  rw [← hU] at HV5 HZ6 ⊢
  clear hU
  have y0:U.cell? ⟨w.heap.size,0,none⟩=some (.int .i64 x.f0):=blk_cell HZ6.out 0
  have y1:U.cell? ⟨w.heap.size,1,none⟩=some (.slice A1 x.f1.length c1):=blk_cell HZ6.out 1
  have y2:U.cell? ⟨w.heap.size,2,none⟩=some (.int .i64 x.f2):=blk_cell HZ6.out 2
  have y3:U.cell? ⟨w.heap.size,3,none⟩=some (.int .u64 x.f3):=blk_cell HZ6.out 3
  have y4:U.cell? ⟨w.heap.size,4,none⟩=some (.string x.f4):=blk_cell HZ6.out 4
  have y5:U.cell? ⟨w.heap.size,5,none⟩=some (.int .u64 x.f5):=blk_cell HZ6.out 5
  go_wp2_with fail
  go_at_call 72
  refine (one_any x A1 c1 U (Kd.C_below HC.out HV5.out.below) HC1.out (LaidAt.of HLD.out HV5.out.below)).mono ?_
  rintro e w6 ⟨rfl,hb6⟩
  have HV6:=Aside0.mk (HV5.out.grown hb6)
  go_wp2_with fail
  all_goals go_ret
  exact ⟨_,rfl,by unfold cntT;rw [if_neg HK.out];exact HV6.out⟩
def cntO:Option Int→Int × Bool
 |  some t => (t,true)
 |  none => (0,false)
theorem cnt_step {i:Nat} {q:List CN} {x:CN} {t:Int} (hx:q[i]?=some x) (hq:q.length≤100):cntR (101 - i) (q.drop i) q.length t=if 100 - q.length<x.f1.length then none else if oneS x=true then cntR (101 - (i+1)) ((q++x.f1).drop (i+1)) (q++x.f1).length (cntT x t) else none:=by
 obtain ⟨hil,e⟩:=List.getElem?_eq_some_iff.1 hx
 have e1:101 - i=(101 - (i+1))+1:=by omega
 rw [e1,List.drop_eq_getElem_cons hil,e,cntR,List.length_append,List.drop_append_of_le_length (by omega)]
 rfl
set_option maxHeartbeats 6400000 in
set_option maxRecDepth 100000 in
theorem count_any (c:CN) (A:Option Addr) (cap:Nat) (w:World) (hLd:LaidAt w) (hC:Kd.C k28 w A c.f1.length c.f1) (hcap:c.f1.length≤cap) :
  Calls Tryz.prog 39 #[.agg #[.int .i64 c.f0,.slice A c.f1.length cap,.int .i64 c.f2,.int .u64 c.f3,.string c.f4,.int .u64 c.f5]] w fun e w' => e=.returned (.tuple #[.int .i64 (cntO (cntR 101 [c] 1 0)).1,.bool (cntO (cntR 101 [c] 1 0)).2])∧Below w.heap.size w w':=by
 obtain ⟨R,hR⟩:∃ R,cntO (cntR 101 [c] 1 0)=R:=⟨_,rfl⟩
 rw [hR]
 have HR:=Aside0.mk hR
 have HLD:=Aside0.mk hLd
 have HC:=Aside0.mk hC
 have HCAP:=Aside0.mk hcap
 have hmf:∀ (fn:Fn) (first cap:Array Value) (w:World),(Instr.makeFunc fn first cap).run Tryz.prog w=.ok (.func fn first cap) w:=fun _ _ _ _ => rfl
 have hB:Below w.heap.size w ((((w.alloc (.cells #[.int .i64 c.f0,.slice A c.f1.length cap,.int .i64 c.f2,.int .u64 c.f3,.string c.f4,.int .u64 c.f5] 28)).alloc (.cells #[.int .i64 c.f0,.slice A c.f1.length cap,.int .i64 c.f2,.int .u64 c.f3,.string c.f4,.int .u64 c.f5] 28)).alloc (.cells #[.slice (some ⟨w.heap.size+1,0,none⟩) 1 1] 26)).alloc (.cells #[.int .i64 0] 3)):=((((Below.refl _ _).alloc (Nat.le_refl _) _).alloc (by simp) _).alloc (by simp;omega) _).alloc (by simp;omega) _
 have hq1:(((((w.alloc (.cells #[.int .i64 c.f0,.slice A c.f1.length cap,.int .i64 c.f2,.int .u64 c.f3,.string c.f4,.int .u64 c.f5] 28)).alloc (.cells #[.int .i64 c.f0,.slice A c.f1.length cap,.int .i64 c.f2,.int .u64 c.f3,.string c.f4,.int .u64 c.f5] 28)).alloc (.cells #[.slice (some ⟨w.heap.size+1,0,none⟩) 1 1] 26)).alloc (.cells #[.int .i64 0] 3))).heap[w.heap.size+2]?=some (.cells #[.slice (some ⟨w.heap.size+1,0,none⟩) 1 1] 26 (0,0)):=blk_alloc (by have h_:=blk_new ((w.alloc (.cells #[.int .i64 c.f0,.slice A c.f1.length cap,.int .i64 c.f2,.int .u64 c.f3,.string c.f4,.int .u64 c.f5] 28)).alloc (.cells #[.int .i64 c.f0,.slice A c.f1.length cap,.int .i64 c.f2,.int .u64 c.f3,.string c.f4,.int .u64 c.f5] 28)) (.cells #[.slice (some ⟨w.heap.size+1,0,none⟩) 1 1] 26);rw [World.size_alloc,World.size_alloc] at h_;exact h_) _
 have hq2:(((((w.alloc (.cells #[.int .i64 c.f0,.slice A c.f1.length cap,.int .i64 c.f2,.int .u64 c.f3,.string c.f4,.int .u64 c.f5] 28)).alloc (.cells #[.int .i64 c.f0,.slice A c.f1.length cap,.int .i64 c.f2,.int .u64 c.f3,.string c.f4,.int .u64 c.f5] 28)).alloc (.cells #[.slice (some ⟨w.heap.size+1,0,none⟩) 1 1] 26)).alloc (.cells #[.int .i64 0] 3))).heap[w.heap.size+3]?=some (.cells #[.int .i64 0] 3 (0,0)):=by have h_:=blk_new (((w.alloc (.cells #[.int .i64 c.f0,.slice A c.f1.length cap,.int .i64 c.f2,.int .u64 c.f3,.string c.f4,.int .u64 c.f5] 28)).alloc (.cells #[.int .i64 c.f0,.slice A c.f1.length cap,.int .i64 c.f2,.int .u64 c.f3,.string c.f4,.int .u64 c.f5] 28)).alloc (.cells #[.slice (some ⟨w.heap.size+1,0,none⟩) 1 1] 26)) (.cells #[.int .i64 0] 3);rw [World.size_alloc,World.size_alloc,World.size_alloc] at h_;exact h_
 have hrow:OwnRow (k28.K w) 28 6 ((((w.alloc (.cells #[.int .i64 c.f0,.slice A c.f1.length cap,.int .i64 c.f2,.int .u64 c.f3,.string c.f4,.int .u64 c.f5] 28)).alloc (.cells #[.int .i64 c.f0,.slice A c.f1.length cap,.int .i64 c.f2,.int .u64 c.f3,.string c.f4,.int .u64 c.f5] 28)).alloc (.cells #[.slice (some ⟨w.heap.size+1,0,none⟩) 1 1] 26)).alloc (.cells #[.int .i64 0] 3)) (w.heap.size+1) (.slice (some ⟨w.heap.size+1,0,none⟩) 1 1) [c]:=by
  have hr:Reps (k28.K w) 6 [c] [.int .i64 c.f0,.slice A c.f1.length cap,.int .i64 c.f2,.int .u64 c.f3,.string c.f4,.int .u64 c.f5]:=by
   refine ⟨rfl,fun j p hj => ?_⟩
   cases j with
   |  zero =>
    simp only [List.getElem?_cons_zero,Option.some.injEq] at hj
    subst hj
    exact k28_mk w c hcap hC
   |  succ j => simp at hj
  have h_:=OwnRow.lit (e:=28) (w.alloc (.cells #[.int .i64 c.f0,.slice A c.f1.length cap,.int .i64 c.f2,.int .u64 c.f3,.string c.f4,.int .u64 c.f5] 28)) (w.heap.size+1) hr (by simp) (by simp)
  rw [World.size_alloc] at h_
  exact (h_.below ((Below.refl _ _).alloc (Nat.le_refl _) _)).below ((Below.refl _ _).alloc (Nat.le_refl _) _)
 have HI:=Aside0.mk (show QInv w ((((w.alloc (.cells #[.int .i64 c.f0,.slice A c.f1.length cap,.int .i64 c.f2,.int .u64 c.f3,.string c.f4,.int .u64 c.f5] 28)).alloc (.cells #[.int .i64 c.f0,.slice A c.f1.length cap,.int .i64 c.f2,.int .u64 c.f3,.string c.f4,.int .u64 c.f5] 28)).alloc (.cells #[.slice (some ⟨w.heap.size+1,0,none⟩) 1 1] 26)).alloc (.cells #[.int .i64 0] 3)) (.slice (some ⟨w.heap.size+1,0,none⟩) 1 1) [c] 0 from ⟨hq1,hq2,hrow,hB⟩)
 clear hR hLd hC hcap hB hq1 hq2 hrow
 go_enter Tryz.func39,Tryz.ntmps39
 go_upto_region 2 with (fail)
 obtain ⟨V,hV⟩:∃ V,V=((((w.alloc (.cells #[.int .i64 c.f0,.slice A c.f1.length cap,.int .i64 c.f2,.int .u64 c.f3,.string c.f4,.int .u64 c.f5] 28)).alloc (.cells #[.int .i64 c.f0,.slice A c.f1.length cap,.int .i64 c.f2,.int .u64 c.f3,.string c.f4,.int .u64 c.f5] 28)).alloc (.cells #[.slice (some ⟨w.heap.size+1,0,none⟩) 1 1] 26)).alloc (.cells #[.int .i64 0] 3)):=⟨_,rfl⟩
 rw [← hV] at HI ⊢
 clear hV
 go_wp2_with fail
 go_loopw [7] (fun v7 wr =>∃(i:Nat) (v:Value) (q:List CN) (t:Int),v7=.int .i64 i∧Aside0 (i≤q.length)∧Aside0 (q.length≤100)∧Aside0 (0≤t∧t≤i)∧Aside0 (QInv w wr v q t)∧Aside0 (cntO (cntR (101 - i) (q.drop i) q.length t)=R)) (fun v7 _ => 101 - (intOf v7).toNat)
 case atStart => exact ⟨0,_,[c],0,rfl,⟨Nat.zero_le _⟩,⟨by simp⟩,⟨Int.le_refl _,Int.le_refl _⟩,HI,HR⟩
 case round =>
  obtain ⟨i,v,q,t,rfl,hi,hq,ht,hI,hR⟩:=hrel
  obtain ⟨Aq,cq,ev,_,hRR⟩:=hI.out.row.reads
  subst ev
  have HQR:=Aside0.mk hRR
  have y2:wr.cell? ⟨w.heap.size+1+1,0,none⟩=some (.slice Aq q.length cq):=blk_cell hI.out.cQ 0
  have y3:wr.cell? ⟨w.heap.size+1+1+1,0,none⟩=some (.int .i64 t):=blk_cell hI.out.cT 0
  clear hRR
  by_cases hil:i<q.length
  ·have hd:decide ((i:Int)<(q.length:Int))=true:=decide_eq_true (by omega)
   have hdn:(i<q.length)=True:=eq_true hil
   have hi0:(0≤(i:Int))=True:=eq_true (Int.natCast_nonneg i)
   have hi1:((i:Int)<(q.length:Int))=True:=eq_true (by omega)
   obtain ⟨b,o,rfl,hbw,hxs⟩:=CR_open HQR.out (by omega)
   obtain ⟨x,hx⟩:∃ x,q[i]?=some x:=⟨_,List.getElem?_eq_getElem hil⟩
   obtain ⟨A1,c1,x0,x1,x2,x3,x4,x5,hc1,hC1⟩:=hxs i x hx
   have HST:=Aside0.mk ((congrArg cntO (cnt_step hx hq.out)).symm.trans hR.out)
   have HIL:=Aside0.mk hil
   have HC1:=Aside0.mk hC1
   have HCC:=Aside0.mk hc1
   clear hxs hx hil hc1 hC1 hR HQR hbw
   by_cases hov:100 - q.length<x.f1.length
   ·have SEE:=Aside0.mk (show Calls Tryz.prog 71 #[.agg #[.int .i64 x.f0,.slice A1 x.f1.length c1,.int .i64 x.f2,.int .u64 x.f3,.string x.f4,.int .u64 x.f5],.pointer (some ⟨w.heap.size+1+1+1,0,none⟩),.pointer (some ⟨w.heap.size+1+1,0,none⟩)] wr fun e w' => e=.returned (.bool false)∧Below w.heap.size w w' from see_bad w wr x A1 c1 _ q t hI.out HLD.out HC1.out HCC.out hq.out ht.out.1 (by have:=ht.out.2;have:=hi.out;have:=hq.out;omega) hov)
    rw [if_pos hov] at HST
    have HS1:=HST.out
    unfold cntO at HS1
    subst HS1
    clear hov HST
    go_wp2_with ((with_reducible refine SEE.out.mono ?_);rintro e w3 ⟨rfl,hb3⟩)
    all_goals go_ret2
    exact ⟨rfl,hb3⟩
   ·have SEE:=Aside0.mk (show Calls Tryz.prog 71 #[.agg #[.int .i64 x.f0,.slice A1 x.f1.length c1,.int .i64 x.f2,.int .u64 x.f3,.string x.f4,.int .u64 x.f5],.pointer (some ⟨w.heap.size+1+1+1,0,none⟩),.pointer (some ⟨w.heap.size+1+1,0,none⟩)] wr fun e w' =>∃v',e=.returned (.bool (oneS x))∧QInv w w' v' (q++x.f1) (cntT x t) from see_ok w wr x A1 c1 _ q t hI.out HLD.out HC1.out HCC.out hq.out ht.out.1 (by have:=ht.out.2;have:=hi.out;have:=hq.out;omega) hov)
    rw [if_neg hov] at HST
    have HOV:=Aside0.mk hov
    clear hov
    cases ho:oneS x with
    |  true =>
     rw [ho,if_pos rfl] at HST
     rw [ho] at SEE
     clear ho
     go_wp2_with ((with_reducible refine SEE.out.mono ?_);rintro e w3 ⟨v',rfl,hI3⟩)
     go_roundw
     case rel =>
      have:=HIL.out
      have:=HOV.out
      have:=hq.out
      refine ⟨i+1,v',q++x.f1,cntT x t,by rw [show wrap64 ((i:Int)+1)=((i+1:Nat):Int) by unfold wrap64;omega],⟨by rw [List.length_append];omega⟩,⟨by rw [List.length_append];omega⟩,⟨?_⟩,⟨hI3⟩,HST⟩
      have:=ht.out
      unfold cntT
      split<;>omega
     case measure =>
      have:=HIL.out
      have:=hq.out
      rw [show wrap64 ((i:Int)+1)=((i+1:Nat):Int) by unfold wrap64;omega]
      simp only [intOf,Int.toNat_natCast]
      omega
    |  false =>
     rw [ho,if_neg (by decide)] at HST
     rw [ho] at SEE
     have HS1:=HST.out
     unfold cntO at HS1
     subst HS1
     clear ho HST
     go_wp2_with ((with_reducible refine SEE.out.mono ?_);rintro e w3 ⟨v',rfl,hI3⟩)
     all_goals go_ret2
     exact ⟨rfl,hI3.below⟩
  ·have hd:decide ((i:Int)<(q.length:Int))=false:=decide_eq_false (by omega)
   have hdn:(i<q.length)=False:=eq_false hil
   have HS:=hR.out
   have e1:101 - i=(100 - i)+1:=by have:=hq.out;have:=hi.out;omega
   rw [List.drop_of_length_le (by omega),e1] at HS
   have HS1:(t,true)=R:=HS
   subst HS1
   clear HS e1 hR hil HQR
   go_wp2_with fail
   all_goals go_ret2
   exact ⟨rfl,hI.out.below⟩

def types_count.f (a0_0:Int) (l0_1:List CN) (a0_2:Int) (a0_3:Int) (a0_4:ByteArray) (a0_5:Int):Option (Int × Bool):=some (cntO (cntR 101 [⟨a0_0,l0_1,a0_2,a0_3,a0_4,a0_5⟩] 1 0))
theorem types_count.calls (a0_0:Int) (A0_1:Option Addr) (c0_1:Nat) (l0_1:List (S28)) (a0_2:Int) (a0_3:Int) (a0_4:ByteArray) (a0_5:Int) (r1:Int) (r2:Bool) (w:World) (hr0_1:Kd.C k28 w A0_1 l0_1.length l0_1) (hc0_1:l0_1.length≤c0_1) (hLd:LaidAt w) (h:types_count.f a0_0 l0_1 a0_2 a0_3 a0_4 a0_5=some (r1,r2)) :
  Calls Tryz.prog 39 #[.agg #[.int .i64 a0_0,.slice A0_1 l0_1.length c0_1,.int .i64 a0_2,.int .u64 a0_3,.string a0_4,.int .u64 a0_5]] w fun e w' => e=.returned (.tuple #[.int .i64 r1,.bool r2])∧Below w.heap.size w w':=by
 have e:=Option.some.inj h
 have h_:=count_any ⟨a0_0,l0_1,a0_2,a0_3,a0_4,a0_5⟩ A0_1 c0_1 w hLd hr0_1 hc0_1
 rw [e] at h_
 exact h_

/-! ### types_Right: function 22 -/
def types_Right.f (a0_0:Int) (l0_1:List (S28)) (a0_2:Int) (a0_3:Int) (a0_4:ByteArray) (a0_5:Int):Option (Bool):=(types_count.f a0_0 l0_1 a0_2 a0_3 a0_4 a0_5).bind fun bt112 => (some bt112.2)
set_option maxHeartbeats 8000000 in
set_option maxRecDepth 100000 in
theorem types_Right.calls (a0_0:Int) (A0_1:Option Addr) (c0_1:Nat) (l0_1:List (S28)) (a0_2:Int) (a0_3:Int) (a0_4:ByteArray) (a0_5:Int) (r:Bool) (w:World) (hr0_1:Kd.C k28 w A0_1 l0_1.length l0_1) (hc0_1:l0_1.length≤c0_1) (hLd:LaidAt w) (h:types_Right.f a0_0 l0_1 a0_2 a0_3 a0_4 a0_5=some r) :
  Calls Tryz.prog 22 #[.agg #[.int .i64 a0_0,.slice A0_1 l0_1.length c0_1,.int .i64 a0_2,.int .u64 a0_3,.string a0_4,.int .u64 a0_5]] w fun e w' => e=.returned (.bool r)∧Below w.heap.size w w':=by
 have hu28:=Tryz.underlying28
 have HLD:=Aside0.mk hLd
 clear hLd
 have HR0_1:=Aside0.mk hr0_1
 have HC0_1:=Aside0.mk hc0_1
 clear hr0_1 hc0_1
 have HB:=Aside0.mk (Below.refl w.heap.size w)
 have H:((types_count.f a0_0 l0_1 a0_2 a0_3 a0_4 a0_5).bind fun bt112 => (some bt112.2))=some r:=h
 clear h
 replace H:=Option.bind_eq_some_iff.mp H
 obtain ⟨⟨t112,t113⟩,A20,H⟩:=H
 replace H:(some t113)=some r:=H
 have A2:=Aside0.mk A20
 clear A20
 obtain rfl:=Option.some.inj H
 go_enter Tryz.func22,Tryz.ntmps22
 go_wp2_with (first|((with_reducible refine gate_dst (N:=1) rfl ?_);refine box_event ?hg (N:=1) ?hd (cs:=#[.int .i64 a0_0,.slice A0_1 l0_1.length c0_1,.int .i64 a0_2,.int .u64 a0_3,.string a0_4,.int .u64 a0_5]) (t:=28) ?hr ?_;(case hd => rfl);(case hg => rfl);(case hr => first|(go_simp;done)|(go_simp;rfl));intro gb111 hg w3 hbox hb;have n0_:=Aside0.mk (below_step (by repeat (with_reducible first|exact HB.out|apply below_alloc|apply pw_below_drewN|apply below_drew1)) hb);have n1_:=Aside0.mk (hbox);have n2_:=Aside0.mk ((by rw [hg];exact (below_size (by repeat (with_reducible first|exact HB.out|apply below_alloc|apply pw_below_drewN|apply below_drew1))):w.heap.size≤gb111));have n3_:=Aside0.mk ((by rw [hg];exact (below_size (by repeat (with_reducible first|exact HB.out|apply below_alloc|apply pw_below_drewN|apply below_drew1))):w.heap.size≤gb111));clear HB;have HB:=n0_;have BK111:=n1_;have GW111:=n2_;have GE111:=n3_;clear n0_ n1_ n2_ n3_;clear hb hbox hg;have hcz4_0:w3.cell? ⟨gb111,0,none⟩=some (.int .i64 a0_0):=(blk_cell BK111.out 0).trans rfl;have hcz4_1:w3.cell? ⟨gb111,1,none⟩=some (.slice A0_1 l0_1.length c0_1):=(blk_cell BK111.out 1).trans rfl;have hcz4_2:w3.cell? ⟨gb111,2,none⟩=some (.int .i64 a0_2):=(blk_cell BK111.out 2).trans rfl;have hcz4_3:w3.cell? ⟨gb111,3,none⟩=some (.int .u64 a0_3):=(blk_cell BK111.out 3).trans rfl;have hcz4_4:w3.cell? ⟨gb111,4,none⟩=some (.string a0_4):=(blk_cell BK111.out 4).trans rfl;have hcz4_5:w3.cell? ⟨gb111,5,none⟩=some (.int .u64 a0_5):=(blk_cell BK111.out 5).trans rfl;have hfz4_0:=blk_frozen BK111.out 0;have hfz4_1:=blk_frozen BK111.out 1;have hfz4_2:=blk_frozen BK111.out 2;have hfz4_3:=blk_frozen BK111.out 3;have hfz4_4:=blk_frozen BK111.out 4;have hfz4_5:=blk_frozen BK111.out 5)|((with_reducible refine gate_callee (f:=39) rfl ?_);refine goesL_ (some 7) rfl rfl Tryz.func39 (by kernel_rfl) rfl #[.agg #[.int .i64 a0_0,.slice A0_1 l0_1.length c0_1,.int .i64 a0_2,.int .u64 a0_3,.string a0_4,.int .u64 a0_5]] rfl (by (try simp only [List.map_toArray,List.map_cons,List.map_nil]);first|done|rfl|(simp only [List.length_drop,List.length_take];rfl)) ?_;(with_reducible refine (types_count.calls a0_0 _ _ l0_1 a0_2 a0_3 a0_4 a0_5 t112 t113 _ ?side1 ?side2 ?side3 A2.out).mono ?_);(case side1 => repeat (first|exact (Kd.C_below HR0_1.out HB.out)|(with_reducible refine Kd.C_alloc ?_ _)|(with_reducible refine Kd.C_drewN ?_ _)|(with_reducible refine Kd.C_drew ?_)));(case side2 => exact HC0_1.out);(case side3 => exact LaidAt.of HLD.out (by repeat (first|(with_reducible first|exact HB.out|apply below_alloc|apply pw_below_drewN|apply below_drew1|refine below_set ?_ GE111.out)|exact HB.out)));rintro e w5 ⟨rfl,hb⟩;refine ⟨_,rfl,?_⟩;have n0_:=Aside0.mk (blk_below (g:=gb111) (o:=.cells #[.int .i64 a0_0,.slice A0_1 l0_1.length c0_1,.int .i64 a0_2,.int .u64 a0_3,.string a0_4,.int .u64 a0_5] 28 (0,0)) (by (with_reducible repeat (first|refine zN ?_|refine zD ?_|refine zA ?_));exact BK111.out) hb);have n1_:=Aside0.mk (below_step (by repeat (first|(with_reducible first|exact HB.out|apply below_alloc|apply pw_below_drewN|apply below_drew1|refine below_set ?_ GE111.out)|exact HB.out)) hb);clear BK111;clear HB;have BK111:=n0_;have HB:=n1_;clear n0_ n1_;(try clear hb);(try clear hb2);(try clear hk);(try clear hi)))
 go_ret
 exact ⟨by first|rfl|(simp [errW_none,errW_some]<;>rfl)|(simp [*,errW_none,errW_some]<;>rfl),by repeat (first|(with_reducible first|exact HB.out|apply below_alloc|apply pw_below_drewN|apply below_drew1|refine below_set ?_ GE111.out)|exact HB.out)⟩

/-! ### strconv_Itoa: function 25 -/
theorem itoa_any (n:Int) (h0:-9223372036854775808≤n) (h1:n≤9223372036854775807) (w:World) (hLd:LaidAt w) :
  Calls Tryz.prog 25 #[.int .i64 n] w fun e w' => e=.returned (.string ⟨(Lib.itoa n).toArray⟩)∧Below w.heap.size w w':=by
 obtain ⟨g,_,_,ht⟩:=hLd.pow
 refine (Tryz.strconv_Itoa n h0 h1 w ht).mono ?_
 rintro e w' ⟨h1,k,os,rfl⟩
 exact ⟨h1,Lib.below_grow _ w (Nat.le_refl _) k os⟩
def strconv_Itoa.f (a0:Int):Option ByteArray:=if -9223372036854775808≤a0∧a0≤9223372036854775807 then some ⟨(Lib.itoa a0).toArray⟩ else none
theorem strconv_Itoa.calls (a0:Int) (r:ByteArray) (w:World) (hLd:LaidAt w) (h:strconv_Itoa.f a0=some r) :
  Calls Tryz.prog 25 #[.int .i64 a0] w fun e w' => e=.returned (.string r)∧Below w.heap.size w w':=by
 unfold strconv_Itoa.f at h
 split at h
 ·rename_i hs
  have e:=Option.some.inj h
  rw [← e]
  exact itoa_any a0 hs.1 hs.2 w hLd
 ·cases h

/-! ### show_join: function 33 -/
/-! ### show.join: texts put together -/
theorem C_strs {w:World} {A:Option Addr} {xs:List ByteArray} (h:Kd.C Kd.string w A xs.length xs) (h0:0<xs.length):∃ bk o,A=some ⟨bk,o,none⟩∧(∀ (j:Nat) x,xs[j]?=some x→w.cell? ⟨bk,o+j,none⟩=some (.string x))∧bk<w.heap.size:=by
 obtain ⟨ad,rfl,hc⟩:=h.2.2 h0
 obtain ⟨cs0,_,r0,c0⟩:=hc 0 _ (List.getElem?_eq_getElem h0)
 have hr0:cs0=[.string xs[0]]:=r0
 subst hr0
 have h00:=c0 0 _ rfl
 obtain ⟨bk,o,sp⟩:=ad
 have hsp:sp=none:=by
  have e:(Addr.mk bk o sp).add (0 * Kd.string.sz+0)=Addr.mk bk o sp:=by simp [Addr.add]
  rw [e] at h00
  unfold World.cell? at h00
  split at h00
  ·split at h00
   ·cases h00
   ·rename_i hs;cases sp with|none => rfl|some _ => exact absurd rfl hs
  ·cases h00
 subst hsp
 refine ⟨bk,o,rfl,fun j x hj => ?_,?_⟩
 ·obtain ⟨cs,_,r,c⟩:=hc j x hj
  have hr:cs=[.string x]:=r
  subst hr
  have h1:=c 0 _ rfl
  rw [show j * Kd.string.sz+0=j from by show j * 1+0=j;omega,add_at] at h1
  exact h1
 ·have:=World.block_lt_of_cell? w _ h00
  rw [add_block] at this
  exact this
def joinT (by_:ByteArray) (xs:List ByteArray):ByteArray:=⟨(Lib.join (xs.map (·.data.toList)) by_.data.toList).toArray⟩
set_option maxHeartbeats 1600000 in
set_option maxRecDepth 100000 in
theorem join_any (by_:ByteArray) (xs:List ByteArray) (bk o c:Nat) (w:World) (hcells:∀ (j:Nat) x,xs[j]?=some x→w.cell? ⟨bk,o+j,none⟩=some (.string x)) (hbk:bk<w.heap.size) (hN:xs.length≤140737488355328) (hcap:xs.length≤c) (hlen:(joinT by_ xs).size≤140737488355328) :
  Calls Tryz.prog 33 #[.string by_,.slice (some ⟨bk,o,none⟩) xs.length c] w fun e w' => e=.returned (.string (joinT by_ xs))∧Below w.heap.size w w':=by
 have hl:(Lib.join (xs.map (·.data.toList)) by_.data.toList).length≤140737488355328:=by
  have:=hlen
  rw [Lib.size_eq] at this
  simpa [joinT] using this
 have HJ:=Aside0.mk (fun (w1:World) (hb:Below w.heap.size w w1) => Tryz.strings_Join bk o c xs by_ w1 (fun j x hx => pw_cell_below hb (hcells j x hx)) (Nat.lt_of_lt_of_le hbk hb.size) hN hcap hl)
 clear hcells hbk hN hcap hlen hl
 go_enter Tryz.func33,Tryz.ntmps33
 go_wp2_with fail
 go_at_call 61
 refine (HJ.out _ (Below.refl _ _)).mono ?_
 rintro e w1 ⟨rfl,hb⟩
 go_wp2_with fail
 all_goals go_ret
 exact ⟨rfl,hb⟩
theorem join_none (by_:ByteArray) (A:Option Addr) (c:Nat) (w:World) :
  Calls Tryz.prog 33 #[.string by_,.slice A 0 c] w fun e w' => e=.returned (.string ⟨#[]⟩)∧Below w.heap.size w w':=by
 have HJ:=Aside0.mk (fun (w1:World) => Tryz.strings_Join_none A c by_ w1)
 go_enter Tryz.func33,Tryz.ntmps33
 go_wp2_with fail
 go_at_call 61
 refine (HJ.out _).mono ?_
 rintro e w1 ⟨rfl,rfl⟩
 go_wp2_with fail
 all_goals go_ret
 exact ⟨rfl,Below.refl _ _⟩

def show_join.f (a0:ByteArray) (l1:List ByteArray):Option ByteArray:=if l1.length≤140737488355328∧(joinT a0 l1).size≤140737488355328 then some (joinT a0 l1) else none
theorem show_join.calls (a0:ByteArray) (A1:Option Addr) (c1:Nat) (l1:List ByteArray) (r:ByteArray) (w:World) (hr1:Kd.C Kd.string w A1 l1.length l1) (hc1:l1.length≤c1) (hLd:LaidAt w) (h:show_join.f a0 l1=some r) :
  Calls Tryz.prog 33 #[.string a0,.slice A1 l1.length c1] w fun e w' => e=.returned (.string r)∧Below w.heap.size w w':=by
 unfold show_join.f at h
 split at h
 ·rename_i hs
  have e:=Option.some.inj h
  rw [← e]
  cases l1 with
  |  nil => exact join_none a0 A1 c1 w
  |  cons x t =>
   obtain ⟨bk,o,rfl,hcells,hbk⟩:=C_strs hr1 (by simp)
   exact join_any a0 (x :: t) bk o c1 w hcells hbk hs.1 hc1 hs.2
 ·cases h

end Go.Proofs.YtdfjjimmnbijmaaGreatDoor.ZQ

-- Written for this claim by myprint.py over the kit's print (functions of this session supplied)
import Derived.Test.YtdfjjimmnbijmaaGreatDoorZQ0
import Derived.Test.YtdfjjimmnbijmaaGreatDoorZQ1
import Derived.Test.YtdfjjimmnbijmaaGreatDoorZQ3
import Derived.Test.YtdfjjimmnbijmaaGreatDoorZQ4
namespace Go.Proofs.YtdfjjimmnbijmaaGreatDoor.ZQ
open Go.RowKit Go.Proofs.YtdfjjimmnbijmaaGreatDoorW.PrintWords Go.Proofs.YtdfjjimmnbijmaaGreatDoorW.PrintLast Go.Proofs.YtdfjjimmnbijmaaGreatDoorW.PrintMore Go.Proofs.YtdfjjimmnbijmaaGreatDoor.Base
attribute [local go_sem] max2_int min2_int max_two min_two max_three min_three max_four min_four   -- for this text's walks alone
set_option linter.unusedVariables false
set_option linter.unusedSimpArgs false

/-! ### show_write: function 23 -/
def numT (n:Int):ByteArray:=fuS 10 n.toNat
def argT (n:Int):ByteArray:=⟨#[97,114,103]⟩++⟨(Lib.itoa n).toArray⟩
/-! #### what is written -/
mutual
def writeC:S28→ByteArray
 |  ⟨a,l,b,d,e,f⟩ =>
  if a=4 then joinT ⟨#[32]⟩ [if d=18446744073709551615 then argT b else joinT ⟨#[32,38,32]⟩ [argT b,numT d],e,numT f]
  else if a=3 then joinT ⟨#[32]⟩ [⟨#[110,111,116]⟩,(factL l).headD ⟨#[]⟩]
  else if a=1 then joinT ⟨#[32,97,110,100,32]⟩ (factL l)
  else joinT ⟨#[32,111,114,32]⟩ (orL l)
def factL:List S28→List ByteArray
 |  [] => []
 |  c :: r => (if c.f0=1 ∨ c.f0=2 then ⟨#[40]⟩++writeC c++⟨#[41]⟩ else writeC c) :: factL r
def orL:List S28→List ByteArray
 |  [] => []
 |  c :: r => (if c.f0=1 then writeC c else if c.f0=1 ∨ c.f0=2 then ⟨#[40]⟩++writeC c++⟨#[41]⟩ else writeC c) :: orL r
end
def factC (c:CN):ByteArray:=if c.f0=1 ∨ c.f0=2 then ⟨#[40]⟩++writeC c++⟨#[41]⟩ else writeC c
def orC (c:CN):ByteArray:=if c.f0=1 then writeC c else factC c
theorem factL_eq:∀ l:List CN,factL l=l.map factC
 |  [] => rfl
 |  c :: r => by rw [factL,factL_eq r];rfl
theorem orL_eq:∀ l:List CN,orL l=l.map orC
 |  [] => rfl
 |  c :: r => by rw [orL,orL_eq r];rfl
theorem writeC_test {c:CN} (h:c.f0=4):writeC c=joinT ⟨#[32]⟩ [if c.f3=18446744073709551615 then argT c.f2 else joinT ⟨#[32,38,32]⟩ [argT c.f2,numT c.f3],c.f4,numT c.f5]:=by
 cases c;simp only at h;rw [writeC,if_pos h]
theorem writeC_not {c k:CN} (h:c.f0=3) (hk:c.f1=[k]):writeC c=joinT ⟨#[32]⟩ [⟨#[110,111,116]⟩,factC k]:=by
 cases c;simp only at h hk;subst hk;rw [writeC,if_neg (by omega),if_pos h,factL_eq];rfl
theorem writeC_and {c:CN} (h:c.f0=1):writeC c=joinT ⟨#[32,97,110,100,32]⟩ (c.f1.map factC):=by
 cases c;simp only at h;rw [writeC,if_neg (by omega),if_neg (by omega),if_pos h,factL_eq]
theorem writeC_or {c:CN} (h:c.f0=2):writeC c=joinT ⟨#[32,111,114,32]⟩ (c.f1.map orC):=by
 cases c;simp only at h;rw [writeC,if_neg (by omega),if_neg (by omega),if_neg (by omega),orL_eq]
/-! ### sizes of what is written -/
def rngB (c:CN):Prop:=-9223372036854775808≤c.f2∧c.f2≤9223372036854775807∧0≤c.f3∧c.f3<18446744073709551616∧0≤c.f5∧c.f5<18446744073709551616
instance (c:CN):Decidable (rngB c):=by unfold rngB;infer_instance
mutual
def rngC:S28→Bool
 |  ⟨a,l,b,d,e,f⟩ => decide (rngB ⟨a,l,b,d,e,f⟩) && rngL l
def rngL:List S28→Bool
 |  [] => true
 |  c :: r => rngC c && rngL r
end
theorem rngC_eq (c:CN):rngC c=(decide (rngB c) && rngL c.f1):=by cases c;rw [rngC]
theorem rngC_iff {c:CN}:rngC c=true ↔ (rngB c∧rngL c.f1=true):=by rw [rngC_eq,Bool.and_eq_true,decide_eq_true_eq]
theorem rngL_all:∀ {l:List CN},rngL l=true→∀ c ∈ l,rngC c=true
 |  x :: r,h,c,hc => by
  rw [rngL,Bool.and_eq_true] at h
  rcases List.mem_cons.1 hc with e|e
  ·subst e;exact h.1
  ·exact rngL_all h.2 c e
theorem rngL_of:∀ {l:List CN},(∀ c ∈ l,rngC c=true)→rngL l=true
 |  [],_ => by rw [rngL]
 |  x :: r,h => by rw [rngL,Bool.and_eq_true];exact ⟨h x List.mem_cons_self,rngL_of fun c hc => h c (List.mem_cons_of_mem _ hc)⟩
def sumZ (xs:List ByteArray):Nat:=(xs.map (·.size)).sum
theorem sumZ_cons (x:ByteArray) (r:List ByteArray):sumZ (x :: r)=x.size+sumZ r:=by simp [sumZ]
theorem sumZ_nil:sumZ []=0:=rfl
theorem sumZ_app:∀ a b:List ByteArray,sumZ (a++b)=sumZ a+sumZ b
 |  [],b => by simp [sumZ]
 |  x :: r,b => by rw [List.cons_append,sumZ_cons,sumZ_cons,sumZ_app r b];omega
theorem lens_sumZ:∀ xs:List ByteArray,Lib.lens (xs.map (·.data.toList))=sumZ xs
 |  [] => rfl
 |  x :: r => by
  have:=lens_sumZ r
  simp only [Lib.lens,List.map_cons,List.sum_cons,sumZ] at this ⊢
  rw [this,← Lib.size_eq]
theorem joinT_size (by_ x:ByteArray) (r:List ByteArray):(joinT by_ (x :: r)).size=by_.size * r.length+sumZ (x :: r):=by
 unfold joinT
 rw [Lib.size_eq]
 show (Lib.join ((x :: r).map (·.data.toList)) by_.data.toList).length=_
 rw [List.map_cons,Lib.join_length,← List.map_cons (f:=fun b:ByteArray => b.data.toList),lens_sumZ,← Lib.size_eq,List.length_map]
theorem joinT_nil (by_:ByteArray):joinT by_ []=⟨#[]⟩:=rfl
theorem joinT_le (by_:ByteArray) (xs:List ByteArray):(joinT by_ xs).size≤by_.size * xs.length+sumZ xs:=by
 cases xs with
 |  nil => rw [joinT_nil];exact Nat.zero_le _
 |  cons x r => rw [joinT_size,List.length_cons,Nat.mul_succ];omega
theorem sumZ_le_join (by_:ByteArray) (xs:List ByteArray):sumZ xs≤(joinT by_ xs).size:=by
 cases xs with
 |  nil => exact Nat.zero_le _
 |  cons x r => rw [joinT_size];omega
theorem mem_sumZ:∀ {xs:List ByteArray} {x:ByteArray},x ∈ xs→x.size≤sumZ xs
 |  y :: r,x,h => by
  rw [sumZ_cons]
  rcases List.mem_cons.1 h with e|e
  ·subst e;omega
  ·have:=mem_sumZ e;omega
theorem numT_size (n:Int) (h:n<18446744073709551616):(numT n).size≤20:=by
 unfold numT fuS
 rw [if_pos rfl,Lib.size_eq]
 show (Lib.decDigits n.toNat).length≤20
 rw [Lib.decDigits_length]
 exact Lib.nDigits_le20 _ (by omega)
theorem argT_size (n:Int) (h0:-9223372036854775808≤n) (h1:n≤9223372036854775807):(argT n).size≤24:=by
 unfold argT
 rw [ByteArray.size_append]
 have h:=Lib.itoa_length_le n h0 h1
 have e:(⟨(Lib.itoa n).toArray⟩:ByteArray).size=(Lib.itoa n).length:=by rw [Lib.size_eq]
 have e2:(⟨#[97,114,103]⟩:ByteArray).size=3:=rfl
 omega
theorem one_cases {c:CN} (h:oneS c=true):(c.f0=4∧0≤c.f2∧c.f2≤5∧sgnB c.f4=true∧c.f1=[]) ∨ (bareS c=true∧(c.f0=1 ∨ c.f0=2)∧2≤c.f1.length) ∨ (bareS c=true∧c.f0=3∧∃ k,c.f1=[k]):=by
 unfold oneS at h
 by_cases h4:c.f0=4
 ·rw [if_pos h4] at h
  simp only [Bool.and_eq_true,decide_eq_true_eq] at h
  exact Or.inl ⟨h4,h.1,by omega,h.2.2.1,List.length_eq_zero_iff.1 h.2.2.2⟩
 ·rw [if_neg h4] at h
  by_cases h1:c.f0=1
  ·rw [if_pos h1,Bool.and_eq_true,decide_eq_true_eq] at h
   exact Or.inr (Or.inl ⟨h.1,Or.inl h1,h.2⟩)
  ·rw [if_neg h1] at h
   by_cases h2:c.f0=2
   ·rw [if_pos h2,Bool.and_eq_true,decide_eq_true_eq] at h
    exact Or.inr (Or.inl ⟨h.1,Or.inr h2,h.2⟩)
   ·rw [if_neg h2] at h
    by_cases h3:c.f0=3
    ·rw [if_pos h3,Bool.and_eq_true,decide_eq_true_eq] at h
     exact Or.inr (Or.inr ⟨h.1,h3,List.length_eq_one_iff.1 h.2⟩)
    ·rw [if_neg h3] at h;cases h
theorem sgnB_size {s:ByteArray} (h:sgnB s=true):s.size≤2:=by
 unfold sgnB sgnL at h
 rw [List.contains_iff_mem] at h
 rw [Lib.size_eq,← Lib.toList_data]
 simp only [List.mem_cons,List.not_mem_nil,or_false] at h
 rcases h with h|h|h|h|h|h<;>rw [h]<;>decide
theorem factC_size (c:CN):(factC c).size≤(writeC c).size+2:=by
 unfold factC
 split
 ·rw [ByteArray.size_append,ByteArray.size_append]
  have e1:(⟨#[40]⟩:ByteArray).size=1:=rfl
  have e2:(⟨#[41]⟩:ByteArray).size=1:=rfl
  omega
 ·omega
theorem orC_size (c:CN):(orC c).size≤(writeC c).size+2:=by
 unfold orC
 split
 ·omega
 ·exact factC_size c
theorem sum_kids (f:CN→ByteArray) (hf:∀ c,(f c).size≤(writeC c).size+2):∀ l:List CN,(∀ c ∈ l,(writeC c).size+20≤100 * nodesC c)→sumZ (l.map f)+18 * l.length≤100 * nodesL l
 |  [],_ => by simp [sumZ,nodesL]
 |  c :: r,h => by
  have h1:=h c List.mem_cons_self
  have h2:=sum_kids f hf r fun x hx => h x (List.mem_cons_of_mem _ hx)
  have h3:=hf c
  rw [List.map_cons,sumZ_cons,List.length_cons,nodesL]
  omega
theorem writeC_size:∀ c:CN,fitsC c=true→rngC c=true→(writeC c).size+20≤100 * nodesC c:=by
 refine cond_ind fun c ih hf hr => ?_
 rw [fitsC_eq,Bool.and_eq_true] at hf
 rw [rngC_iff] at hr
 have hk:∀ k ∈ c.f1,(writeC k).size+20≤100 * nodesC k:=fun k hk => ih k hk (fitsL_all hf.2 k hk) (rngL_all hr.2 k hk)
 obtain ⟨r1,r2,r3,r4,r5,r6⟩:=hr.1
 rw [nodesC_eq]
 have e1:(⟨#[32]⟩:ByteArray).size=1:=rfl
 have e3:(⟨#[32,38,32]⟩:ByteArray).size=3:=rfl
 have e4:(⟨#[110,111,116]⟩:ByteArray).size=3:=rfl
 have e5:(⟨#[32,97,110,100,32]⟩:ByteArray).size=5:=rfl
 have e6:(⟨#[32,111,114,32]⟩:ByteArray).size=4:=rfl
 rcases one_cases hf.1 with ⟨h4,_,_,hs,_⟩|⟨_,h12,_⟩|⟨_,h3,k,ek⟩
 ·rw [writeC_test h4,joinT_size,sumZ_cons,sumZ_cons,sumZ_cons,sumZ_nil,e1]
  have s1:=argT_size c.f2 r1 r2
  have s2:=numT_size c.f5 r6
  have s3:=numT_size c.f3 r4
  have s4:=sgnB_size hs
  simp only [List.length_cons,List.length_nil]
  split
  ·omega
  ·rw [joinT_size,sumZ_cons,sumZ_cons,sumZ_nil,e3]
   simp only [List.length_cons,List.length_nil]
   omega
 ·rcases h12 with h1|h2
  ·rw [writeC_and h1]
   have q:=joinT_le ⟨#[32,97,110,100,32]⟩ (c.f1.map factC)
   have:=sum_kids factC factC_size c.f1 hk
   rw [List.length_map,e5] at q
   omega
  ·rw [writeC_or h2]
   have q:=joinT_le ⟨#[32,111,114,32]⟩ (c.f1.map orC)
   have:=sum_kids orC orC_size c.f1 hk
   rw [List.length_map,e6] at q
   omega
 ·rw [writeC_not h3 ek,joinT_size,sumZ_cons,sumZ_cons,sumZ_nil,e1,e4]
  have:=hk k (by rw [ek];simp)
  have:=factC_size k
  rw [ek,nodesL,nodesL]
  simp only [List.length_cons,List.length_nil]
  omega
/-! ### texts of a literal row, joined -/
theorem join2 (by_ a b:ByteArray) (w:World) (h:(joinT by_ [a,b]).size≤140737488355328) :
  Calls Tryz.prog 33 #[.string by_,.slice (some ⟨w.heap.size,0,none⟩) 2 2] (w.alloc (.cells #[.string a,.string b] 9)) fun e w' => e=.returned (.string (joinT by_ [a,b]))∧Below w.heap.size w w':=by
 refine (join_any by_ [a,b] w.heap.size 0 2 _ (fun j x hj => ?_) (by simp) (by simp) (by simp) h).mono fun e w' ⟨h1,h2⟩ => ⟨h1,?_⟩
 ·have hb:=blk_new w (.cells #[.string a,.string b] 9)
  match j,hj with
  |  0,hj => cases hj;exact blk_cell hb 0
  |  1,hj => cases hj;exact blk_cell hb 1
  |  j+2,hj => simp at hj
 ·exact ((Below.refl w.heap.size w).alloc (Nat.le_refl _) _).trans (h2.mono (by simp))
theorem join3 (by_ a b c:ByteArray) (w:World) (h:(joinT by_ [a,b,c]).size≤140737488355328) :
  Calls Tryz.prog 33 #[.string by_,.slice (some ⟨w.heap.size,0,none⟩) 3 3] (w.alloc (.cells #[.string a,.string b,.string c] 9)) fun e w' => e=.returned (.string (joinT by_ [a,b,c]))∧Below w.heap.size w w':=by
 refine (join_any by_ [a,b,c] w.heap.size 0 3 _ (fun j x hj => ?_) (by simp) (by simp) (by simp) h).mono fun e w' ⟨h1,h2⟩ => ⟨h1,?_⟩
 ·have hb:=blk_new w (.cells #[.string a,.string b,.string c] 9)
  match j,hj with
  |  0,hj => cases hj;exact blk_cell hb 0
  |  1,hj => cases hj;exact blk_cell hb 1
  |  2,hj => cases hj;exact blk_cell hb 2
  |  j+3,hj => simp at hj
 ·exact ((Below.refl w.heap.size w).alloc (Nat.le_refl _) _).trans (h2.mono (by simp))
theorem infoStr:(Tryz.prog.info? 9).map (fun i => (i.zero,i.size,i.bytes))=some (some (.string ⟨#[]⟩),1,16):=by kernel_rfl
theorem number_w (n:Int) (h0:0≤n) (h1:n<18446744073709551616) (w:World) (hLd:LaidAt w) :
  Calls Tryz.prog 40 #[.int .u64 n] w fun e w' => e=.returned (.string (numT n))∧Below w.heap.size w w':=by
 refine show_number.calls n (numT n) w hLd ?_
 unfold show_number.f strconv_FormatUint.f
 rw [if_pos ⟨⟨h0,h1⟩,Or.inl rfl⟩]
 rfl
/-! ### show.factor by show.write -/
set_option maxHeartbeats 1600000 in
set_option maxRecDepth 100000 in
theorem factor_plain (c:S28) (kv:Value) (w:World) (R:ByteArray) (h1:¬ (c.f0=1 ∨ c.f0=2)) (hw:∀ w1,Below w.heap.size w w1→Calls Tryz.prog 23 #[.agg #[.int .i64 c.f0,kv,.int .i64 c.f2,.int .u64 c.f3,.string c.f4,.int .u64 c.f5]] w1 fun e w' => e=.returned (.string R)∧Below w1.heap.size w1 w') :
  Calls Tryz.prog 41 #[.agg #[.int .i64 c.f0,kv,.int .i64 c.f2,.int .u64 c.f3,.string c.f4,.int .u64 c.f5]] w fun e w' => e=.returned (.string R)∧Below w.heap.size w w':=by
 have HW:=Aside0.mk hw
 have c1:(c.f0==1)=false:=by simpa using fun e => h1 (Or.inl e)
 have c2:(c.f0==2)=false:=by simpa using fun e => h1 (Or.inr e)
 clear hw h1
 go_enter Tryz.func41,Tryz.ntmps41
 go_wp2_with fail
 go_at_call 23
 have hb0:Below w.heap.size w (w.alloc (.cells #[.int .i64 c.f0,kv,.int .i64 c.f2,.int .u64 c.f3,.string c.f4,.int .u64 c.f5] 28)):=(Below.refl _ _).alloc (Nat.le_refl _) _
 refine (HW.out _ hb0).mono ?_
 rintro e w1 ⟨rfl,hb⟩
 go_wp2_with fail
 all_goals go_ret
 exact ⟨rfl,hb0.trans (hb.mono hb0.size)⟩
set_option maxHeartbeats 1600000 in
set_option maxRecDepth 100000 in
theorem factor_group (c:S28) (kv:Value) (w:World) (R:ByteArray) (hR:R.size≤140737488355328) (h1:c.f0=1 ∨ c.f0=2) (hw:∀ w1,Below w.heap.size w w1→Calls Tryz.prog 23 #[.agg #[.int .i64 c.f0,kv,.int .i64 c.f2,.int .u64 c.f3,.string c.f4,.int .u64 c.f5]] w1 fun e w' => e=.returned (.string R)∧Below w1.heap.size w1 w') :
  Calls Tryz.prog 41 #[.agg #[.int .i64 c.f0,kv,.int .i64 c.f2,.int .u64 c.f3,.string c.f4,.int .u64 c.f5]] w fun e w' => e=.returned (.string (⟨#[40]⟩++R++⟨#[41]⟩))∧Below w.heap.size w w':=by
 have HW:=Aside0.mk hw
 have z0:(9223372036854775807<1+R.size)=False:=eq_false (by omega)
 have z1:(9223372036854775807<1+R.size+1)=False:=eq_false (by omega)
 have hb0:Below w.heap.size w (w.alloc (.cells #[.int .i64 c.f0,kv,.int .i64 c.f2,.int .u64 c.f3,.string c.f4,.int .u64 c.f5] 28)):=(Below.refl _ _).alloc (Nat.le_refl _) _
 have HB0:=Aside0.mk hb0
 clear hw hb0 hR
 by_cases k1:c.f0=1
 ·have c1:(c.f0==1)=true:=by simpa using k1
  clear k1 h1
  go_enter Tryz.func41,Tryz.ntmps41
  go_wp2_with fail
  go_at_call 23
  refine (HW.out _ HB0.out).mono ?_
  rintro e w1 ⟨rfl,hb⟩
  have HB1:=Aside0.mk (HB0.out.trans (hb.mono HB0.out.size))
  clear hb
  go_wp2_with fail
  all_goals go_ret
  exact ⟨rfl,HB1.out⟩
 ·have k2:c.f0=2:=h1.resolve_left k1
  have c1:(c.f0==1)=false:=by simpa using k1
  have c2:(c.f0==2)=true:=by simpa using k2
  clear k1 k2 h1
  go_enter Tryz.func41,Tryz.ntmps41
  go_wp2_with fail
  go_at_call 23
  refine (HW.out _ HB0.out).mono ?_
  rintro e w1 ⟨rfl,hb⟩
  have HB1:=Aside0.mk (HB0.out.trans (hb.mono HB0.out.size))
  clear hb
  go_wp2_with fail
  all_goals go_ret
  exact ⟨rfl,HB1.out⟩
/-! ### show.write: what says that a condition is not so -/
set_option maxHeartbeats 3200000 in
set_option maxRecDepth 100000 in
theorem write_not (c k:CN) (A:Option Addr) (cap:Nat) (w:World) (h3:c.f0=3) (hk:c.f1=[k]) (hC:Kd.C k28 w A c.f1.length c.f1)
  (hF:∀ A1 c1 w1,Below w.heap.size w w1→k28.C w1 A1 k.f1.length k.f1→k.f1.length≤c1→Calls Tryz.prog 41 #[.agg #[.int .i64 k.f0,.slice A1 k.f1.length c1,.int .i64 k.f2,.int .u64 k.f3,.string k.f4,.int .u64 k.f5]] w1 fun e w' => e=.returned (.string (factC k))∧Below w1.heap.size w1 w')
  (hz:(factC k).size≤1000000000) :
  Calls Tryz.prog 23 #[.agg #[.int .i64 c.f0,.slice A c.f1.length cap,.int .i64 c.f2,.int .u64 c.f3,.string c.f4,.int .u64 c.f5]] w fun e w' => e=.returned (.string (writeC c))∧Below w.heap.size w w':=by
 have hn:c.f1.length=1:=by rw [hk];rfl
 obtain ⟨b,o,rfl,hbw,hx⟩:=CC_open hC (by omega)
 obtain ⟨A1,c1,x0,x1,x2,x3,x4,x5,hc1,hC1⟩:=hx 0 k (by rw [hk];rfl)
 rw [Nat.zero_mul,Nat.add_zero] at x0 x1 x2 x3 x4 x5
 rw [hn,writeC_not h3 hk]
 have hb0:Below w.heap.size w (w.alloc (.cells #[.int .i64 c.f0,.slice (some ⟨b,o,none⟩) 1 cap,.int .i64 c.f2,.int .u64 c.f3,.string c.f4,.int .u64 c.f5] 28)):=(Below.refl _ _).alloc (Nat.le_refl _) _
 have HF:=Aside0.mk (hF A1 c1 _ hb0 (Kd.C_below hC1 hb0) hc1)
 have HZ:=Aside0.mk (blk_new w (.cells #[.int .i64 c.f0,.slice (some ⟨b,o,none⟩) 1 cap,.int .i64 c.f2,.int .u64 c.f3,.string c.f4,.int .u64 c.f5] 28))
 have X0:=Aside0.mk (pw_cell_below hb0 x0)
 have X1:=Aside0.mk (pw_cell_below hb0 x1)
 have X2:=Aside0.mk (pw_cell_below hb0 x2)
 have X3:=Aside0.mk (pw_cell_below hb0 x3)
 have X4:=Aside0.mk (pw_cell_below hb0 x4)
 have X5:=Aside0.mk (pw_cell_below hb0 x5)
 have HB0:=Aside0.mk hb0
 have HJ:=Aside0.mk (show (joinT ⟨#[32]⟩ [⟨#[110,111,116]⟩,factC k]).size≤140737488355328 by
  rw [joinT_size,sumZ_cons,sumZ_cons,sumZ_nil]
  have e1:(⟨#[32]⟩:ByteArray).size=1:=rfl
  have e4:(⟨#[110,111,116]⟩:ByteArray).size=3:=rfl
  simp only [List.length_cons,List.length_nil]
  omega)
 have c4:(c.f0==4)=false:=by rw [h3];rfl
 have c3:(c.f0==3)=true:=by rw [h3];rfl
 clear hF hb0 x0 x1 x2 x3 x4 x5 hx hC hC1 hc1 h3 hk hn hz
 go_enter Tryz.func23,Tryz.ntmps23
 go_upto_region 9 with (fail)
 obtain ⟨V,hV⟩:∃ V,V=w.alloc (.cells #[.int .i64 c.f0,.slice (some ⟨b,o,none⟩) 1 cap,.int .i64 c.f2,.int .u64 c.f3,.string c.f4,.int .u64 c.f5] 28):=⟨_,rfl⟩
 rw [← hV] at HF HZ X0 X1 X2 X3 X4 X5 HB0 ⊢
 clear hV
 have z1:V.cell? ⟨w.heap.size,1,none⟩=some (.slice (some ⟨b,o,none⟩) 1 cap):=blk_cell HZ.out 1
 have y0:=X0.out
 have y1:=X1.out
 have y2:=X2.out
 have y3:=X3.out
 have y4:=X4.out
 have y5:=X5.out
 go_wp2_with fail
 go_at_call 41
 refine HF.out.mono ?_
 rintro e w1 ⟨rfl,hb1⟩
 have HB1:=Aside0.mk (HB0.out.trans (hb1.mono HB0.out.size))
 clear hb1 y0 y1 y2 y3 y4 y5 z1
 go_wp2_with fail
 go_at_call 33
 refine (join2 ⟨#[32]⟩ ⟨#[110,111,116]⟩ (factC k) w1 HJ.out).mono ?_
 rintro e w2 ⟨rfl,hb2⟩
 go_wp2_with fail
 all_goals go_ret
 exact ⟨rfl,HB1.out.trans (hb2.mono HB1.out.size)⟩
/-! ### show.write: write_and_ -/
set_option maxHeartbeats 6400000 in
set_option maxRecDepth 100000 in
theorem write_and_ (c:CN) (A:Option Addr) (cap:Nat) (w:World) (hkd:c.f0=1) (hl0:0<c.f1.length) (hl1:c.f1.length≤1000000) (hC:Kd.C k28 w A c.f1.length c.f1) (hF:∀ k ∈ c.f1,∀ A1 c1 w1,Below w.heap.size w w1→k28.C w1 A1 k.f1.length k.f1→k.f1.length≤c1→Calls Tryz.prog 41 #[.agg #[.int .i64 k.f0,.slice A1 k.f1.length c1,.int .i64 k.f2,.int .u64 k.f3,.string k.f4,.int .u64 k.f5]] w1 fun e w' => e=.returned (.string (factC k))∧Below w1.heap.size w1 w') (hz:(joinT ⟨#[32,97,110,100,32]⟩ (c.f1.map factC)).size≤140737488355328) :
  Calls Tryz.prog 23 #[.agg #[.int .i64 c.f0,.slice A c.f1.length cap,.int .i64 c.f2,.int .u64 c.f3,.string c.f4,.int .u64 c.f5]] w fun e w' => e=.returned (.string (writeC c))∧Below w.heap.size w w':=by
 rw [writeC_and hkd]
 obtain ⟨b,o,rfl,hbw,hx⟩:=CC_open hC hl0
 have HX:=Aside0.mk hx
 have FF:=Aside0.mk hF
 have HJ:=Aside0.mk hz
 have HL0:=Aside0.mk hl0
 have HL1:=Aside0.mk hl1
 have hb0:Below w.heap.size w (w.alloc (.cells #[.int .i64 c.f0,.slice (some ⟨b,o,none⟩) c.f1.length cap,.int .i64 c.f2,.int .u64 c.f3,.string c.f4,.int .u64 c.f5] 28)):=(Below.refl _ _).alloc (Nat.le_refl _) _
 have HB0:=Aside0.mk hb0
 have HZ:=Aside0.mk (blk_new w (.cells #[.int .i64 c.f0,.slice (some ⟨b,o,none⟩) c.f1.length cap,.int .i64 c.f2,.int .u64 c.f3,.string c.f4,.int .u64 c.f5] 28))
 have c4:(c.f0==4)=false:=by rw [hkd];rfl
 have c3:(c.f0==3)=false:=by rw [hkd];rfl
 have c1_:(c.f0==1)=true:=by rw [hkd];rfl
 clear hkd hl0 hl1 hC hx hz hb0 hF
 go_enter Tryz.func23,Tryz.ntmps23
 go_upto_region 11 with (fail)
 obtain ⟨V,hV⟩:∃ V,V=w.alloc (.cells #[.int .i64 c.f0,.slice (some ⟨b,o,none⟩) c.f1.length cap,.int .i64 c.f2,.int .u64 c.f3,.string c.f4,.int .u64 c.f5] 28):=⟨_,rfl⟩
 rw [← hV] at HZ HB0 ⊢
 clear hV
 have z1:V.cell? ⟨w.heap.size,1,none⟩=some (.slice (some ⟨b,o,none⟩) c.f1.length cap):=blk_cell HZ.out 1
 have HVS:=Aside0.mk (blk_lt HZ.out)
 go_wp2_with fail
 clear z1
 go_loopw [3,48] (fun v3 v48 wr =>∃i:Nat,v48=.int .i64 i∧Aside0 (i≤c.f1.length)∧Aside0 (Kd.R Kd.string 9 wr (w.heap.size+1) (fun _ => True) v3 ((c.f1.map factC).take i))∧Aside0 (Below w.heap.size w wr)∧Aside0 (w.heap.size<wr.heap.size)) (fun _ v48 _ => c.f1.length - (intOf v48).toNat)
 case atStart => exact ⟨0,rfl,⟨Nat.zero_le _⟩,⟨by rw [List.take_zero];exact Kd.R_nil _ _ _ _ _⟩,HB0,HVS⟩
 case round =>
  obtain ⟨i,rfl,hi,hK,RB,RS⟩:=hrel
  by_cases hil:i<c.f1.length
  ·have hd:decide ((i:Int)<(c.f1.length:Int))=true:=decide_eq_true (by omega)
   have hdn:(i<c.f1.length)=True:=eq_true hil
   have hi0:(0≤(i:Int))=True:=eq_true (Int.natCast_nonneg i)
   have hi1:((i:Int)<(c.f1.length:Int))=True:=eq_true (by omega)
   obtain ⟨x,hx⟩:∃ x,c.f1[i]?=some x:=⟨_,List.getElem?_eq_getElem hil⟩
   obtain ⟨A1,c1,q0,q1,q2,q3,q4,q5,hc1,hC1⟩:=HX.out i x hx
   have hxm:x ∈ c.f1:=List.mem_of_getElem? hx
   have x0:=pw_cell_below RB.out q0
   have x1:=pw_cell_below RB.out q1
   have x2:=pw_cell_below RB.out q2
   have x3:=pw_cell_below RB.out q3
   have x4:=pw_cell_below RB.out q4
   have x5:=pw_cell_below RB.out q5
   have HC1:=Aside0.mk (Kd.C_below hC1 RB.out)
   have HCC:=Aside0.mk hc1
   have HIL:=Aside0.mk hil
   have HXM:=Aside0.mk hxm
   have HTK:=Aside0.mk (show (c.f1.map factC).take (i+1)=(c.f1.map factC).take i++[factC x] by rw [List.take_add_one,List.getElem?_map,hx];rfl)
   clear q0 q1 q2 q3 q4 q5 hc1 hC1 hx hil hxm
   have hbA:Below wr.heap.size wr (wr.alloc (.cells #[.int .i64 x.f0,.slice A1 x.f1.length c1,.int .i64 x.f2,.int .u64 x.f3,.string x.f4,.int .u64 x.f5] 28)):=(Below.refl _ _).alloc (Nat.le_refl _) _
   have HBA:=Aside0.mk hbA
   have HZA:=Aside0.mk (blk_new wr (.cells #[.int .i64 x.f0,.slice A1 x.f1.length c1,.int .i64 x.f2,.int .u64 x.f3,.string x.f4,.int .u64 x.f5] 28))
   have HBW:=Aside0.mk (RB.out.trans (hbA.mono RB.out.size))
   have HCA:=Aside0.mk (Kd.C_below HC1.out hbA)
   have HKA:=Aside0.mk (Kd.R_below hK.out hbA)
   clear hbA
   go_upto_region 14 with (fail)
   clear x0 x1 x2 x3 x4 x5
   obtain ⟨U,hU⟩:∃ U,U=wr.alloc (.cells #[.int .i64 x.f0,.slice A1 x.f1.length c1,.int .i64 x.f2,.int .u64 x.f3,.string x.f4,.int .u64 x.f5] 28):=⟨_,rfl⟩
   rw [← hU] at HBA HZA HBW HCA HKA ⊢
   clear hU
   have y0:U.cell? ⟨wr.heap.size,0,none⟩=some (.int .i64 x.f0):=blk_cell HZA.out 0
   have y1:U.cell? ⟨wr.heap.size,1,none⟩=some (.slice A1 x.f1.length c1):=blk_cell HZA.out 1
   have y2:U.cell? ⟨wr.heap.size,2,none⟩=some (.int .i64 x.f2):=blk_cell HZA.out 2
   have y3:U.cell? ⟨wr.heap.size,3,none⟩=some (.int .u64 x.f3):=blk_cell HZA.out 3
   have y4:U.cell? ⟨wr.heap.size,4,none⟩=some (.string x.f4):=blk_cell HZA.out 4
   have y5:U.cell? ⟨wr.heap.size,5,none⟩=some (.int .u64 x.f5):=blk_cell HZA.out 5
   go_wp2_with fail
   go_at_call 41
   refine (FF.out x HXM.out A1 c1 _ HBW.out HCA.out HCC.out).mono ?_
   rintro e w3 ⟨rfl,hb3⟩
   have HB3:=Aside0.mk hb3
   have HK3:=Aside0.mk (Kd.R_below HKA.out hb3)
   have HW3:=Aside0.mk (HBW.out.trans (hb3.mono HBW.out.size))
   have HS3:=Aside0.mk (show w.heap.size+1≤w3.heap.size by have:=hb3.size;have:=blk_lt HZA.out;have:=RS.out;omega)
   clear hb3 y0 y1 y2 y3 y4 y5
   go_wp2_with ((with_reducible refine gate_builtin (b:=.append) (xs:=#[.tmp 52,.tmp 55]) rfl ?_);at_builtin;refine Kd.R_append Kd.string (w0:=w3) (w.heap.size+1) rfl (.tmp 52) (.tmp 55) 45 9 (.string ⟨#[]⟩) 16 rfl Tryz.underlying45 infoStr rfl (by decide) (by decide) u3 ((c.f1.map factC).take i) (factC x) [.string (factC x)] (fun _ => True) (fun _ => False) rfl rfl ?aP (fun _ hk => hk.elim) (fun _ _ => trivial) HK3.out (Below.refl _ _) ?aS ?aL ?_)
   case aP => exact rfl
   case aS => exact HS3.out
   case aL => have:=HL1.out;have:=hi.out;rw [List.length_take,List.length_map];omega
   intro v1 w5 hR5 hb5 hg5 _
   rw [← HTK.out] at hR5
   have HR5:=Aside0.mk hR5
   have HB5:=Aside0.mk hb5
   clear hR5 hb5 hg5
   go_wp2_with fail
   go_roundw
   case rel => exact ⟨i+1,by have:=HIL.out;have:=HL1.out;rw [show wrap64 ((i:Int)+1)=((i+1:Nat):Int) by unfold wrap64;omega],⟨HIL.out⟩,HR5,⟨HW3.out.trans (HB5.out.mono (by have:=HS3.out;omega))⟩,⟨by have:=HB5.out.size;have:=HS3.out;omega⟩⟩
   case measure =>
    have:=HIL.out
    have:=HL1.out
    rw [show wrap64 ((i:Int)+1)=((i+1:Nat):Int) by unfold wrap64;omega]
    simp only [intOf,Int.toNat_natCast]
    omega
  ·have hd:decide ((i:Int)<(c.f1.length:Int))=false:=decide_eq_false (by omega)
   have hdn:(i<c.f1.length)=False:=eq_false hil
   obtain ⟨A9,c9,rfl,hl9,hC9⟩:=Kd.R_reads hK.out
   have hT:(c.f1.map factC).take i=c.f1.map factC:=List.take_of_length_le (by rw [List.length_map];omega)
   rw [hT] at hl9 hC9
   rw [hT]
   have hlm:(c.f1.map factC).length=c.f1.length:=List.length_map _
   obtain ⟨b9,o9,rfl,hcells,hb9⟩:=C_strs hC9 (by rw [hlm];exact HL0.out)
   have HJN:=Aside0.mk (join_any ⟨#[32,97,110,100,32]⟩ (c.f1.map factC) b9 o9 c9 wr hcells hb9 (by rw [hlm];have:=HL1.out;omega) hl9 HJ.out)
   rw [hlm] at HJN
   clear hl9 hC9 hcells hb9 hT hlm hil
   go_wp2_with fail
   go_at_call 33
   refine HJN.out.mono ?_
   rintro e w4 ⟨rfl,hb4⟩
   go_wp2_with fail
   all_goals go_ret
   exact ⟨rfl,RB.out.trans (hb4.mono RB.out.size)⟩
/-! ### show.write: write_or_ -/
set_option maxHeartbeats 6400000 in
set_option maxRecDepth 100000 in
theorem write_or_ (c:CN) (A:Option Addr) (cap:Nat) (w:World) (hkd:c.f0=2) (hl0:0<c.f1.length) (hl1:c.f1.length≤1000000) (hC:Kd.C k28 w A c.f1.length c.f1) (hF:∀ k ∈ c.f1,k.f0 ≠ 1→∀ A1 c1 w1,Below w.heap.size w w1→k28.C w1 A1 k.f1.length k.f1→k.f1.length≤c1→Calls Tryz.prog 41 #[.agg #[.int .i64 k.f0,.slice A1 k.f1.length c1,.int .i64 k.f2,.int .u64 k.f3,.string k.f4,.int .u64 k.f5]] w1 fun e w' => e=.returned (.string (orC k))∧Below w1.heap.size w1 w') (hG:∀ k ∈ c.f1,k.f0=1→∀ A1 c1 w1,Below w.heap.size w w1→k28.C w1 A1 k.f1.length k.f1→k.f1.length≤c1→Calls Tryz.prog 23 #[.agg #[.int .i64 k.f0,.slice A1 k.f1.length c1,.int .i64 k.f2,.int .u64 k.f3,.string k.f4,.int .u64 k.f5]] w1 fun e w' => e=.returned (.string (orC k))∧Below w1.heap.size w1 w') (hz:(joinT ⟨#[32,111,114,32]⟩ (c.f1.map orC)).size≤140737488355328) :
  Calls Tryz.prog 23 #[.agg #[.int .i64 c.f0,.slice A c.f1.length cap,.int .i64 c.f2,.int .u64 c.f3,.string c.f4,.int .u64 c.f5]] w fun e w' => e=.returned (.string (writeC c))∧Below w.heap.size w w':=by
 rw [writeC_or hkd]
 obtain ⟨b,o,rfl,hbw,hx⟩:=CC_open hC hl0
 have HX:=Aside0.mk hx
 have FF:=Aside0.mk hF
 have FG:=Aside0.mk hG
 have HJ:=Aside0.mk hz
 have HL0:=Aside0.mk hl0
 have HL1:=Aside0.mk hl1
 have hb0:Below w.heap.size w (w.alloc (.cells #[.int .i64 c.f0,.slice (some ⟨b,o,none⟩) c.f1.length cap,.int .i64 c.f2,.int .u64 c.f3,.string c.f4,.int .u64 c.f5] 28)):=(Below.refl _ _).alloc (Nat.le_refl _) _
 have HB0:=Aside0.mk hb0
 have HZ:=Aside0.mk (blk_new w (.cells #[.int .i64 c.f0,.slice (some ⟨b,o,none⟩) c.f1.length cap,.int .i64 c.f2,.int .u64 c.f3,.string c.f4,.int .u64 c.f5] 28))
 have c4:(c.f0==4)=false:=by rw [hkd];rfl
 have c3:(c.f0==3)=false:=by rw [hkd];rfl
 have c1_:(c.f0==1)=false:=by rw [hkd];rfl
 clear hkd hl0 hl1 hC hx hz hb0 hF hG
 go_enter Tryz.func23,Tryz.ntmps23
 go_upto_region 17 with (fail)
 obtain ⟨V,hV⟩:∃ V,V=w.alloc (.cells #[.int .i64 c.f0,.slice (some ⟨b,o,none⟩) c.f1.length cap,.int .i64 c.f2,.int .u64 c.f3,.string c.f4,.int .u64 c.f5] 28):=⟨_,rfl⟩
 rw [← hV] at HZ HB0 ⊢
 clear hV
 have z1:V.cell? ⟨w.heap.size,1,none⟩=some (.slice (some ⟨b,o,none⟩) c.f1.length cap):=blk_cell HZ.out 1
 have HVS:=Aside0.mk (blk_lt HZ.out)
 go_wp2_with fail
 clear z1
 go_loopw [3,63] (fun v3 v63 wr =>∃i:Nat,v63=.int .i64 i∧Aside0 (i≤c.f1.length)∧Aside0 (Kd.R Kd.string 9 wr (w.heap.size+1) (fun _ => True) v3 ((c.f1.map orC).take i))∧Aside0 (Below w.heap.size w wr)∧Aside0 (w.heap.size<wr.heap.size)) (fun _ v63 _ => c.f1.length - (intOf v63).toNat)
 case atStart => exact ⟨0,rfl,⟨Nat.zero_le _⟩,⟨by rw [List.take_zero];exact Kd.R_nil _ _ _ _ _⟩,HB0,HVS⟩
 case round =>
  obtain ⟨i,rfl,hi,hK,RB,RS⟩:=hrel
  by_cases hil:i<c.f1.length
  ·have hd:decide ((i:Int)<(c.f1.length:Int))=true:=decide_eq_true (by omega)
   have hdn:(i<c.f1.length)=True:=eq_true hil
   have hi0:(0≤(i:Int))=True:=eq_true (Int.natCast_nonneg i)
   have hi1:((i:Int)<(c.f1.length:Int))=True:=eq_true (by omega)
   obtain ⟨x,hx⟩:∃ x,c.f1[i]?=some x:=⟨_,List.getElem?_eq_getElem hil⟩
   obtain ⟨A1,c1,q0,q1,q2,q3,q4,q5,hc1,hC1⟩:=HX.out i x hx
   have hxm:x ∈ c.f1:=List.mem_of_getElem? hx
   have x0:=pw_cell_below RB.out q0
   have x1:=pw_cell_below RB.out q1
   have x2:=pw_cell_below RB.out q2
   have x3:=pw_cell_below RB.out q3
   have x4:=pw_cell_below RB.out q4
   have x5:=pw_cell_below RB.out q5
   have HC1:=Aside0.mk (Kd.C_below hC1 RB.out)
   have HCC:=Aside0.mk hc1
   have HIL:=Aside0.mk hil
   have HXM:=Aside0.mk hxm
   have HTK:=Aside0.mk (show (c.f1.map orC).take (i+1)=(c.f1.map orC).take i++[orC x] by rw [List.take_add_one,List.getElem?_map,hx];rfl)
   clear q0 q1 q2 q3 q4 q5 hc1 hC1 hx hil hxm
   have hbA:Below wr.heap.size wr (wr.alloc (.cells #[.int .i64 x.f0,.slice A1 x.f1.length c1,.int .i64 x.f2,.int .u64 x.f3,.string x.f4,.int .u64 x.f5] 28)):=(Below.refl _ _).alloc (Nat.le_refl _) _
   have HBA:=Aside0.mk hbA
   have HZA:=Aside0.mk (blk_new wr (.cells #[.int .i64 x.f0,.slice A1 x.f1.length c1,.int .i64 x.f2,.int .u64 x.f3,.string x.f4,.int .u64 x.f5] 28))
   have HBW:=Aside0.mk (RB.out.trans (hbA.mono RB.out.size))
   have HCA:=Aside0.mk (Kd.C_below HC1.out hbA)
   have HKA:=Aside0.mk (Kd.R_below hK.out hbA)
   clear hbA
   go_upto_region 20 with (fail)
   clear x0 x1 x2 x3 x4 x5
   obtain ⟨U,hU⟩:∃ U,U=wr.alloc (.cells #[.int .i64 x.f0,.slice A1 x.f1.length c1,.int .i64 x.f2,.int .u64 x.f3,.string x.f4,.int .u64 x.f5] 28):=⟨_,rfl⟩
   rw [← hU] at HBA HZA HBW HCA HKA ⊢
   clear hU
   have y0:U.cell? ⟨wr.heap.size,0,none⟩=some (.int .i64 x.f0):=blk_cell HZA.out 0
   have y1:U.cell? ⟨wr.heap.size,1,none⟩=some (.slice A1 x.f1.length c1):=blk_cell HZA.out 1
   have y2:U.cell? ⟨wr.heap.size,2,none⟩=some (.int .i64 x.f2):=blk_cell HZA.out 2
   have y3:U.cell? ⟨wr.heap.size,3,none⟩=some (.int .u64 x.f3):=blk_cell HZA.out 3
   have y4:U.cell? ⟨wr.heap.size,4,none⟩=some (.string x.f4):=blk_cell HZA.out 4
   have y5:U.cell? ⟨wr.heap.size,5,none⟩=some (.int .u64 x.f5):=blk_cell HZA.out 5
   cases hk1:(x.f0==1) with
   |  false =>
    have HT:=Aside0.mk hk1
    go_wp2_with fail
    go_at_call 41
    refine (FF.out x HXM.out (by simpa using HT.out) A1 c1 _ HBW.out HCA.out HCC.out).mono ?_
    rintro e w3 ⟨rfl,hb3⟩
    have HB3:=Aside0.mk hb3
    have HK3:=Aside0.mk (Kd.R_below HKA.out hb3)
    have HW3:=Aside0.mk (HBW.out.trans (hb3.mono HBW.out.size))
    have HS3:=Aside0.mk (show w.heap.size+1≤w3.heap.size by have:=hb3.size;have:=blk_lt HZA.out;have:=RS.out;omega)
    clear hb3 y0 y1 y2 y3 y4 y5
    go_wp2_with ((with_reducible refine gate_builtin (b:=.append) (xs:=#[.tmp 75,.tmp 78]) rfl ?_);at_builtin;refine Kd.R_append Kd.string (w0:=w3) (w.heap.size+1) rfl (.tmp 75) (.tmp 78) 45 9 (.string ⟨#[]⟩) 16 rfl Tryz.underlying45 infoStr rfl (by decide) (by decide) u3 ((c.f1.map orC).take i) (orC x) [.string (orC x)] (fun _ => True) (fun _ => False) rfl rfl ?aP (fun _ hk => hk.elim) (fun _ _ => trivial) HK3.out (Below.refl _ _) ?aS ?aL ?_)
    case aP => exact rfl
    case aS => exact HS3.out
    case aL => have:=HL1.out;have:=hi.out;rw [List.length_take,List.length_map];omega
    intro v1 w5 hR5 hb5 hg5 _
    rw [← HTK.out] at hR5
    have HR5:=Aside0.mk hR5
    have HB5:=Aside0.mk hb5
    clear hR5 hb5 hg5
    go_wp2_with fail
    go_roundw
    case rel => exact ⟨i+1,by have:=HIL.out;have:=HL1.out;rw [show wrap64 ((i:Int)+1)=((i+1:Nat):Int) by unfold wrap64;omega],⟨HIL.out⟩,HR5,⟨HW3.out.trans (HB5.out.mono (by have:=HS3.out;omega))⟩,⟨by have:=HB5.out.size;have:=HS3.out;omega⟩⟩
    case measure =>
     have:=HIL.out
     have:=HL1.out
     rw [show wrap64 ((i:Int)+1)=((i+1:Nat):Int) by unfold wrap64;omega]
     simp only [intOf,Int.toNat_natCast]
     omega
   |  true =>
    have HT:=Aside0.mk hk1
    go_wp2_with fail
    go_at_call 23
    refine (FG.out x HXM.out (by simpa using HT.out) A1 c1 _ HBW.out HCA.out HCC.out).mono ?_
    rintro e w3 ⟨rfl,hb3⟩
    have HB3:=Aside0.mk hb3
    have HK3:=Aside0.mk (Kd.R_below HKA.out hb3)
    have HW3:=Aside0.mk (HBW.out.trans (hb3.mono HBW.out.size))
    have HS3:=Aside0.mk (show w.heap.size+1≤w3.heap.size by have:=hb3.size;have:=blk_lt HZA.out;have:=RS.out;omega)
    clear hb3 y0 y1 y2 y3 y4 y5
    go_wp2_with ((with_reducible refine gate_builtin (b:=.append) (xs:=#[.tmp 70,.tmp 73]) rfl ?_);at_builtin;refine Kd.R_append Kd.string (w0:=w3) (w.heap.size+1) rfl (.tmp 70) (.tmp 73) 45 9 (.string ⟨#[]⟩) 16 rfl Tryz.underlying45 infoStr rfl (by decide) (by decide) u3 ((c.f1.map orC).take i) (orC x) [.string (orC x)] (fun _ => True) (fun _ => False) rfl rfl ?aP (fun _ hk => hk.elim) (fun _ _ => trivial) HK3.out (Below.refl _ _) ?aS ?aL ?_)
    case aP => exact rfl
    case aS => exact HS3.out
    case aL => have:=HL1.out;have:=hi.out;rw [List.length_take,List.length_map];omega
    intro v1 w5 hR5 hb5 hg5 _
    rw [← HTK.out] at hR5
    have HR5:=Aside0.mk hR5
    have HB5:=Aside0.mk hb5
    clear hR5 hb5 hg5
    go_wp2_with fail
    go_roundw
    case rel => exact ⟨i+1,by have:=HIL.out;have:=HL1.out;rw [show wrap64 ((i:Int)+1)=((i+1:Nat):Int) by unfold wrap64;omega],⟨HIL.out⟩,HR5,⟨HW3.out.trans (HB5.out.mono (by have:=HS3.out;omega))⟩,⟨by have:=HB5.out.size;have:=HS3.out;omega⟩⟩
    case measure =>
     have:=HIL.out
     have:=HL1.out
     rw [show wrap64 ((i:Int)+1)=((i+1:Nat):Int) by unfold wrap64;omega]
     simp only [intOf,Int.toNat_natCast]
     omega
  ·have hd:decide ((i:Int)<(c.f1.length:Int))=false:=decide_eq_false (by omega)
   have hdn:(i<c.f1.length)=False:=eq_false hil
   obtain ⟨A9,c9,rfl,hl9,hC9⟩:=Kd.R_reads hK.out
   have hT:(c.f1.map orC).take i=c.f1.map orC:=List.take_of_length_le (by rw [List.length_map];omega)
   rw [hT] at hl9 hC9
   rw [hT]
   have hlm:(c.f1.map orC).length=c.f1.length:=List.length_map _
   obtain ⟨b9,o9,rfl,hcells,hb9⟩:=C_strs hC9 (by rw [hlm];exact HL0.out)
   have HJN:=Aside0.mk (join_any ⟨#[32,111,114,32]⟩ (c.f1.map orC) b9 o9 c9 wr hcells hb9 (by rw [hlm];have:=HL1.out;omega) hl9 HJ.out)
   rw [hlm] at HJN
   clear hl9 hC9 hcells hb9 hT hlm hil
   go_wp2_with fail
   go_at_call 33
   refine HJN.out.mono ?_
   rintro e w4 ⟨rfl,hb4⟩
   go_wp2_with fail
   all_goals go_ret
   exact ⟨rfl,RB.out.trans (hb4.mono RB.out.size)⟩
/-! ### show.write: a test -/
set_option maxHeartbeats 3200000 in
set_option maxRecDepth 100000 in
theorem write_test_ (c:CN) (kv:Value) (w:World) (hLd:LaidAt w) (h:c.f0=4) (hr:rngB c) (h7:c.f4.size≤1000) :
  Calls Tryz.prog 23 #[.agg #[.int .i64 c.f0,kv,.int .i64 c.f2,.int .u64 c.f3,.string c.f4,.int .u64 c.f5]] w fun e w' => e=.returned (.string (writeC c))∧Below w.heap.size w w':=by
 obtain ⟨h0,h1,h3,h4,h5,h6⟩:=hr
 have HLD:=Aside0.mk hLd
 have HI:=Aside0.mk (fun w h => itoa_any c.f2 h0 h1 w h)
 have HN3:=Aside0.mk (fun w h => number_w c.f3 h3 h4 w h)
 have HN5:=Aside0.mk (fun w h => number_w c.f5 h5 h6 w h)
 have hb0:Below w.heap.size w (w.alloc (.cells #[.int .i64 c.f0,kv,.int .i64 c.f2,.int .u64 c.f3,.string c.f4,.int .u64 c.f5] 28)):=(Below.refl _ _).alloc (Nat.le_refl _) _
 have HB0:=Aside0.mk hb0
 have c4:(c.f0==4)=true:=by simpa using h
 have HIL:=Aside0.mk (Lib.itoa_length_le c.f2 h0 h1)
 have hs1:(joinT ⟨#[32,38,32]⟩ [argT c.f2,numT c.f3]).size≤1000:=by
  have s1:=argT_size c.f2 h0 h1
  have s3:=numT_size c.f3 h4
  have e3:(⟨#[32,38,32]⟩:ByteArray).size=3:=rfl
  rw [joinT_size,sumZ_cons,sumZ_cons,sumZ_nil,e3]
  simp only [List.length_cons,List.length_nil]
  omega
 have hs2:∀ T:ByteArray,T.size≤1000→(joinT ⟨#[32]⟩ [T,c.f4,numT c.f5]).size≤140737488355328:=by
  intro T hT
  have s5:=numT_size c.f5 h6
  have e3:(⟨#[32]⟩:ByteArray).size=1:=rfl
  rw [joinT_size,sumZ_cons,sumZ_cons,sumZ_cons,sumZ_nil,e3]
  simp only [List.length_cons,List.length_nil]
  omega
 have hsA:=argT_size c.f2 h0 h1
 have HS1:=Aside0.mk hs1
 have HS2:=Aside0.mk hs2
 have HSA:=Aside0.mk hsA
 have HR:=Aside0.mk (writeC_test h)
 have H4:=Aside0.mk h
 clear h
 clear hLd h0 h1 h3 h4 h5 h6 h7 hb0 hs1 hs2 hsA
 go_enter Tryz.func23,Tryz.ntmps23
 go_wp2_with fail
 go_at_call 25
 refine (HI.out _ (LaidAt.of HLD.out HB0.out)).mono ?_
 rintro e w1 ⟨rfl,hb1⟩
 have HK1:=Aside0.mk (blk_below (blk_new w (.cells #[.int .i64 c.f0,kv,.int .i64 c.f2,.int .u64 c.f3,.string c.f4,.int .u64 c.f5] 28)) hb1)
 have HB1:=Aside0.mk (HB0.out.trans (hb1.mono HB0.out.size))
 clear hb1
 have k3:w1.cell? ⟨w.heap.size,3,none⟩=some (.int .u64 c.f3):=blk_cell HK1.out 3
 have hit:=HIL.out
 have z0:(9223372036854775807<3+(Lib.itoa c.f2).length)=False:=eq_false (by omega)
 have HIT:=Aside0.mk hit
 clear hit
 cases hm:(c.f3 != 18446744073709551615) with
 |  true =>
  have HM:=Aside0.mk (show ¬ c.f3=18446744073709551615 by intro e;rw [e] at hm;simp at hm)
  go_wp2_with fail
  go_at_call 40
  refine (HN3.out _ (LaidAt.of HLD.out HB1.out)).mono ?_
  rintro e w2 ⟨rfl,hb2⟩
  have HK2:=Aside0.mk (blk_below HK1.out hb2)
  have HB2:=Aside0.mk (HB1.out.trans (hb2.mono HB1.out.size))
  clear hb2 k3
  go_wp2_with fail
  go_at_call 33
  refine (join2 ⟨#[32,38,32]⟩ (argT c.f2) (numT c.f3) w2 (by have:=HS1.out;omega)).mono ?_
  rintro e w3 ⟨rfl,hb3⟩
  have HK3:=Aside0.mk (blk_below HK2.out hb3)
  have HB3:=Aside0.mk (HB2.out.trans (hb3.mono HB2.out.size))
  rw [if_neg HM.out] at HR
  clear hb3 hm HM
  go_upto_region 7 with (fail)
  have hdr:Below w3.heap.size w3 w3.drew:=(Below.refl _ _).drew
  have HZd:=Aside0.mk (blk_below (HK3.out) hdr)
  have HBd:=Aside0.mk ((HB3.out).trans (hdr.mono (HB3.out).size))
  have f4:w3.drew.cell? ⟨w.heap.size,4,none⟩=some (.string c.f4):=(blk_cell HZd.out 4).trans rfl
  have f5:w3.drew.cell? ⟨w.heap.size,5,none⟩=some (.int .u64 c.f5):=(blk_cell HZd.out 5).trans rfl
  clear hdr
  refine start_ (n:=9) (S:=fun w' => w'.cell? ⟨w.heap.size,4,none⟩=some (.string c.f4)∧w'.cell? ⟨w.heap.size,5,none⟩=some (.int .u64 c.f5)) (ds:=[7]) #[false,false,false,false,false,false,false,false,false] (by kernel_rfl) rfl rfl ⟨f4,f5⟩ (fun hHeld => ?_)
  refine pure_ (i:=0) (N:=some 26) (v:=?_) (a':=?_) #[true,false,false,false,false,false,false,false,false] rfl rfl (by kernel_rfl) (fun _ _ _ h => h) (Or.inl ⟨by rfl,?_⟩) ?_ ?_
  rotate_left
  ·intro w'
   go_simp
   with_reducible rfl
  rotate_left
  ·simp only [Act.put,List.setIfInBounds_toArray,List.set_cons_zero,List.set_cons_succ,i64_w,i32_w]
   rfl
  refine pure_ (i:=1) (N:=some 27) (v:=?_) (a':=?_) #[true,true,false,false,false,false,false,false,false] rfl rfl (by kernel_rfl) (fun _ _ _ h => h) (Or.inl ⟨by rfl,?_⟩) ?_ ?_
  rotate_left
  ·intro w'
   go_simp
   with_reducible rfl
  rotate_left
  ·simp only [Act.put,List.setIfInBounds_toArray,List.set_cons_zero,List.set_cons_succ,i64_w,i32_w]
   rfl
  refine pure_ (i:=3) (N:=some 29) (v:=?_) (a':=?_) #[true,true,false,true,false,false,false,false,false] rfl rfl (by kernel_rfl) (fun _ _ _ h => h) (Or.inl ⟨by rfl,?_⟩) ?_ ?_
  rotate_left
  ·intro w'
   go_simp
   with_reducible rfl
  rotate_left
  ·simp only [Act.put,List.setIfInBounds_toArray,List.set_cons_zero,List.set_cons_succ,i64_w,i32_w]
   rfl
  refine take_ (i:=2) (N:=some 28) (v:=?_) (a':=?_) #[true,true,true,true,false,false,false,false,false] rfl rfl (by kernel_rfl) (fun _ _ _ h => h) (Or.inl ⟨by rfl,?_⟩) hHeld ?_ ?_
  rotate_left
  ·rintro w' ⟨s0,s1⟩
   go_simp
   with_reducible rfl
  rotate_left
  ·simp only [Act.put,List.setIfInBounds_toArray,List.set_cons_zero,List.set_cons_succ,i64_w,i32_w]
   rfl
  refine take_ (i:=4) (N:=some 30) (v:=?_) (a':=?_) #[true,true,true,true,true,false,false,false,false] rfl rfl (by kernel_rfl) (fun _ _ _ h => h) (Or.inl ⟨by rfl,?_⟩) hHeld ?_ ?_
  rotate_left
  ·rintro w' ⟨s0,s1⟩
   go_simp
   with_reducible rfl
  rotate_left
  ·simp only [Act.put,List.setIfInBounds_toArray,List.set_cons_zero,List.set_cons_succ,i64_w,i32_w]
   rfl
  refine one_ (i:=5) (N:=some 31) #[true,true,true,true,true,true,false,false,false] rfl rfl (by kernel_rfl) (by decide) (fun K hK => ?_)
  refine goes_ Tryz.func40 (by kernel_rfl) rfl #[.int .u64 c.f5] (by rfl) rfl rfl (by simp only [List.map_toArray,List.map_cons,List.map_nil];rfl) ?_
  with_reducible refine (HN5.out _ (LaidAt.of HLD.out HBd.out)).mono ?_
  rintro e w8 ⟨rfl,hb8⟩
  refine ⟨_,rfl,?_⟩
  have HZ8:=Aside0.mk (blk_below HZd.out hb8)
  have HB8:=Aside0.mk (HBd.out.trans (hb8.mono HBd.out.size))
  clear hb8
  refine hK.out _ _ ⟨((blk_cell HZ8.out 4).trans rfl),((blk_cell HZ8.out 5).trans rfl)⟩ (fun hHeld => ?_)
  clear hK K
  refine norm_ (a':=?_) ?_ ?_
  rotate_left
  ·show Act.put _ (some 31) _=_
   simp only [Act.put,List.setIfInBounds_toArray,List.set_cons_zero,List.set_cons_succ,i64_w,i32_w]
   rfl
  refine one_ (i:=6) (N:=some 32) #[true,true,true,true,true,true,true,false,false] rfl rfl (by kernel_rfl) (by decide) (fun K hK => ?_)
  refine value_ (w1:=?_) (v:=?_) (by rfl) rfl ?_ ?_
  rotate_left 2
  ·go_simp
   constructor
   ·rfl
   ·rfl
  refine hK.out _ _ ⟨((blk_cell (blk_alloc HZ8.out _) 4).trans rfl),((blk_cell (blk_alloc HZ8.out _) 5).trans rfl)⟩ (fun hHeld => ?_)
  clear hK K
  refine norm_ (a':=?_) ?_ ?_
  rotate_left
  ·show Act.put _ (some 32) _=_
   simp only [Act.put,List.setIfInBounds_toArray,List.set_cons_zero,List.set_cons_succ,i64_w,i32_w]
   rfl
  refine last_ (i:=7) (N:=some 33) #[true,true,true,true,true,true,true,true,false] rfl rfl (by kernel_rfl) (by decide) (fun K hK => ?_)
  refine goes_ Tryz.func33 (by kernel_rfl) rfl #[.string ⟨#[32]⟩,.slice (some ⟨w8.heap.size,0,none⟩) 3 3] (by rfl) rfl rfl (by simp only [List.map_toArray,List.map_cons,List.map_nil];rfl) ?_
  with_reducible refine (join3 ⟨#[32]⟩ (joinT ⟨#[32,38,32]⟩ [argT c.f2,numT c.f3]) c.f4 (numT c.f5) w8 (HS2.out _ HS1.out)).mono ?_
  rintro e w9 ⟨rfl,hb9⟩
  refine ⟨_,rfl,?_⟩
  have HB9:=Aside0.mk (HB8.out.trans (hb9.mono HB8.out.size))
  clear hb9
  refine hK.out _ _ ?_
  clear hK K
  refine norm_ (a':=?_) ?_ ?_
  rotate_left
  ·show Act.put _ (some 33) _=_
   simp only [Act.put,List.setIfInBounds_toArray,List.set_cons_zero,List.set_cons_succ,i64_w,i32_w]
   rfl
  refine pure_ (i:=8) (N:=some 2) (v:=?_) (a':=?_) #[true,true,true,true,true,true,true,true,true] rfl rfl (by kernel_rfl) (fun _ _ _ h => h) (Or.inl ⟨by rfl,?_⟩) ?_ ?_
  rotate_left
  ·intro w'
   go_simp
   with_reducible rfl
  rotate_left
  ·simp only [Act.put,List.setIfInBounds_toArray,List.set_cons_zero,List.set_cons_succ,i64_w,i32_w]
   rfl
  refine done_ (by kernel_rfl) ?_
  go_wp2_with fail
  all_goals go_ret
  exact ⟨congrArg (fun x => Ending.returned (.string x)) HR.out.symm,HB9.out⟩
 |  false =>
  have HM:=Aside0.mk (show c.f3=18446744073709551615 by simpa using hm)
  rw [if_pos HM.out] at HR
  have HMB:=Aside0.mk hm
  have HSX:=Aside0.mk (show (joinT ⟨#[32]⟩ [⟨#[97,114,103]⟩++⟨(Lib.itoa c.f2).toArray⟩,c.f4,numT c.f5]).size≤140737488355328 from HS2.out (argT c.f2) (by have:=HSA.out;omega))
  clear HM
  go_upto_region 7 with (fail)
  have hdr:Below w1.heap.size w1 w1.drew:=(Below.refl _ _).drew
  have HZd:=Aside0.mk (blk_below (HK1.out) hdr)
  have HBd:=Aside0.mk ((HB1.out).trans (hdr.mono (HB1.out).size))
  have f4:w1.drew.cell? ⟨w.heap.size,4,none⟩=some (.string c.f4):=(blk_cell HZd.out 4).trans rfl
  have f5:w1.drew.cell? ⟨w.heap.size,5,none⟩=some (.int .u64 c.f5):=(blk_cell HZd.out 5).trans rfl
  clear hdr
  refine start_ (n:=9) (S:=fun w' => w'.cell? ⟨w.heap.size,4,none⟩=some (.string c.f4)∧w'.cell? ⟨w.heap.size,5,none⟩=some (.int .u64 c.f5)) (ds:=[7]) #[false,false,false,false,false,false,false,false,false] (by kernel_rfl) rfl rfl ⟨f4,f5⟩ (fun hHeld => ?_)
  refine pure_ (i:=0) (N:=some 26) (v:=?_) (a':=?_) #[true,false,false,false,false,false,false,false,false] rfl rfl (by kernel_rfl) (fun _ _ _ h => h) (Or.inl ⟨by rfl,?_⟩) ?_ ?_
  rotate_left
  ·intro w'
   go_simp
   with_reducible rfl
  rotate_left
  ·simp only [Act.put,List.setIfInBounds_toArray,List.set_cons_zero,List.set_cons_succ,i64_w,i32_w]
   rfl
  refine pure_ (i:=1) (N:=some 27) (v:=?_) (a':=?_) #[true,true,false,false,false,false,false,false,false] rfl rfl (by kernel_rfl) (fun _ _ _ h => h) (Or.inl ⟨by rfl,?_⟩) ?_ ?_
  rotate_left
  ·intro w'
   go_simp
   with_reducible rfl
  rotate_left
  ·simp only [Act.put,List.setIfInBounds_toArray,List.set_cons_zero,List.set_cons_succ,i64_w,i32_w]
   rfl
  refine pure_ (i:=3) (N:=some 29) (v:=?_) (a':=?_) #[true,true,false,true,false,false,false,false,false] rfl rfl (by kernel_rfl) (fun _ _ _ h => h) (Or.inl ⟨by rfl,?_⟩) ?_ ?_
  rotate_left
  ·intro w'
   go_simp
   with_reducible rfl
  rotate_left
  ·simp only [Act.put,List.setIfInBounds_toArray,List.set_cons_zero,List.set_cons_succ,i64_w,i32_w]
   rfl
  refine take_ (i:=2) (N:=some 28) (v:=?_) (a':=?_) #[true,true,true,true,false,false,false,false,false] rfl rfl (by kernel_rfl) (fun _ _ _ h => h) (Or.inl ⟨by rfl,?_⟩) hHeld ?_ ?_
  rotate_left
  ·rintro w' ⟨s0,s1⟩
   go_simp
   with_reducible rfl
  rotate_left
  ·simp only [Act.put,List.setIfInBounds_toArray,List.set_cons_zero,List.set_cons_succ,i64_w,i32_w]
   rfl
  refine take_ (i:=4) (N:=some 30) (v:=?_) (a':=?_) #[true,true,true,true,true,false,false,false,false] rfl rfl (by kernel_rfl) (fun _ _ _ h => h) (Or.inl ⟨by rfl,?_⟩) hHeld ?_ ?_
  rotate_left
  ·rintro w' ⟨s0,s1⟩
   go_simp
   with_reducible rfl
  rotate_left
  ·simp only [Act.put,List.setIfInBounds_toArray,List.set_cons_zero,List.set_cons_succ,i64_w,i32_w]
   rfl
  refine one_ (i:=5) (N:=some 31) #[true,true,true,true,true,true,false,false,false] rfl rfl (by kernel_rfl) (by decide) (fun K hK => ?_)
  refine goes_ Tryz.func40 (by kernel_rfl) rfl #[.int .u64 c.f5] (by rfl) rfl rfl (by simp only [List.map_toArray,List.map_cons,List.map_nil];rfl) ?_
  with_reducible refine (HN5.out _ (LaidAt.of HLD.out HBd.out)).mono ?_
  rintro e w8 ⟨rfl,hb8⟩
  refine ⟨_,rfl,?_⟩
  have HZ8:=Aside0.mk (blk_below HZd.out hb8)
  have HB8:=Aside0.mk (HBd.out.trans (hb8.mono HBd.out.size))
  clear hb8
  refine hK.out _ _ ⟨((blk_cell HZ8.out 4).trans rfl),((blk_cell HZ8.out 5).trans rfl)⟩ (fun hHeld => ?_)
  clear hK K
  refine norm_ (a':=?_) ?_ ?_
  rotate_left
  ·show Act.put _ (some 31) _=_
   simp only [Act.put,List.setIfInBounds_toArray,List.set_cons_zero,List.set_cons_succ,i64_w,i32_w]
   rfl
  refine one_ (i:=6) (N:=some 32) #[true,true,true,true,true,true,true,false,false] rfl rfl (by kernel_rfl) (by decide) (fun K hK => ?_)
  refine value_ (w1:=?_) (v:=?_) (by rfl) rfl ?_ ?_
  rotate_left 2
  ·go_simp
   constructor
   ·rfl
   ·rfl
  refine hK.out _ _ ⟨((blk_cell (blk_alloc HZ8.out _) 4).trans rfl),((blk_cell (blk_alloc HZ8.out _) 5).trans rfl)⟩ (fun hHeld => ?_)
  clear hK K
  refine norm_ (a':=?_) ?_ ?_
  rotate_left
  ·show Act.put _ (some 32) _=_
   simp only [Act.put,List.setIfInBounds_toArray,List.set_cons_zero,List.set_cons_succ,i64_w,i32_w]
   rfl
  refine last_ (i:=7) (N:=some 33) #[true,true,true,true,true,true,true,true,false] rfl rfl (by kernel_rfl) (by decide) (fun K hK => ?_)
  refine goes_ Tryz.func33 (by kernel_rfl) rfl #[.string ⟨#[32]⟩,.slice (some ⟨w8.heap.size,0,none⟩) 3 3] (by rfl) rfl rfl (by simp only [List.map_toArray,List.map_cons,List.map_nil];rfl) ?_
  with_reducible refine (join3 ⟨#[32]⟩ (⟨#[97,114,103]⟩++⟨(Lib.itoa c.f2).toArray⟩) c.f4 (numT c.f5) w8 HSX.out).mono ?_
  rintro e w9 ⟨rfl,hb9⟩
  refine ⟨_,rfl,?_⟩
  have HB9:=Aside0.mk (HB8.out.trans (hb9.mono HB8.out.size))
  clear hb9
  refine hK.out _ _ ?_
  clear hK K
  refine norm_ (a':=?_) ?_ ?_
  rotate_left
  ·show Act.put _ (some 33) _=_
   simp only [Act.put,List.setIfInBounds_toArray,List.set_cons_zero,List.set_cons_succ,i64_w,i32_w]
   rfl
  refine pure_ (i:=8) (N:=some 2) (v:=?_) (a':=?_) #[true,true,true,true,true,true,true,true,true] rfl rfl (by kernel_rfl) (fun _ _ _ h => h) (Or.inl ⟨by rfl,?_⟩) ?_ ?_
  rotate_left
  ·intro w'
   go_simp
   with_reducible rfl
  rotate_left
  ·simp only [Act.put,List.setIfInBounds_toArray,List.set_cons_zero,List.set_cons_succ,i64_w,i32_w]
   rfl
  refine done_ (by kernel_rfl) ?_
  go_wp2_with fail
  all_goals go_ret
  exact ⟨congrArg (fun x => Ending.returned (.string x)) HR.out.symm,HB9.out⟩
/-! ### show.write and show.factor of any condition that may be -/
theorem write_any:∀ c:CN,fitsC c=true→rngC c=true→nodesC c≤1000000→∀ (A:Option Addr) (cap:Nat) (w:World),Kd.C k28 w A c.f1.length c.f1→LaidAt w →
  Calls Tryz.prog 23 #[.agg #[.int .i64 c.f0,.slice A c.f1.length cap,.int .i64 c.f2,.int .u64 c.f3,.string c.f4,.int .u64 c.f5]] w fun e w' => e=.returned (.string (writeC c))∧Below w.heap.size w w':=by
 refine cond_ind fun c ih hf hr hn A cap w hC hLd => ?_
 have hsz:=writeC_size c hf hr
 have hf0:=hf
 rw [fitsC_eq,Bool.and_eq_true] at hf
 rw [rngC_iff] at hr
 have hkn:∀ k ∈ c.f1,nodesC k≤1000000:=fun k hk => by have:=nodes_kid hk;omega
 have hW:∀ k ∈ c.f1,∀ A1 c1 w1,Below w.heap.size w w1→k28.C w1 A1 k.f1.length k.f1→k.f1.length≤c1→Calls Tryz.prog 23 #[.agg #[.int .i64 k.f0,.slice A1 k.f1.length c1,.int .i64 k.f2,.int .u64 k.f3,.string k.f4,.int .u64 k.f5]] w1 fun e w' => e=.returned (.string (writeC k))∧Below w1.heap.size w1 w' :=
  fun k hk A1 c1 w1 hb hC1 _ => ih k hk (fitsL_all hf.2 k hk) (rngL_all hr.2 k hk) (hkn k hk) A1 c1 w1 hC1 (hLd.of hb)
 have hks:∀ k ∈ c.f1,(writeC k).size+20≤100 * nodesC k:=fun k hk => writeC_size k (fitsL_all hf.2 k hk) (rngL_all hr.2 k hk)
 have hF:∀ k ∈ c.f1,∀ A1 c1 w1,Below w.heap.size w w1→k28.C w1 A1 k.f1.length k.f1→k.f1.length≤c1→Calls Tryz.prog 41 #[.agg #[.int .i64 k.f0,.slice A1 k.f1.length c1,.int .i64 k.f2,.int .u64 k.f3,.string k.f4,.int .u64 k.f5]] w1 fun e w' => e=.returned (.string (factC k))∧Below w1.heap.size w1 w':=by
  intro k hk A1 c1 w1 hb hC1 hc1
  have h1:∀ w2,Below w1.heap.size w1 w2→Calls Tryz.prog 23 #[.agg #[.int .i64 k.f0,.slice A1 k.f1.length c1,.int .i64 k.f2,.int .u64 k.f3,.string k.f4,.int .u64 k.f5]] w2 fun e w' => e=.returned (.string (writeC k))∧Below w2.heap.size w2 w' :=
   fun w2 hb2 => hW k hk A1 c1 w2 (hb.trans (hb2.mono hb.size)) (Kd.C_below hC1 hb2) hc1
  unfold factC
  by_cases hg:k.f0=1 ∨ k.f0=2
  ·rw [if_pos hg]
   exact factor_group k _ w1 (writeC k) (by have:=hks k hk;have:=hkn k hk;omega) hg h1
  ·rw [if_neg hg]
   exact factor_plain k _ w1 (writeC k) hg h1
 rcases one_cases hf.1 with ⟨h4,_,_,hs,_⟩|⟨_,h12,hl⟩|⟨_,h3,k,ek⟩
 ·exact write_test_ c _ w hLd h4 hr.1 (by have:=sgnB_size hs;omega)
 ·have hln:c.f1.length≤1000000:=by have:=nodesL_len c.f1;rw [nodesC_eq] at hn;omega
  rcases h12 with h1|h2
  ·exact write_and_ c A cap w h1 (by omega) hln hC hF (by rw [← writeC_and h1];omega)
  ·refine write_or_ c A cap w h2 (by omega) hln hC (fun k hk hk1 A1 c1 w1 hb hC1 hc1 => ?_) (fun k hk hk1 A1 c1 w1 hb hC1 hc1 => ?_) (by rw [← writeC_or h2];omega)
   ·unfold orC;rw [if_neg hk1];exact hF k hk A1 c1 w1 hb hC1 hc1
   ·unfold orC;rw [if_pos hk1];exact hW k hk A1 c1 w1 hb hC1 hc1
 ·have hkm:k ∈ c.f1:=by rw [ek];simp
  exact write_not c k A cap w h3 ek hC (fun A1 c1 w1 hb hC1 hc1 => hF k hkm A1 c1 w1 hb hC1 hc1) (by have:=factC_size k;have:=hks k hkm;have:=hkn k hkm;omega)

def show_write.f (a0_0:Int) (l0_1:List CN) (a0_2:Int) (a0_3:Int) (a0_4:ByteArray) (a0_5:Int):Option ByteArray:=if fitsC ⟨a0_0,l0_1,a0_2,a0_3,a0_4,a0_5⟩=true∧rngC ⟨a0_0,l0_1,a0_2,a0_3,a0_4,a0_5⟩=true∧nodesC ⟨a0_0,l0_1,a0_2,a0_3,a0_4,a0_5⟩≤1000000 then some (writeC ⟨a0_0,l0_1,a0_2,a0_3,a0_4,a0_5⟩) else none
theorem show_write.calls (a0_0:Int) (A0_1:Option Addr) (c0_1:Nat) (l0_1:List (S28)) (a0_2:Int) (a0_3:Int) (a0_4:ByteArray) (a0_5:Int) (r:ByteArray) (w:World) (hr0_1:Kd.C k28 w A0_1 l0_1.length l0_1) (hc0_1:l0_1.length≤c0_1) (hLd:LaidAt w) (h:show_write.f a0_0 l0_1 a0_2 a0_3 a0_4 a0_5=some r) :
  Calls Tryz.prog 23 #[.agg #[.int .i64 a0_0,.slice A0_1 l0_1.length c0_1,.int .i64 a0_2,.int .u64 a0_3,.string a0_4,.int .u64 a0_5]] w fun e w' => e=.returned (.string r)∧Below w.heap.size w w':=by
 unfold show_write.f at h
 split at h
 ·rename_i hs
  have e:=Option.some.inj h
  rw [← e]
  exact write_any ⟨a0_0,l0_1,a0_2,a0_3,a0_4,a0_5⟩ hs.1 hs.2.1 hs.2.2 A0_1 c0_1 w hr0_1 hLd
 ·cases h

end Go.Proofs.YtdfjjimmnbijmaaGreatDoor.ZQ

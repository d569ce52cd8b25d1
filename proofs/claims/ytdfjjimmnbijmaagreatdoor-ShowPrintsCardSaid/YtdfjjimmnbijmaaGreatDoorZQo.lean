import Derived.Test.YtdfjjimmnbijmaaGreatDoorZQ14
import Derived.ProofKit
import Derived.Deep.Slices
namespace Go.Proofs.YtdfjjimmnbijmaaGreatDoor.ZQ
open Go.RowKit Go.Proofs.YtdfjjimmnbijmaaGreatDoorW.PrintWords Go.Proofs.YtdfjjimmnbijmaaGreatDoorW.PrintLast Go.Proofs.YtdfjjimmnbijmaaGreatDoorW.PrintMore Go.Proofs.YtdfjjimmnbijmaaGreatDoor.Base
attribute [local go_sem] max2_int min2_int max_two min_two max_three min_three max_four min_four
set_option linter.unusedVariables false
set_option linter.unusedSimpArgs false
section
open Go.ChangeShapes Go.WideShapes
/-- Whatever reads as data at this type with this much fuel lies there as the kind says, and fits. -/
def At {α:Type} (P:Program) (n:Nat) (t:TypeId) (d:Kd α) (fit:α→Prop):Prop :=
 ∀ (H:Type) (enc:TypeId × Value→H) (w:World) (base:Nat) (spare:Nat→Bool) (held:Bool) (cs:List Value) (x:DataW H × List MemPlace),
  DataW.trod enc P w base spare held n t cs=some x→∃ v,d.K w v cs∧fit v

theorem At.zero {α:Type} {P:Program} {t:TypeId} {d:Kd α} {fit:α→Prop}:At P 0 t d fit:=by
 intro H enc w base spare held cs x h
 simp [DataW.trod] at h
theorem at_int {P:Program} {n:Nat} {t:TypeId} {k:IntKind} (ht:P.underlying t=some (.int k)):At P n t (Kd.int k) (fun v => (Lit.int k v).wf=true):=by
 intro H enc w base spare held cs x h
 obtain ⟨v,rfl,_,hw⟩:=DataW.trod_int ht h
 exact ⟨v,rfl,hw⟩
theorem at_bool {P:Program} {n:Nat} {t:TypeId} (ht:P.underlying t=some .bool):At P n t Kd.bool (fun _ => True):=by
 intro H enc w base spare held cs x h
 obtain ⟨v,rfl,_⟩:=DataW.trod_bool ht h
 exact ⟨v,rfl,trivial⟩
theorem at_string {P:Program} {n:Nat} {t:TypeId} (ht:P.underlying t=some .string):At P n t Kd.string (fun s => s.size≤maxLen):=by
 intro H enc w base spare held cs x h
 obtain ⟨v,rfl,_,hw⟩:=DataW.trod_string ht h
 exact ⟨v,rfl,hw⟩
theorem add_add_ (a:Addr) (i j:Nat):(a.add i).add j=a.add (i+j):=by
 unfold Addr.add
 by_cases hi:i=0<;>by_cases hj:j=0<;>simp [hi,hj,Nat.add_assoc]
theorem cells_get {w:World} {base:Nat} {a:Addr} {n:Nat} {cs:List Value} (h:w.cells? base a n=some cs):cs.length=n∧∀ i u,cs[i]?=some u→w.cell? (a.add i)=some u:=by
 obtain ⟨_,hl,hc⟩:=World.cells?_some h
 refine ⟨hl,fun i u hu => ?_⟩
 have hi:i<cs.length:=(List.getElem?_eq_some_iff.1 hu).1
 rw [hc i (by omega),hu]
/-- A slice: every element by its index. -/
theorem at_slice {α:Type} {P:Program} {n:Nat} {t e:TypeId} {d:Kd α} {fit:α→Prop} [Inhabited α] (ht:P.underlying t=some (.slice e)) (hc:P.cellsOf e=d.sz) (hs:∀ m,m<n→At P m e d fit) :
  At P n t (Kd.slice e d) (fun l => l.length≤maxLen∧∀ v ∈ l,fit v):=by
 intro H enc w base spare held cs x h
 rcases DataW.trod_slice ht h with ⟨rfl,_⟩|⟨a,len,cap,elems,rest,m,rfl,rfl,_,hb,hl,hm,hlen,hel,_,_⟩
 ·exact ⟨[],⟨none,0,rfl,Nat.le_refl _,⟨rfl,by simp,fun hp => absurd hp (by simp)⟩⟩,by simp [maxLen],by simp⟩
 ·have hx:∀ i,i<len→∃ q:α × List Value,q.2.length=d.sz∧d.K w q.1 q.2∧(∀ j u,q.2[j]?=some u→w.cell? (a.add (i * d.sz+j))=some u)∧fit q.1:=by
   intro i hi
   have h1:=hel i hi
   rw [List.getElem?_eq_getElem (by omega)] at h1
   obtain ⟨cs',hcs,htr⟩:=Option.bind_eq_some_iff.1 h1
   obtain ⟨v,hv,hf⟩:=hs m (by omega) H enc w base spare held cs' _ htr
   obtain ⟨hl',hg⟩:=cells_get hcs
   refine ⟨(v,cs'),by rw [hl',hc],hv,fun j u hu => ?_,hf⟩
   have:=hg j u hu
   rwa [add_add_,hc] at this
  obtain ⟨f,hf⟩:=Go.Deep.choose_lt (α:=α × List Value) hx
  refine ⟨(List.range len).map fun i => (f i).1,⟨some a,cap,by simp,by simpa using hl,⟨by simp,by simp only [maxLen,List.length_map,List.length_range] at hm ⊢;omega,fun _ => ⟨a,rfl,fun j p hj => ?_⟩⟩⟩,by simp only [List.length_map,List.length_range];omega,?_⟩
  ·have hj':j<len:=by have:=(List.getElem?_eq_some_iff.1 hj).1;simpa using this
   have e:p=(f j).1:=by
    rw [List.getElem?_map,List.getElem?_range hj'] at hj
    exact (Option.some.inj hj).symm
   subst e
   exact ⟨(f j).2,(hf j hj').1,(hf j hj').2.1,(hf j hj').2.2.1⟩
  ·intro v hv
   obtain ⟨i,hi,rfl⟩:=List.mem_map.1 hv
   exact (hf i (List.mem_range.1 hi)).2.2.2
/-- A slice as an argument: its three parts. -/
theorem open_arg {α:Type} {P:Program} {t e:TypeId} {d:Kd α} {fit:α→Prop} {H:Type} {enc:TypeId × Value→H} {w:World} {base:Nat} {spare:Nat→Bool} {held:Bool} {A:Option Addr} {len cap:Nat} {D:DataW H} {ps:List MemPlace}
  (ht:∀ n,At P n t (Kd.slice e d) (fun l => l.length≤maxLen∧∀ v ∈ l,fit v)) (h:DataW.Trod enc P w base spare held t (.slice A len cap) D ps) :
  ∃ l:List α,len=l.length∧d.C w A l.length l∧l.length≤cap∧l.length≤maxLen∧∀ v ∈ l,fit v:=by
 obtain ⟨n,hn⟩:=h
 obtain ⟨l,⟨A',c',hcs,hl,hC⟩,hm,hf⟩:=ht n H enc w base spare held _ _ hn
 have hc2:[Value.slice A len cap]=[Value.slice A' l.length c']:=by simpa [Value.cells] using hcs
 injection hc2 with h1 _
 injection h1 with h1 h2 h3
 subst h1 h2 h3
 exact ⟨l,rfl,hC,hl,hm,hf⟩

set_option maxRecDepth 100000 in
theorem wf_i64 {n:Int} (h:(Lit.int .i64 n).wf=true):-9223372036854775808≤n∧n≤9223372036854775807:=by
 simp only [Lit.wf,Bool.and_eq_true,decide_eq_true_eq] at h
 have hmin:IntKind.i64.min=-9223372036854775808:=rfl
 have hmax:IntKind.i64.max=9223372036854775807:=rfl
 omega
set_option maxRecDepth 100000 in
theorem wf_u64 {n:Int} (h:(Lit.int .u64 n).wf=true):0≤n∧n<18446744073709551616:=by
 simp only [Lit.wf,Bool.and_eq_true,decide_eq_true_eq] at h
 have hmin:IntKind.u64.min=0:=rfl
 have hmax:IntKind.u64.max=18446744073709551615:=rfl
 omega
instance : Inhabited S28:=⟨z28⟩
instance : Inhabited S47:=⟨z47⟩
theorem list6 {α:Type}:∀ cs:List α,cs.length=6→∃ c0 c1 c2 c3 c4 c5,cs=[c0,c1,c2,c3,c4,c5]
 |  [c0,c1,c2,c3,c4,c5],_ => ⟨_,_,_,_,_,_,rfl⟩
theorem list4 {α:Type}:∀ cs:List α,cs.length=4→∃ c0 c1 c2 c3,cs=[c0,c1,c2,c3]
 |  [c0,c1,c2,c3],_ => ⟨_,_,_,_,rfl⟩
theorem list9 {α:Type}:∀ cs:List α,cs.length=9→∃ c0 c1 c2 c3 c4 c5 c6 c7 c8,cs=[c0,c1,c2,c3,c4,c5,c6,c7,c8]
 |  [c0,c1,c2,c3,c4,c5,c6,c7,c8],_ => ⟨_,_,_,_,_,_,_,_,_,rfl⟩
set_option maxRecDepth 100000 in
theorem at_cond (n:Nat):At Tryz.prog n 28 k28 (fun c => rngC c=true):=by
 induction n using Nat.strongRecOn with
 |  _ n ih =>
 intro H enc w base spare held cs x h
 obtain ⟨xs,m,rfl,_,hlen,hxl,hf⟩:=DataW.trod_struct Tryz.underlying28 h
 have hc:cs.length=6:=hlen.trans (by kernel_rfl)
 have e3:Tryz.prog.cellsOf 3=1:=by kernel_rfl
 have e45:Tryz.prog.cellsOf 26=1:=by kernel_rfl
 have e27:Tryz.prog.cellsOf 22=1:=by kernel_rfl
 have e9:Tryz.prog.cellsOf 9=1:=by kernel_rfl
 obtain ⟨c0,c1,c2,c3,c4,c5,rfl⟩:=list6 cs hc
 obtain ⟨x0,x1,x2,x3,x4,x5,rfl⟩:=list6 xs hxl
 have g0:DataW.trod enc Tryz.prog w base spare held m 3 [c0]=some x0:=by simpa [e3] using hf 0 _ rfl
 have g1:DataW.trod enc Tryz.prog w base spare held m 26 [c1]=some x1:=by simpa [e45] using hf 1 _ rfl
 have g2:DataW.trod enc Tryz.prog w base spare held m 3 [c2]=some x2:=by simpa [e3] using hf 2 _ rfl
 have g3:DataW.trod enc Tryz.prog w base spare held m 22 [c3]=some x3:=by simpa [e27] using hf 3 _ rfl
 have g4:DataW.trod enc Tryz.prog w base spare held m 9 [c4]=some x4:=by simpa [e9] using hf 4 _ rfl
 have g5:DataW.trod enc Tryz.prog w base spare held m 22 [c5]=some x5:=by simpa [e27] using hf 5 _ rfl
 obtain ⟨v0,q0,r0⟩:=at_int Tryz.underlying3 H enc w base spare held _ _ g0
 obtain ⟨v1,⟨A1,cc1,q1,l1,C1⟩,r1⟩:=at_slice (d:=k28) Tryz.underlying26 (by kernel_rfl) (fun m' hm' => ih m' (by omega)) H enc w base spare held _ _ g1
 obtain ⟨v2,q2,r2⟩:=at_int Tryz.underlying3 H enc w base spare held _ _ g2
 obtain ⟨v3,q3,r3⟩:=at_int Tryz.underlying22 H enc w base spare held _ _ g3
 obtain ⟨v4,q4,r4⟩:=at_string Tryz.underlying9 H enc w base spare held _ _ g4
 obtain ⟨v5,q5,r5⟩:=at_int Tryz.underlying22 H enc w base spare held _ _ g5
 have q0:[c0]=[Value.int .i64 v0]:=q0
 have q2:[c2]=[Value.int .i64 v2]:=q2
 have q3:[c3]=[Value.int .u64 v3]:=q3
 have q4:[c4]=[Value.string v4]:=q4
 have q5:[c5]=[Value.int .u64 v5]:=q5
 cases q0;cases q1;cases q2;cases q3;cases q4;cases q5
 refine ⟨⟨v0,v1,v2,v3,v4,v5⟩,k28_mk w ⟨v0,v1,v2,v3,v4,v5⟩ l1 C1,?_⟩
 show rngC _=true
 rw [rngC_iff]
 have b2:=wf_i64 r2
 have b3:=wf_u64 r3
 have b5:=wf_u64 r5
 exact ⟨⟨b2.1,b2.2,b3.1,b3.2,b5.1,b5.2⟩,rngL_of fun c hc => r1.2 c hc⟩
set_option maxRecDepth 100000 in
theorem open_cond {H:Type} {enc:TypeId × Value→H} {w:World} {base:Nat} {spare:Nat→Bool} {held:Bool} {b0:Nat} {r:Reach} {v:Value} {D:DataW H} {ps:List MemPlace}
  (hv:Value.okWide Tryz.prog w r b0 28 v) (h:DataW.Trod enc Tryz.prog w base spare held 28 v D ps) :
  ∃ (c:CN) (A:Option Addr) (cap:Nat),v=.agg #[.int .i64 c.f0,.slice A c.f1.length cap,.int .i64 c.f2,.int .u64 c.f3,.string c.f4,.int .u64 c.f5]∧rngC c=true∧Kd.C k28 w A c.f1.length c.f1∧c.f1.length≤cap:=by
 obtain ⟨cs,rfl,_⟩:=okWide_struct Tryz.underlying28 hv
 obtain ⟨n,hn⟩:=h
 obtain ⟨c,hK,hr⟩:=at_cond n H enc w base spare held _ _ hn
 obtain ⟨A,cap,e,l,C⟩:=k28_open hK
 refine ⟨c,A,cap,?_,hr,C,l⟩
 congr 1
 apply Array.ext'
 exact e
end
section
open Go.ChangeShapes Go.WideShapes
def datR (r:RN):Prop:=rngC r.f3=true∧0≤r.f1∧r.f1<18446744073709551616
set_option maxRecDepth 100000 in
theorem at_rule (n:Nat):At Tryz.prog n 47 k47 (fun r => datR r∧r.f2.length≤maxLen):=by
 intro H enc w base spare held cs x h
 obtain ⟨xs,m,rfl,_,hlen,hxl,hf⟩:=DataW.trod_struct Tryz.underlying47 h
 have hc:cs.length=9:=hlen.trans (by kernel_rfl)
 have e9:Tryz.prog.cellsOf 9=1:=by kernel_rfl
 have e22:Tryz.prog.cellsOf 22=1:=by kernel_rfl
 have e45:Tryz.prog.cellsOf 45=1:=by kernel_rfl
 have e28:Tryz.prog.cellsOf 28=6:=by kernel_rfl
 obtain ⟨c0,c1,c2,c3,c4,c5,c6,c7,c8,rfl⟩:=list9 cs hc
 obtain ⟨x0,x1,x2,x3,rfl⟩:=list4 xs hxl
 have g0:DataW.trod enc Tryz.prog w base spare held m 9 [c0]=some x0:=by simpa [e9] using hf 0 _ rfl
 have g1:DataW.trod enc Tryz.prog w base spare held m 22 [c1]=some x1:=by simpa [e22] using hf 1 _ rfl
 have g2:DataW.trod enc Tryz.prog w base spare held m 45 [c2]=some x2:=by simpa [e45] using hf 2 _ rfl
 have g3:DataW.trod enc Tryz.prog w base spare held m 28 [c3,c4,c5,c6,c7,c8]=some x3:=by simpa [e28] using hf 3 _ rfl
 obtain ⟨v0,q0,r0⟩:=at_string Tryz.underlying9 H enc w base spare held _ _ g0
 obtain ⟨v1,q1,r1⟩:=at_int Tryz.underlying22 H enc w base spare held _ _ g1
 obtain ⟨v2,⟨A2,cc2,q2,l2,C2⟩,r2⟩:=at_slice (d:=Kd.string) Tryz.underlying45 (by kernel_rfl) (fun m' hm' => at_string Tryz.underlying9) H enc w base spare held _ _ g2
 obtain ⟨v3,q3,r3⟩:=at_cond m H enc w base spare held _ _ g3
 obtain ⟨A4,cc4,q4,l4,C4⟩:=k28_open q3
 have q0:[c0]=[Value.string v0]:=q0
 have q1:[c1]=[Value.int .u64 v1]:=q1
 cases q0;cases q1;cases q2;cases q4
 refine ⟨⟨v0,v1,v2,v3⟩,k47_mk w ⟨v0,v1,v2,v3⟩ l2 C2 l4 C4,⟨r3,(wf_u64 r1).1,(wf_u64 r1).2⟩,r2.1⟩
set_option maxRecDepth 100000 in
theorem at_policy (n:Nat):At Tryz.prog n 25 k25 (fun p => (0≤p.f2∧p.f2<18446744073709551616)∧∀ r ∈ p.f3,datR r∧r.f2.length≤maxLen):=by
 intro H enc w base spare held cs x h
 obtain ⟨xs,m,rfl,_,hlen,hxl,hf⟩:=DataW.trod_struct Tryz.underlying25 h
 have hc:cs.length=4:=hlen.trans (by kernel_rfl)
 have e9:Tryz.prog.cellsOf 9=1:=by kernel_rfl
 have e22:Tryz.prog.cellsOf 22=1:=by kernel_rfl
 have e23:Tryz.prog.cellsOf 23=1:=by kernel_rfl
 obtain ⟨c0,c1,c2,c3,rfl⟩:=list4 cs hc
 obtain ⟨x0,x1,x2,x3,rfl⟩:=list4 xs hxl
 have g0:DataW.trod enc Tryz.prog w base spare held m 9 [c0]=some x0:=by simpa [e9] using hf 0 _ rfl
 have g1:DataW.trod enc Tryz.prog w base spare held m 9 [c1]=some x1:=by simpa [e9] using hf 1 _ rfl
 have g2:DataW.trod enc Tryz.prog w base spare held m 22 [c2]=some x2:=by simpa [e22] using hf 2 _ rfl
 have g3:DataW.trod enc Tryz.prog w base spare held m 23 [c3]=some x3:=by simpa [e23] using hf 3 _ rfl
 obtain ⟨v0,q0,r0⟩:=at_string Tryz.underlying9 H enc w base spare held _ _ g0
 obtain ⟨v1,q1,r1⟩:=at_string Tryz.underlying9 H enc w base spare held _ _ g1
 obtain ⟨v2,q2,r2⟩:=at_int Tryz.underlying22 H enc w base spare held _ _ g2
 obtain ⟨v3,⟨A3,cc3,q3,l3,C3⟩,r3⟩:=at_slice (d:=k47) Tryz.underlying23 (by kernel_rfl) (fun m' hm' => at_rule m') H enc w base spare held _ _ g3
 have q0:[c0]=[Value.string v0]:=q0
 have q1:[c1]=[Value.string v1]:=q1
 have q2:[c2]=[Value.int .u64 v2]:=q2
 cases q0;cases q1;cases q2;cases q3
 exact ⟨⟨v0,v1,v2,v3⟩,k25_mk w ⟨v0,v1,v2,v3⟩ l3 C3,⟨(wf_u64 r2).1,(wf_u64 r2).2⟩,r3.2⟩
set_option maxRecDepth 100000 in
theorem open_policy {H:Type} {enc:TypeId × Value→H} {w:World} {base:Nat} {spare:Nat→Bool} {held:Bool} {b0:Nat} {r:Reach} {v:Value} {D:DataW H} {ps:List MemPlace}
  (hv:Value.okWide Tryz.prog w r b0 25 v) (h:DataW.Trod enc Tryz.prog w base spare held 25 v D ps) :
  ∃ (a d:ByteArray) (n:Int) (rs:List RN) (A:Option Addr) (cap:Nat),v=.agg #[.string a,.string d,.int .u64 n,.slice A rs.length cap]∧0≤n∧n<18446744073709551616∧(∀ r ∈ rs,datR r∧r.f2.length≤maxLen)∧Kd.C k47 w A rs.length rs∧rs.length≤cap:=by
 obtain ⟨cs,rfl,_⟩:=okWide_struct Tryz.underlying25 hv
 obtain ⟨n,hn⟩:=h
 obtain ⟨p,hK,hr⟩:=at_policy n H enc w base spare held _ _ hn
 obtain ⟨A,cap,e,l,C⟩:=k25_open hK
 refine ⟨p.f0,p.f1,p.f2,p.f3,A,cap,?_,hr.1.1,hr.1.2,hr.2,C,l⟩
 congr 1
 apply Array.ext'
 exact e
end

end Go.Proofs.YtdfjjimmnbijmaaGreatDoor.ZQ

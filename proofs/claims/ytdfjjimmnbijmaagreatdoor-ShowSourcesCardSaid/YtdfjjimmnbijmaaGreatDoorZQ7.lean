-- Written for this claim by myprint.py over the kit's print (functions of this session supplied)
import Derived.Test.YtdfjjimmnbijmaaGreatDoorZQ0
import Derived.Test.YtdfjjimmnbijmaaGreatDoorZQ3
import Derived.Test.YtdfjjimmnbijmaaGreatDoorZQ6
namespace Go.Proofs.YtdfjjimmnbijmaaGreatDoor.ZQ
open Go.RowKit Go.Proofs.YtdfjjimmnbijmaaGreatDoorW.PrintWords Go.Proofs.YtdfjjimmnbijmaaGreatDoorW.PrintLast Go.Proofs.YtdfjjimmnbijmaaGreatDoorW.PrintMore Go.Proofs.YtdfjjimmnbijmaaGreatDoor.Base
attribute [local go_sem] max2_int min2_int max_two min_two max_three min_three max_four min_four   -- for this text's walks alone
set_option linter.unusedVariables false
set_option linter.unusedSimpArgs false

/-! ### lex_Number: function 51 -/
/-- How many bytes from a place on are of a kind. -/
def runS (p:Int→Bool) (s:ByteArray):Nat→Nat→Nat
 |  0,_ => 0
 |  d+1,i => if p (bt s i) then runS p s d (i+1)+1 else 0
theorem runS_le (p:Int→Bool) (s:ByteArray):∀ d i,runS p s d i≤d
 |  0,_ => Nat.le_refl _
 |  d+1,i => by
  rw [runS]
  split
  ·have:=runS_le p s d (i+1);omega
  ·omega
theorem Drawn0.trans_ {w w1 w2:World} (h:Drawn0 w w1) (k:Drawn0 w1 w2):Drawn0 w w2:=by
 obtain ⟨m,rfl⟩:=k
 exact h.step m
set_option maxHeartbeats 800000 in
set_option maxRecDepth 100000 in
theorem run_any (F:Nat) (p:Int→Bool) (w:World) (he:∀ (args:Array Value) (W:World),(callFunc F args).run Tryz.prog W=.ok (.enter F args) W) (hp:∀ (c:Int) (W:World),0≤c→c≤255→Drawn0 w W→Calls Tryz.prog F #[.int .u8 c] W fun e w' => e=.returned (.bool (p c))∧Drawn0 W w') (s:ByteArray) (hs:s.size≤1000000) (at_:Nat) (ha:at_≤s.size) :
  Calls Tryz.prog 46 #[.string s,.int .i64 at_,.func (.func F) #[] #[]] w fun e w' => e=.returned (.int .i64 (runS p s (s.size - at_) at_))∧Drawn0 w w':=by
 have HP:=Aside0.mk hp
 clear hp
 go_enter Tryz.func46,Tryz.ntmps46
 go_wp2_with fail
 go_loopw [7] (fun i wr =>∃n:Nat,i=.int .i64 n∧Aside0 (n≤s.size - at_)∧Aside0 (runS p s (s.size - at_) at_=n+runS p s (s.size - at_ - n) (at_+n))∧Drawn0 w wr) (fun i _ => s.size - at_ - (intOf i).toNat)
 case atStart => exact ⟨0,rfl,⟨Nat.zero_le _⟩,⟨by simp⟩,Drawn0.refl _⟩
 case round =>
  obtain ⟨n,rfl,hn,hr,hd⟩:=hrel
  have hns:=hn.out
  by_cases hlt:at_+n<s.size
  ·have c1:decide ((at_:Int)+(n:Int)<(s.size:Int))=true:=decide_eq_true (by omega)
   have p1:(0≤(at_:Int)+(n:Int))=True:=eq_true (by omega)
   have q1:((at_:Int)+(n:Int)<(s.size:Int))=True:=eq_true (by omega)
   have hx:=bt_at s ((at_:Int)+(n:Int))
   have hb:=bt_range s ((at_:Int)+(n:Int))
   have hc:=HP.out (bt s ((at_:Int)+(n:Int))) wr hb.1 hb.2 hd
   have hS:runS p s (s.size - at_ - n) (at_+n)=if p (bt s ((at_:Int)+(n:Int))) then runS p s (s.size - at_ - (n+1)) (at_+(n+1))+1 else 0:=by
    obtain ⟨m,hm⟩:∃ m,s.size - at_ - n=m+1:=⟨s.size - at_ - n - 1,by omega⟩
    rw [hm,runS,show m=s.size - at_ - (n+1) by omega,show at_+n+1=at_+(n+1) by omega,show ((at_+n:Nat):Int)=(at_:Int)+(n:Int) by omega]
   cases hpb:p (bt s ((at_:Int)+(n:Int))) with
   |  true =>
    rw [hpb] at hc hS
    rw [if_pos rfl] at hS
    have HC:=Aside0.mk hc
    have HS:=Aside0.mk hS
    clear hc hS hpb hb hns
    have hr1:=hr
    go_wp2_with (((with_reducible refine HC.out.mono ?_);rintro e w' ⟨rfl,hd2⟩))
    go_roundw
    case rel => exact ⟨n+1,by go_num,⟨by omega⟩,⟨by rw [hr.out,HS.out];omega⟩,Drawn0.trans_ hd hd2⟩
    case measure => simp [intOf];omega
   |  false =>
    rw [hpb] at hc hS
    rw [if_neg (by decide)] at hS
    have HC:=Aside0.mk hc
    have HS:=Aside0.mk hS
    clear hc hS hpb hb hns
    go_wp2_with (((with_reducible refine HC.out.mono ?_);rintro e w' ⟨rfl,hd2⟩))
    go_ret
    exact ⟨by rw [hr.out,HS.out];rfl,Drawn0.trans_ hd hd2⟩
  ·have c1:decide ((at_:Int)+(n:Int)<(s.size:Int))=false:=decide_eq_false (by omega)
   have e0:s.size - at_ - n=0:=by omega
   have HE:=Aside0.mk e0
   clear e0
   go_wp2_with fail
   go_ret
   exact ⟨by rw [hr.out,HE.out,runS];rfl,hd⟩
def signsL:List ByteArray:=[⟨#[61,61]⟩,⟨#[33,61]⟩,⟨#[60,61]⟩,⟨#[62,61]⟩,⟨#[60]⟩,⟨#[62]⟩,⟨#[38]⟩,⟨#[40]⟩,⟨#[41]⟩]
def preS (s x:ByteArray):Bool:=decide (x.size≤s.size) && ((s.extract 0 x.size).toList==x.toList)
theorem preS_f (s x:ByteArray):strings_HasPrefix.f s x=some (preS s x):=by
 unfold strings_HasPrefix.f stringslite_HasPrefix.f preS
 by_cases h:x.size≤s.size
 ·rw [if_pos (show (s.size:Int) ≥ (x.size:Int) by omega),if_pos (show (0:Int)≤(x.size:Int) by omega),if_pos (show (x.size:Int)≤(s.size:Int) by omega)]
  simp [h]
 ·rw [if_neg (show ¬ (s.size:Int) ≥ (x.size:Int) by omega)]
  simp [h]
def signFrom (s:ByteArray):List ByteArray→ByteArray
 |  [] => ⟨#[]⟩
 |  x :: l => if preS s x then x else signFrom s l
theorem sign_cells (w:World):∀ (j:Nat) (x:ByteArray),signsL[j]?=some x→(w.alloc (.cells #[.string ⟨#[61,61]⟩,.string ⟨#[33,61]⟩,.string ⟨#[60,61]⟩,.string ⟨#[62,61]⟩,.string ⟨#[60]⟩,.string ⟨#[62]⟩,.string ⟨#[38]⟩,.string ⟨#[40]⟩,.string ⟨#[41]⟩] 9)).cell? ⟨w.heap.size,j,none⟩=some (.string x):=by
 intro j x hj
 have h:=World.news_of_block (cs:=#[.string ⟨#[61,61]⟩,.string ⟨#[33,61]⟩,.string ⟨#[60,61]⟩,.string ⟨#[62,61]⟩,.string ⟨#[60]⟩,.string ⟨#[62]⟩,.string ⟨#[38]⟩,.string ⟨#[40]⟩,.string ⟨#[41]⟩]) (t:=9) (fr:=(0,0)) (heap_alloc_new w _) j (.string x) (by
  have e:(signsL.map Value.string)[j]?=some (.string x):=by rw [List.getElem?_map,hj];rfl
  exact e)
 rwa [add_plain] at h
set_option maxHeartbeats 1600000 in
set_option maxRecDepth 100000 in
theorem sign_any (s:ByteArray) (w:World) (hLd:LaidAt w) :
  Calls Tryz.prog 52 #[.string s] w fun e w' => e=.returned (.string (signFrom s signsL))∧Below w.heap.size w w':=by
 go_enter Tryz.func52,Tryz.ntmps52
 go_wp2_with fail
 go_step3
 go_wp2_with fail
 go_step3
 go_wp2_with fail
 go_loopw [3,8] (fun v3 i wr =>∃k:Nat,v3=.string ⟨#[]⟩∧i=.int .i64 k∧Aside0 (k≤9)∧Aside0 (signFrom s signsL=signFrom s (signsL.drop k))∧Aside0 (∀ j x,signsL[j]?=some x→wr.cell? ⟨w.heap.size,j,none⟩=some (.string x))∧Aside0 (Below w.heap.size w wr)) (fun _ i _ => 9 - (intOf i).toNat)
 case atStart => exact ⟨0,rfl,rfl,⟨by omega⟩,⟨rfl⟩,⟨fun j x hj => sign_cells w j x hj⟩,⟨(Below.refl _ _).alloc (Nat.le_refl _) _⟩⟩
 case round =>
  obtain ⟨k,rfl,rfl,hk,hs,hc,hb⟩:=hrel
  by_cases hlt:k<9
  ·obtain ⟨x,hx⟩:∃ x,signsL[k]?=some x:=⟨signsL[k]'hlt,List.getElem?_eq_getElem hlt⟩
   have hcell:=hc.out k x hx
   have hD:signFrom s (signsL.drop k)=if preS s x then x else signFrom s (signsL.drop (k+1)):=by
    obtain ⟨h1,h2⟩:=List.getElem?_eq_some_iff.1 hx
    rw [List.drop_eq_getElem_cons h1,h2];rfl
   have HX:=Aside0.mk hx
   clear hx
   have c1:decide ((k:Int)<9)=true:=decide_eq_true (by omega)
   have p1:(0≤(k:Int))=True:=eq_true (by omega)
   have hp:=preS_f s x
   cases hpb:preS s x with
   |  true =>
    rw [hpb] at hp
    rw [hpb,if_pos rfl] at hD
    have HP:=Aside0.mk hp
    have HD:=Aside0.mk hD
    clear hp hD hpb
    go_wp2_with ((with_reducible refine (strings_HasPrefix.calls s x true _ ?hl HP.out).mono ?_);(case hl => exact LaidAt.of hLd hb.out);rintro e w' ⟨rfl,⟨nd,rfl⟩⟩)
    rw [Exit.noGoto_ret]
    go_ret
    exact ⟨by rw [hs.out,HD.out];rfl,pw_below_drewN hb.out _⟩
   |  false =>
    rw [hpb] at hp
    rw [hpb,if_neg (by decide)] at hD
    have HP:=Aside0.mk hp
    have HD:=Aside0.mk hD
    clear hp hD hpb
    go_wp2_with ((with_reducible refine (strings_HasPrefix.calls s x false _ ?hl HP.out).mono ?_);(case hl => exact LaidAt.of hLd hb.out);rintro e w' ⟨rfl,⟨nd,rfl⟩⟩)
    go_roundw
    case rel => exact ⟨k+1,rfl,by go_num,⟨by omega⟩,⟨by rw [hs.out,HD.out]⟩,⟨fun j x hj => hc.out j x hj⟩,⟨pw_below_drewN hb.out _⟩⟩
    case measure => simp [intOf];omega
  ·have c1:decide ((k:Int)<9)=false:=decide_eq_false (by omega)
   go_wp2_with fail
   rw [Exit.noGoto_ret]
   go_ret
   exact ⟨by rw [hs.out,List.drop_of_length_le (show signsL.length≤k by simp [signsL];omega)];rfl,hb.out⟩
def nP (base c:Int):Bool:=(decide (48≤c) && decide (c≤57)) || (base==16 && (decide (97≤c) && decide (c≤102)))
def cutN (s:ByteArray):Int × ByteArray:=if preS s ⟨#[48,120]⟩ then (16,s.extract 2 s.size) else (10,s)
def numV (b:Int) (r:ByteArray):Option Nat :=
 if r.size=0 ∨ 20<r.size ∨ (b=16∧16<r.size) then none
 else if b=10∧1<r.size∧bt r 0=48 then none
 else if runS (nP b) r r.size 0<r.size then none
 else if b=16 then some (hexV 0 r.data.toList)
 else match Lib.parseUintB 64 r.data.toList with|.ok u => some u|_ => none
def numS (s:ByteArray):Option Nat:=numV (cutN s).1 (cutN s).2
def numR:Option Nat→Int × Bool|none => (0,false)|some u => (u,true)
theorem cutN_true {s:ByteArray} (h:preS s ⟨#[48,120]⟩=true):strings_CutPrefix.f s ⟨#[48,120]⟩=some (s.extract 2 s.size,true)∧2≤s.size:=by
 have h2:2≤s.size:=by
  unfold preS at h
  simp only [Bool.and_eq_true,decide_eq_true_eq] at h
  exact h.1
 refine ⟨?_,h2⟩
 have hh:stringslite_HasPrefix.f s ⟨#[48,120]⟩=some true:=by
  have:=preS_f s ⟨#[48,120]⟩
  rw [h] at this
  unfold strings_HasPrefix.f at this
  cases hq:stringslite_HasPrefix.f s ⟨#[48,120]⟩ with
  |  none => rw [hq] at this;cases this
  |  some b => rw [hq] at this;exact this
 unfold strings_CutPrefix.f stringslite_CutPrefix.f
 rw [hh]
 have e:((⟨#[48,120]⟩:ByteArray).size:Int)=2:=rfl
 simp only [Option.bind_some,e]
 rw [if_pos trivial,if_pos (by omega),if_pos (by omega)]
 rfl
theorem cutN_false {s:ByteArray} (h:preS s ⟨#[48,120]⟩=false):strings_CutPrefix.f s ⟨#[48,120]⟩=some (s,false):=by
 have hh:stringslite_HasPrefix.f s ⟨#[48,120]⟩=some false:=by
  have:=preS_f s ⟨#[48,120]⟩
  rw [h] at this
  unfold strings_HasPrefix.f at this
  cases hq:stringslite_HasPrefix.f s ⟨#[48,120]⟩ with
  |  none => rw [hq] at this;cases this
  |  some b => rw [hq] at this;exact this
 unfold strings_CutPrefix.f stringslite_CutPrefix.f
 rw [hh]
 simp
theorem run_all (p:Int→Bool) (s:ByteArray):∀ d i,runS p s d i=d→∀ j,i≤j→j<i+d→p (bt s j)=true
 |  0,_,_,j,h1,h2 => by omega
 |  d+1,i,h,j,h1,h2 => by
  rw [runS] at h
  split at h
  ·rename_i hp
   by_cases e:j=i
   ·subst e;exact hp
   ·exact run_all p s d (i+1) (by omega) j (by omega) (by omega)
  ·omega
theorem bt_get (s:ByteArray) (j:Nat) (b:UInt8) (h:s.data.toList[j]?=some b):bt s j=b.toNat:=by
 obtain ⟨h1,h2⟩:=List.getElem?_eq_some_iff.1 h
 have hj:j<s.size:=by rw [Lib.size_eq];exact h1
 have e:s[j]'hj=b:=by rw [← h2];simp [ByteArray.getElem_eq_getElem_data]
 rw [← bt_at s j (by simpa using hj)]
 simp [e]
theorem mem_bt (s:ByteArray) (b:UInt8) (h:b ∈ s.data.toList):∃ j:Nat,j<s.size∧bt s j=b.toNat:=by
 obtain ⟨j,hj,e⟩:=List.mem_iff_getElem.1 h
 exact ⟨j,by rw [Lib.size_eq];exact hj,bt_get s j b (List.getElem?_eq_some_iff.2 ⟨hj,e⟩)⟩
theorem all_nP (b:Int) (r:ByteArray) (h:runS (nP b) r r.size 0=r.size):∀ c ∈ r.data.toList,nP b c.toNat=true:=by
 intro c hc
 obtain ⟨j,hj,e⟩:=mem_bt r c hc
 rw [← e]
 exact run_all (nP b) r r.size 0 h j (by omega) (by omega)
theorem nP_cases {b:Int} {c:Nat} (h:nP b c=true):(48≤c∧c≤57) ∨ (b=16∧97≤c∧c≤102):=by
 simp only [nP,Bool.or_eq_true,Bool.and_eq_true,decide_eq_true_eq,beq_iff_eq] at h
 omega
theorem lower_same {l:List UInt8} {b:Int} (h:∀ c ∈ l,nP b c.toNat=true):Lib.toLowerD l=l:=by
 rw [Lib.toLowerD_ascii l (fun c hc => by rcases nP_cases (h c hc) with q|q<;>omega)]
 unfold Lib.toLowerA
 conv => rhs;rw [← List.map_id l]
 apply List.map_congr_left
 intro c hc
 have:=nP_cases (h c hc)
 unfold Lib.lowerB Lib.isUpperB
 rw [if_neg];· rfl
 intro hu
 simp only [Bool.and_eq_true,decide_eq_true_eq,UInt8.le_iff_toNat_le] at hu
 have e1:(65:UInt8).toNat=65:=rfl
 have e2:(90:UInt8).toNat=90:=rfl
 omega

def dS (c:Int):Bool:=decide (48≤c) && decide (c≤57)
theorem dS_f (c:Int):lex_digit.f c=some (dS c):=by
 unfold lex_digit.f dS
 by_cases h:c ≥ 48
 ·rw [if_pos h];simp [h]
 ·rw [if_neg h];simp [h]
theorem tl_inj {a b:ByteArray} (h:a.toList=b.toList):a=b:=by
 apply ByteArray.ext;apply Array.ext'
 rw [← Lib.toList_data a,← Lib.toList_data b];exact h
set_option maxHeartbeats 8000000 in
set_option maxRecDepth 100000 in
theorem num_any16 (s:ByteArray) (hs:s.size≤1000000) (hp:preS s ⟨#[48,120]⟩=true) (w:World) (hLd:LaidAt w) :
  Calls Tryz.prog 51 #[.string s] w fun e w' => e=.returned (.tuple #[.int .u64 (numR (numS s)).1,.bool (numR (numS s)).2])∧Below w.heap.size w w':=by
 obtain ⟨hcut,h2⟩:=cutN_true hp
 have hN:numS s=numV 16 (s.extract 2 s.size):=by unfold numS cutN;rw [if_pos hp]
 rw [hN]
 clear hN
 have hr:(s.extract 2 s.size).size≤1000000:=by simp;omega
 generalize s.extract 2 s.size=r at hcut hr ⊢
 have HCUT:=Aside0.mk hcut
 have HLD:=Aside0.mk hLd
 have HP:=Aside0.mk hp
 clear hcut hLd hp
 have e0:r.toList.isEmpty=decide (r.size=0):=by
  rw [← decide_eq_emptyBytes]
  congr 1
  rw [Lib.size_eq,eq_iff_iff]
  constructor
  ·rintro rfl;rfl
  ·intro h;apply ByteArray.ext;exact Array.eq_empty_of_size_eq_zero h
 by_cases hr0:r.size=0
 ·have hemp:r.toList.isEmpty=true:=by rw [e0];exact decide_eq_true hr0
  have hV:numV 16 r=none:=by unfold numV;rw [if_pos (Or.inl hr0)]
  rw [hV]
  clear hV e0
  go_enter Tryz.func51,Tryz.ntmps51
  go_wp2_with ((with_reducible refine (strings_CutPrefix.calls s _ _ true _ HLD.out HCUT.out).mono ?_);rintro e w' ⟨rfl,⟨nd,rfl⟩⟩)
  go_ret2
  exact ⟨rfl,pw_below_drewN (Below.refl _ _) _⟩
 have hemp:r.toList.isEmpty=false:=by rw [e0];exact decide_eq_false hr0
 clear e0
 obtain ⟨q,hq⟩:∃ q:ByteArray,q=⟨(Lib.toLowerD r.data.toList).toArray⟩:=⟨_,rfl⟩
 have hLo:∀ W,LaidAt W→Calls Tryz.prog 76 #[.string r] W fun e w' => e=.returned (.string q)∧Below W.heap.size W w':=fun W hW => by
  rw [hq];exact Tryz.strings_ToLower_any r W (by omega) hW.cas hW.u8
 have hqn:q ≠ r→numV 16 r=none:=by
  intro hne
  unfold numV
  by_cases c1:r.size=0 ∨ 20<r.size ∨ ((16:Int)=16∧16<r.size)
  ·rw [if_pos c1]
  ·rw [if_neg c1,if_neg (by simp)]
   by_cases c2:runS (nP 16) r r.size 0<r.size
   ·rw [if_pos c2]
   ·exfalso
    have:=lower_same (all_nP 16 r (by have:=runS_le (nP 16) r r.size 0;omega))
    exact hne (by rw [hq,this])
 have HQ:=Aside0.mk hq
 have HLO:=Aside0.mk hLo
 clear hq hLo
 by_cases hqr:¬ q=r
 ·have hV:=hqn hqr
  rw [hV]
  have l1:¬ r.toList=q.toList:=fun e => hqr (tl_inj e.symm)
  have l2:(r.toList==q.toList)=false:=by simpa using l1
  clear hV hqn hqr
  go_enter Tryz.func51,Tryz.ntmps51
  go_wp2_with (first|((with_reducible refine (strings_CutPrefix.calls s _ _ true _ HLD.out HCUT.out).mono ?_);rintro e w' ⟨rfl,⟨nd,rfl⟩⟩)|((with_reducible refine (HLO.out _ ?hl).mono ?_);(case hl => exact LaidAt.drewN HLD.out);rintro e w' ⟨rfl,hb⟩))
  go_ret2
  exact ⟨rfl,(pw_below_drewN (Below.refl _ _) nd).trans hb⟩
 have hqr:=Decidable.not_not.1 hqr
 subst hqr
 clear hqn
 by_cases h20:20<q.size
 ·have hV:numV 16 q=none:=by unfold numV;rw [if_pos (Or.inr (Or.inl h20))]
  rw [hV]
  clear hV
  have c20:decide (20<(q.size:Int))=true:=decide_eq_true (by omega)
  go_enter Tryz.func51,Tryz.ntmps51
  go_wp2_with (first|((with_reducible refine (strings_CutPrefix.calls s _ _ true _ HLD.out HCUT.out).mono ?_);rintro e w' ⟨rfl,⟨nd,rfl⟩⟩)|((with_reducible refine (HLO.out _ ?hl).mono ?_);(case hl => exact LaidAt.drewN HLD.out);rintro e w' ⟨rfl,hb⟩))
  go_ret2
  exact ⟨rfl,(pw_below_drewN (Below.refl _ _) nd).trans hb⟩
 have c20:decide (20<(q.size:Int))=false:=decide_eq_false (by omega)
 by_cases h16:16<q.size
 ·have hV:numV 16 q=none:=by unfold numV;rw [if_pos (Or.inr (Or.inr ⟨rfl,h16⟩))]
  rw [hV]
  clear hV
  have c16:decide (16<(q.size:Int))=true:=decide_eq_true (by omega)
  go_enter Tryz.func51,Tryz.ntmps51
  go_wp2_with (first|((with_reducible refine (strings_CutPrefix.calls s _ _ true _ HLD.out HCUT.out).mono ?_);rintro e w' ⟨rfl,⟨nd,rfl⟩⟩)|((with_reducible refine (HLO.out _ ?hl).mono ?_);(case hl => exact LaidAt.drewN HLD.out);rintro e w' ⟨rfl,hb⟩))
  go_ret2
  exact ⟨rfl,(pw_below_drewN (Below.refl _ _) nd).trans hb⟩
 have c16:decide (16<(q.size:Int))=false:=decide_eq_false (by omega)
 have hV:numV 16 q=if runS (nP 16) q q.size 0<q.size then none else some (hexV 0 q.data.toList):=by
  unfold numV
  rw [if_neg (by omega),if_neg (by simp)]
  rfl
 obtain ⟨R,hR⟩:∃ R,R=numV 16 q:=⟨_,rfl⟩
 rw [← hR]
 have HR:=Aside0.mk (hR.trans hV)
 clear hV hR
 go_enter Tryz.func51,Tryz.ntmps51
 go_wp2_with (first|((with_reducible refine (strings_CutPrefix.calls s _ _ true _ HLD.out HCUT.out).mono ?_);rintro e w' ⟨rfl,⟨nd,rfl⟩⟩)|((with_reducible refine (HLO.out _ ?hl).mono ?_);(case hl => exact LaidAt.drewN HLD.out);rintro e w' ⟨rfl,hb⟩))
 go_loopw [58] (fun i wr =>∃n:Nat,i=.int .i64 n∧Aside0 (n≤q.size)∧Aside0 (runS (nP 16) q q.size 0=n+runS (nP 16) q (q.size - n) n)∧Aside0 (Below w.heap.size w wr)) (fun i _ => q.size - (intOf i).toNat)
 case atStart => exact ⟨0,rfl,⟨Nat.zero_le _⟩,⟨by simp⟩,⟨(pw_below_drewN (Below.refl _ _) nd).trans hb⟩⟩
 case round =>
  obtain ⟨n,rfl,hn,hrun,hB⟩:=hrel
  have hns:=hn.out
  by_cases hlt:n<q.size
  ·have c1:decide ((n:Int)<(q.size:Int))=true:=decide_eq_true (by omega)
   have p1:(0≤(n:Int))=True:=eq_true (by omega)
   have q1:((n:Int)<(q.size:Int))=True:=eq_true (by omega)
   have hx:((q[n]'hlt).toNat:Int)=bt q (n:Int):=by have:=bt_at q (n:Int) (by simpa using hlt);simpa using this
   have hbr:=bt_range q (n:Int)
   have hS:runS (nP 16) q (q.size - n) n=if nP 16 (bt q (n:Int)) then runS (nP 16) q (q.size - (n+1)) (n+1)+1 else 0:=by
    obtain ⟨m,hm⟩:∃ m,q.size - n=m+1:=⟨q.size - n - 1,by omega⟩
    rw [hm,runS,show m=q.size - (n+1) by omega]
   have hd:=dS_f (bt q (n:Int))
   have HD:=Aside0.mk hd
   have HB:=Aside0.mk hbr
   clear hd hbr hb
   cases hpb:nP 16 (bt q (n:Int)) with
   |  true =>
    rw [hpb,if_pos rfl] at hS
    have HS:=Aside0.mk hS
    clear hS
    cases hdb:dS (bt q (n:Int)) with
    |  true =>
     rw [hdb] at HD
     go_wp2_with ((with_reducible refine (lex_digit.calls _ _ _ ?hl HD.out).mono ?_);(case hl => exact LaidAt.of HLD.out hB.out);rintro e w' ⟨rfl,⟨nd,rfl⟩⟩)
     go_roundw
     case rel => exact ⟨n+1,by go_num,⟨by omega⟩,⟨by rw [hrun.out,HS.out];omega⟩,⟨pw_below_drewN hB.out _⟩⟩
     case measure => simp [intOf];omega
    |  false =>
     rw [hdb] at HD
     have hx2:97≤bt q (n:Int)∧bt q (n:Int)≤102:=by
      simp only [nP,Bool.or_eq_true,Bool.and_eq_true,decide_eq_true_eq] at hpb
      simp only [dS,Bool.and_eq_false_iff,decide_eq_false_iff_not] at hdb
      omega
     have k1:decide (97≤bt q (n:Int))=true:=decide_eq_true hx2.1
     have k2:decide (bt q (n:Int)≤102)=true:=decide_eq_true hx2.2
     clear hx2
     go_wp2_with ((with_reducible refine (lex_digit.calls _ _ _ ?hl HD.out).mono ?_);(case hl => exact LaidAt.of HLD.out hB.out);rintro e w' ⟨rfl,⟨nd,rfl⟩⟩)
     go_roundw
     case rel => exact ⟨n+1,by go_num,⟨by omega⟩,⟨by rw [hrun.out,HS.out];omega⟩,⟨pw_below_drewN hB.out _⟩⟩
     case measure => simp [intOf];omega
   |  false =>
    rw [hpb,if_neg (by decide)] at hS
    have hres:runS (nP 16) q q.size 0<q.size:=by rw [hrun.out,hS];omega
    have HRES:=Aside0.mk hres
    clear hS hres
    have hdb:dS (bt q (n:Int))=false:=by
     simp only [nP,Bool.or_eq_false_iff] at hpb
     exact hpb.1
    rw [hdb] at HD
    by_cases hk1:97≤bt q (n:Int)
    ·have k1:decide (97≤bt q (n:Int))=true:=decide_eq_true hk1
     have k2:decide (bt q (n:Int)≤102)=false:=by
      simp only [nP,Bool.or_eq_false_iff,Bool.and_eq_false_iff,k1] at hpb
      simpa using hpb.2
     clear hk1
     go_wp2_with ((with_reducible refine (lex_digit.calls _ _ _ ?hl HD.out).mono ?_);(case hl => exact LaidAt.of HLD.out hB.out);rintro e w' ⟨rfl,⟨nd,rfl⟩⟩)
     go_ret2
     rw [HR.out,if_pos HRES.out]
     exact ⟨rfl,pw_below_drewN hB.out _⟩
    ·have k1:decide (97≤bt q (n:Int))=false:=decide_eq_false hk1
     clear hk1
     go_wp2_with ((with_reducible refine (lex_digit.calls _ _ _ ?hl HD.out).mono ?_);(case hl => exact LaidAt.of HLD.out hB.out);rintro e w' ⟨rfl,⟨nd,rfl⟩⟩)
     go_ret2
     rw [HR.out,if_pos HRES.out]
     exact ⟨rfl,pw_below_drewN hB.out _⟩
  ·have c1:decide ((n:Int)<(q.size:Int))=false:=decide_eq_false (by omega)
   have hrn:runS (nP 16) q q.size 0=q.size:=by rw [hrun.out,show q.size - n=0 by omega,runS];omega
   have HNR:=Aside0.mk (show ¬ runS (nP 16) q q.size 0<q.size by omega)
   have hok:hexOk q.data.toList:=fun c hc => by
    have:=nP_cases (all_nP 16 q hrn c hc)
    omega
   have HPU:=Aside0.mk (show ∀ W,Calls Tryz.prog 77 #[.string q,.int .i64 16,.int .i64 64] W fun e w' => e=.returned (.tuple #[.int .u64 (hexV 0 q.data.toList),.nilIface])∧Below W.heap.size W w' from fun W =>
    (Any.strconv_ParseUint_16_at64_ok Tryz.laysPu14 q hr0 (by omega) hok W).mono fun e w' ⟨h1,h2⟩ => ⟨h1,by rw [h2];exact Lib.bytesWorld_below _ _ _⟩)
   clear hok hb hrn
   go_wp2_with ((with_reducible refine (HPU.out _).mono ?_);rintro e w' ⟨rfl,hb2⟩)
   go_ret2
   rw [HR.out,if_neg HNR.out]
   exact ⟨rfl,hB.out.trans (hb2.mono hB.out.size)⟩
theorem dec_ok:∀ (l:List UInt8),l ≠ []→(∀ c ∈ l,48≤c.toNat∧c.toNat≤57)→(∃ u,Lib.parseUintB 64 l=.ok u) ∨ Lib.parseUintB 64 l=.range:=by
 have h:∀ (l:List UInt8) (acc:Nat),(∀ c ∈ l,48≤c.toNat∧c.toNat≤57)→(∃ u,Lib.parseUintM (2 ^ 64 - 1) acc l=.ok u) ∨ Lib.parseUintM (2 ^ 64 - 1) acc l=.range:=by
  intro l
  induction l with
  |  nil => intro acc _;exact Or.inl ⟨acc,rfl⟩
  |  cons c r ih =>
   intro acc hc
   rw [Lib.parseUintM,if_pos (hc c List.mem_cons_self)]
   split
   ·exact Or.inr rfl
   ·split
    ·exact Or.inr rfl
    ·exact ih _ (fun x hx => hc x (List.mem_cons_of_mem _ hx))
 intro l hne hc
 rw [Lib.parseUintB,if_neg hne]
 exact h l 0 hc
set_option maxHeartbeats 8000000 in
set_option maxRecDepth 100000 in
theorem num_any10 (s:ByteArray) (hs:s.size≤1000000) (hp:preS s ⟨#[48,120]⟩=false) (w:World) (hLd:LaidAt w) :
  Calls Tryz.prog 51 #[.string s] w fun e w' => e=.returned (.tuple #[.int .u64 (numR (numS s)).1,.bool (numR (numS s)).2])∧Below w.heap.size w w':=by
 have hcut:=cutN_false hp
 have hN:numS s=numV 10 s:=by unfold numS cutN;rw [hp];rfl
 rw [hN]
 clear hN
 obtain ⟨r,hrs⟩:∃ r,r=s:=⟨_,rfl⟩
 have hcut:strings_CutPrefix.f r ⟨#[48,120]⟩=some (r,false):=by rw [hrs];exact hcut
 have hr:r.size≤1000000:=by rw [hrs];exact hs
 rw [← hrs]
 clear hrs hs
 have HCUT:=Aside0.mk hcut
 have HLD:=Aside0.mk hLd
 have HP:=Aside0.mk hp
 clear hcut hLd hp
 have e0:r.toList.isEmpty=decide (r.size=0):=by
  rw [← decide_eq_emptyBytes]
  congr 1
  rw [Lib.size_eq,eq_iff_iff]
  constructor
  ·rintro rfl;rfl
  ·intro h;apply ByteArray.ext;exact Array.eq_empty_of_size_eq_zero h
 by_cases hr0:r.size=0
 ·have hemp:r.toList.isEmpty=true:=by rw [e0];exact decide_eq_true hr0
  have hV:numV 10 r=none:=by unfold numV;rw [if_pos (Or.inl hr0)]
  rw [hV]
  clear hV e0
  go_enter Tryz.func51,Tryz.ntmps51
  go_wp2_with ((with_reducible refine (strings_CutPrefix.calls _ _ _ false _ HLD.out HCUT.out).mono ?_);rintro e w' ⟨rfl,⟨nd,rfl⟩⟩)
  go_ret2
  exact ⟨rfl,pw_below_drewN (Below.refl _ _) _⟩
 have hemp:r.toList.isEmpty=false:=by rw [e0];exact decide_eq_false hr0
 clear e0
 obtain ⟨q,hq⟩:∃ q:ByteArray,q=⟨(Lib.toLowerD r.data.toList).toArray⟩:=⟨_,rfl⟩
 have hLo:∀ W,LaidAt W→Calls Tryz.prog 76 #[.string r] W fun e w' => e=.returned (.string q)∧Below W.heap.size W w':=fun W hW => by
  rw [hq];exact Tryz.strings_ToLower_any r W (by omega) hW.cas hW.u8
 have hqn:q ≠ r→numV 10 r=none:=by
  intro hne
  unfold numV
  by_cases c1:r.size=0 ∨ 20<r.size ∨ ((10:Int)=16∧16<r.size)
  ·rw [if_pos c1]
  ·rw [if_neg c1]
   by_cases c3:(10:Int)=10∧1<r.size∧bt r 0=48
   ·rw [if_pos c3]
   rw [if_neg c3]
   by_cases c2:runS (nP 10) r r.size 0<r.size
   ·rw [if_pos c2]
   ·exfalso
    have:=lower_same (all_nP 10 r (by have:=runS_le (nP 10) r r.size 0;omega))
    exact hne (by rw [hq,this])
 have HQ:=Aside0.mk hq
 have HLO:=Aside0.mk hLo
 clear hq hLo
 by_cases hqr:¬ q=r
 ·have hV:=hqn hqr
  rw [hV]
  have l1:¬ r.toList=q.toList:=fun e => hqr (tl_inj e.symm)
  have l2:(r.toList==q.toList)=false:=by simpa using l1
  clear hV hqn hqr
  go_enter Tryz.func51,Tryz.ntmps51
  go_wp2_with (first|((with_reducible refine (strings_CutPrefix.calls _ _ _ false _ HLD.out HCUT.out).mono ?_);rintro e w' ⟨rfl,⟨nd,rfl⟩⟩)|((with_reducible refine (HLO.out _ ?hl).mono ?_);(case hl => exact LaidAt.drewN HLD.out);rintro e w' ⟨rfl,hb⟩))
  go_ret2
  exact ⟨rfl,(pw_below_drewN (Below.refl _ _) nd).trans hb⟩
 have hqr:=Decidable.not_not.1 hqr
 subst hqr
 clear hqn
 by_cases h20:20<q.size
 ·have hV:numV 10 q=none:=by unfold numV;rw [if_pos (Or.inr (Or.inl h20))]
  rw [hV]
  clear hV
  have c20:decide (20<(q.size:Int))=true:=decide_eq_true (by omega)
  go_enter Tryz.func51,Tryz.ntmps51
  go_wp2_with (first|((with_reducible refine (strings_CutPrefix.calls _ _ _ false _ HLD.out HCUT.out).mono ?_);rintro e w' ⟨rfl,⟨nd,rfl⟩⟩)|((with_reducible refine (HLO.out _ ?hl).mono ?_);(case hl => exact LaidAt.drewN HLD.out);rintro e w' ⟨rfl,hb⟩))
  go_ret2
  exact ⟨rfl,(pw_below_drewN (Below.refl _ _) nd).trans hb⟩
 have c20:decide (20<(q.size:Int))=false:=decide_eq_false (by omega)
 by_cases h1:1<q.size
 ·have c1s:decide (1<(q.size:Int))=true:=decide_eq_true (by omega)
  have hx0:((q[0]'(by omega)).toNat:Int)=bt q 0:=by have:=bt_at q 0 (by simp;omega);simpa using this
  by_cases hz:bt q 0=48
  ·have hV:numV 10 q=none:=by unfold numV;rw [if_neg (by omega),if_pos ⟨rfl,h1,hz⟩]
   rw [hV]
   clear hV
   rw [hz] at hx0
   go_enter Tryz.func51,Tryz.ntmps51
   go_wp2_with (first|((with_reducible refine (strings_CutPrefix.calls _ _ _ false _ HLD.out HCUT.out).mono ?_);rintro e w' ⟨rfl,⟨nd,rfl⟩⟩)|((with_reducible refine (HLO.out _ ?hl).mono ?_);(case hl => exact LaidAt.drewN HLD.out);rintro e w' ⟨rfl,hb⟩))
   go_ret2
   exact ⟨rfl,(pw_below_drewN (Below.refl _ _) nd).trans hb⟩
  have hV:numV 10 q=if runS (nP 10) q q.size 0<q.size then none else (match Lib.parseUintB 64 q.data.toList with|.ok u => some u|_ => none):=by
   unfold numV
   rw [if_neg (by omega),if_neg (by omega)]
   rfl
  have hz0:(bt q 0==48)=false:=by simpa using hz
  obtain ⟨R,hR⟩:∃ R,R=numV 10 q:=⟨_,rfl⟩
  rw [← hR]
  have HR:=Aside0.mk (hR.trans hV)
  clear hV hR
  go_enter Tryz.func51,Tryz.ntmps51
  go_wp2_with (first|((with_reducible refine (strings_CutPrefix.calls _ _ _ false _ HLD.out HCUT.out).mono ?_);rintro e w' ⟨rfl,⟨nd,rfl⟩⟩)|((with_reducible refine (HLO.out _ ?hl).mono ?_);(case hl => exact LaidAt.drewN HLD.out);rintro e w' ⟨rfl,hb⟩))
  go_loopw [58] (fun i wr =>∃n:Nat,i=.int .i64 n∧Aside0 (n≤q.size)∧Aside0 (runS (nP 10) q q.size 0=n+runS (nP 10) q (q.size - n) n)∧Aside0 (Below w.heap.size w wr)) (fun i _ => q.size - (intOf i).toNat)
  case atStart => exact ⟨0,rfl,⟨Nat.zero_le _⟩,⟨by simp⟩,⟨(pw_below_drewN (Below.refl _ _) nd).trans hb⟩⟩
  case round =>
   obtain ⟨n,rfl,hn,hrun,hB⟩:=hrel
   have hns:=hn.out
   by_cases hlt:n<q.size
   ·have c1:decide ((n:Int)<(q.size:Int))=true:=decide_eq_true (by omega)
    have p1:(0≤(n:Int))=True:=eq_true (by omega)
    have q1:((n:Int)<(q.size:Int))=True:=eq_true (by omega)
    have hx:((q[n]'hlt).toNat:Int)=bt q (n:Int):=by have:=bt_at q (n:Int) (by simpa using hlt);simpa using this
    have hbr:=bt_range q (n:Int)
    have hS:runS (nP 10) q (q.size - n) n=if nP 10 (bt q (n:Int)) then runS (nP 10) q (q.size - (n+1)) (n+1)+1 else 0:=by
     obtain ⟨m,hm⟩:∃ m,q.size - n=m+1:=⟨q.size - n - 1,by omega⟩
     rw [hm,runS,show m=q.size - (n+1) by omega]
    have hd:=dS_f (bt q (n:Int))
    have HD:=Aside0.mk hd
    have HB:=Aside0.mk hbr
    clear hd hbr hb
    cases hpb:nP 10 (bt q (n:Int)) with
    |  true =>
     rw [hpb,if_pos rfl] at hS
     have HS:=Aside0.mk hS
     clear hS
     cases hdb:dS (bt q (n:Int)) with
     |  true =>
      rw [hdb] at HD
      go_wp2_with ((with_reducible refine (lex_digit.calls _ _ _ ?hl HD.out).mono ?_);(case hl => exact LaidAt.of HLD.out hB.out);rintro e w' ⟨rfl,⟨nd,rfl⟩⟩)
      go_roundw
      case rel => exact ⟨n+1,by go_num,⟨by omega⟩,⟨by rw [hrun.out,HS.out];omega⟩,⟨pw_below_drewN hB.out _⟩⟩
      case measure => simp [intOf];omega
     |  false =>
      rw [hdb] at HD
      exfalso
      simp only [nP,Bool.or_eq_true,Bool.and_eq_true,decide_eq_true_eq,beq_iff_eq] at hpb
      simp only [dS,Bool.and_eq_false_iff,decide_eq_false_iff_not] at hdb
      omega
    |  false =>
     rw [hpb,if_neg (by decide)] at hS
     have hres:runS (nP 10) q q.size 0<q.size:=by rw [hrun.out,hS];omega
     have HRES:=Aside0.mk hres
     clear hS hres
     have hdb:dS (bt q (n:Int))=false:=by
      simp only [nP,Bool.or_eq_false_iff] at hpb
      exact hpb.1
     rw [hdb] at HD
     go_wp2_with ((with_reducible refine (lex_digit.calls _ _ _ ?hl HD.out).mono ?_);(case hl => exact LaidAt.of HLD.out hB.out);rintro e w' ⟨rfl,⟨nd,rfl⟩⟩)
     go_ret2
     rw [HR.out,if_pos HRES.out]
     exact ⟨rfl,pw_below_drewN hB.out _⟩
   ·have c1:decide ((n:Int)<(q.size:Int))=false:=decide_eq_false (by omega)
    have hrn:runS (nP 10) q q.size 0=q.size:=by rw [hrun.out,show q.size - n=0 by omega,runS];omega
    have HNR:=Aside0.mk (show ¬ runS (nP 10) q q.size 0<q.size by omega)
    have hok:=dec_ok q.data.toList (by intro h;apply hr0;rw [Lib.size_eq,h];rfl) (fun c hc => by have:=nP_cases (all_nP 10 q hrn c hc);omega)
    obtain ⟨og,tp,pp,oh1,oh2,oh3⟩:=HLD.out.rng
    have HVAR := Aside0.mk (show ∀ W, Below w.heap.size w W → W.var? Tryz.prog "strconv.ErrRange" = some #[.iface tp pp] from fun W hW => var?_below hW oh1 oh2 oh3)
    clear hb hrn oh1 oh2 oh3
    rcases hok with ⟨u,hpu⟩|hpu
    ·have hu1:=trivial
     have HPU:=Aside0.mk (show ∀ W,Calls Tryz.prog 77 #[.string q,.int .i64 10,.int .i64 64] W fun e w' => e=.returned (.tuple #[.int .u64 u,.nilIface])∧Below W.heap.size W w' from fun W =>
      (Tryz.strconv_ParseUint_10_at64_ok q (by omega) u hpu W).mono fun e w' ⟨h1,h2⟩ => ⟨h1,by rcases h2 with rfl|rfl;exact Below.refl _ _;exact Lib.bytesWorld_below _ _ _⟩)
     have HPE:=Aside0.mk hpu
     clear hpu
     go_wp2_with ((with_reducible refine (HPU.out _).mono ?_);rintro e w' ⟨rfl,hb2⟩)
     go_ret2
     rw [HR.out,if_neg HNR.out,HPE.out]
     exact ⟨rfl,hB.out.trans (hb2.mono hB.out.size)⟩
    ·have hu1:=trivial
     have HPU:=Aside0.mk (show ∀ W,Below w.heap.size w W→Calls Tryz.prog 77 #[.string q,.int .i64 10,.int .i64 64] W fun e w' =>∃N,e=.returned (.tuple #[.int .u64 18446744073709551615,.iface 141 (.pointer (some ⟨N,0,none⟩))])∧Below W.heap.size W w' from fun W hW =>
      (Tryz.strconv_ParseUint_10_at64_range_var q (by omega) hpu tp pp W (HVAR.out W hW)).mono fun e w' ⟨N,h1,_,_,h2⟩ => ⟨N,h1,h2⟩)
     have HPE:=Aside0.mk hpu
     clear hpu
     go_wp2_with ((with_reducible refine (HPU.out _ hB.out).mono ?_);rintro e w' ⟨N,rfl,hb2⟩)
     go_ret2
     rw [HR.out,if_neg HNR.out,HPE.out]
     exact ⟨rfl,hB.out.trans (hb2.mono hB.out.size)⟩
 have c1s:decide (1<(q.size:Int))=false:=decide_eq_false (by omega)
 have hV:numV 10 q=if runS (nP 10) q q.size 0<q.size then none else (match Lib.parseUintB 64 q.data.toList with|.ok u => some u|_ => none):=by
  unfold numV
  rw [if_neg (by omega),if_neg (by omega)]
  rfl
 obtain ⟨R,hR⟩:∃ R,R=numV 10 q:=⟨_,rfl⟩
 rw [← hR]
 have HR:=Aside0.mk (hR.trans hV)
 clear hV hR
 go_enter Tryz.func51,Tryz.ntmps51
 go_wp2_with (first|((with_reducible refine (strings_CutPrefix.calls _ _ _ false _ HLD.out HCUT.out).mono ?_);rintro e w' ⟨rfl,⟨nd,rfl⟩⟩)|((with_reducible refine (HLO.out _ ?hl).mono ?_);(case hl => exact LaidAt.drewN HLD.out);rintro e w' ⟨rfl,hb⟩))
 go_loopw [58] (fun i wr =>∃n:Nat,i=.int .i64 n∧Aside0 (n≤q.size)∧Aside0 (runS (nP 10) q q.size 0=n+runS (nP 10) q (q.size - n) n)∧Aside0 (Below w.heap.size w wr)) (fun i _ => q.size - (intOf i).toNat)
 case atStart => exact ⟨0,rfl,⟨Nat.zero_le _⟩,⟨by simp⟩,⟨(pw_below_drewN (Below.refl _ _) nd).trans hb⟩⟩
 case round =>
  obtain ⟨n,rfl,hn,hrun,hB⟩:=hrel
  have hns:=hn.out
  by_cases hlt:n<q.size
  ·have c1:decide ((n:Int)<(q.size:Int))=true:=decide_eq_true (by omega)
   have p1:(0≤(n:Int))=True:=eq_true (by omega)
   have q1:((n:Int)<(q.size:Int))=True:=eq_true (by omega)
   have hx:((q[n]'hlt).toNat:Int)=bt q (n:Int):=by have:=bt_at q (n:Int) (by simpa using hlt);simpa using this
   have hbr:=bt_range q (n:Int)
   have hS:runS (nP 10) q (q.size - n) n=if nP 10 (bt q (n:Int)) then runS (nP 10) q (q.size - (n+1)) (n+1)+1 else 0:=by
    obtain ⟨m,hm⟩:∃ m,q.size - n=m+1:=⟨q.size - n - 1,by omega⟩
    rw [hm,runS,show m=q.size - (n+1) by omega]
   have hd:=dS_f (bt q (n:Int))
   have HD:=Aside0.mk hd
   have HB:=Aside0.mk hbr
   clear hd hbr hb
   cases hpb:nP 10 (bt q (n:Int)) with
   |  true =>
    rw [hpb,if_pos rfl] at hS
    have HS:=Aside0.mk hS
    clear hS
    cases hdb:dS (bt q (n:Int)) with
    |  true =>
     rw [hdb] at HD
     go_wp2_with ((with_reducible refine (lex_digit.calls _ _ _ ?hl HD.out).mono ?_);(case hl => exact LaidAt.of HLD.out hB.out);rintro e w' ⟨rfl,⟨nd,rfl⟩⟩)
     go_roundw
     case rel => exact ⟨n+1,by go_num,⟨by omega⟩,⟨by rw [hrun.out,HS.out];omega⟩,⟨pw_below_drewN hB.out _⟩⟩
     case measure => simp [intOf];omega
    |  false =>
     rw [hdb] at HD
     exfalso
     simp only [nP,Bool.or_eq_true,Bool.and_eq_true,decide_eq_true_eq,beq_iff_eq] at hpb
     simp only [dS,Bool.and_eq_false_iff,decide_eq_false_iff_not] at hdb
     omega
   |  false =>
    rw [hpb,if_neg (by decide)] at hS
    have hres:runS (nP 10) q q.size 0<q.size:=by rw [hrun.out,hS];omega
    have HRES:=Aside0.mk hres
    clear hS hres
    have hdb:dS (bt q (n:Int))=false:=by
     simp only [nP,Bool.or_eq_false_iff] at hpb
     exact hpb.1
    rw [hdb] at HD
    go_wp2_with ((with_reducible refine (lex_digit.calls _ _ _ ?hl HD.out).mono ?_);(case hl => exact LaidAt.of HLD.out hB.out);rintro e w' ⟨rfl,⟨nd,rfl⟩⟩)
    go_ret2
    rw [HR.out,if_pos HRES.out]
    exact ⟨rfl,pw_below_drewN hB.out _⟩
  ·have c1:decide ((n:Int)<(q.size:Int))=false:=decide_eq_false (by omega)
   have hrn:runS (nP 10) q q.size 0=q.size:=by rw [hrun.out,show q.size - n=0 by omega,runS];omega
   have HNR:=Aside0.mk (show ¬ runS (nP 10) q q.size 0<q.size by omega)
   have hok:=dec_ok q.data.toList (by intro h;apply hr0;rw [Lib.size_eq,h];rfl) (fun c hc => by have:=nP_cases (all_nP 10 q hrn c hc);omega)
   obtain ⟨og,tp,pp,oh1,oh2,oh3⟩:=HLD.out.rng
   have HVAR := Aside0.mk (show ∀ W, Below w.heap.size w W → W.var? Tryz.prog "strconv.ErrRange" = some #[.iface tp pp] from fun W hW => var?_below hW oh1 oh2 oh3)
   clear hb hrn oh1 oh2 oh3
   rcases hok with ⟨u,hpu⟩|hpu
   ·have hu1:=trivial
    have HPU:=Aside0.mk (show ∀ W,Calls Tryz.prog 77 #[.string q,.int .i64 10,.int .i64 64] W fun e w' => e=.returned (.tuple #[.int .u64 u,.nilIface])∧Below W.heap.size W w' from fun W =>
     (Tryz.strconv_ParseUint_10_at64_ok q (by omega) u hpu W).mono fun e w' ⟨h1,h2⟩ => ⟨h1,by rcases h2 with rfl|rfl;exact Below.refl _ _;exact Lib.bytesWorld_below _ _ _⟩)
    have HPE:=Aside0.mk hpu
    clear hpu
    go_wp2_with ((with_reducible refine (HPU.out _).mono ?_);rintro e w' ⟨rfl,hb2⟩)
    go_ret2
    rw [HR.out,if_neg HNR.out,HPE.out]
    exact ⟨rfl,hB.out.trans (hb2.mono hB.out.size)⟩
   ·have hu1:=trivial
    have HPU:=Aside0.mk (show ∀ W,Below w.heap.size w W→Calls Tryz.prog 77 #[.string q,.int .i64 10,.int .i64 64] W fun e w' =>∃N,e=.returned (.tuple #[.int .u64 18446744073709551615,.iface 141 (.pointer (some ⟨N,0,none⟩))])∧Below W.heap.size W w' from fun W hW =>
     (Tryz.strconv_ParseUint_10_at64_range_var q (by omega) hpu tp pp W (HVAR.out W hW)).mono fun e w' ⟨N,h1,_,_,h2⟩ => ⟨N,h1,h2⟩)
    have HPE:=Aside0.mk hpu
    clear hpu
    go_wp2_with ((with_reducible refine (HPU.out _ hB.out).mono ?_);rintro e w' ⟨N,rfl,hb2⟩)
    go_ret2
    rw [HR.out,if_neg HNR.out,HPE.out]
    exact ⟨rfl,hB.out.trans (hb2.mono hB.out.size)⟩
theorem num_any (s:ByteArray) (hs:s.size≤1000000) (w:World) (hLd:LaidAt w) :
  Calls Tryz.prog 51 #[.string s] w fun e w' => e=.returned (.tuple #[.int .u64 (numR (numS s)).1,.bool (numR (numS s)).2])∧Below w.heap.size w w':=by
 cases hp:preS s ⟨#[48,120]⟩ with
 |  true => exact num_any16 s hs hp w hLd
 |  false => exact num_any10 s hs hp w hLd

def lex_Number.f (a0:ByteArray):Option (Int × Bool):=if a0.size≤1000000 then some (numR (numS a0)) else none
theorem lex_Number.calls (a0:ByteArray) (r1:Int) (r2:Bool) (w:World) (hLd:LaidAt w) (h:lex_Number.f a0=some (r1,r2)) :
  Calls Tryz.prog 51 #[.string a0] w fun e w' => e=.returned (.tuple #[.int .u64 r1,.bool r2])∧Below w.heap.size w w':=by
 unfold lex_Number.f at h
 split at h
 ·rename_i hs
  have e:=Option.some.inj h
  refine (num_any a0 hs w hLd).mono fun e' w' ⟨h1,h2⟩ => ?_
  rw [e] at h1
  exact ⟨h1,h2⟩
 ·cases h

end Go.Proofs.YtdfjjimmnbijmaaGreatDoor.ZQ

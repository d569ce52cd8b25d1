-- Written for this claim by myprint.py over the kit's print (functions of this session supplied)
import Derived.Test.YtdfjjimmnbijmaaGreatDoorZQ0
import Derived.Test.YtdfjjimmnbijmaaGreatDoorZQ1
import Derived.Test.YtdfjjimmnbijmaaGreatDoorZQ3
import Derived.Test.YtdfjjimmnbijmaaGreatDoorZQ5
import Derived.Test.YtdfjjimmnbijmaaGreatDoorZQ10
namespace Go.Proofs.YtdfjjimmnbijmaaGreatDoor.ZQ
open Go.RowKit Go.Proofs.YtdfjjimmnbijmaaGreatDoorW.PrintWords Go.Proofs.YtdfjjimmnbijmaaGreatDoorW.PrintLast Go.Proofs.YtdfjjimmnbijmaaGreatDoorW.PrintMore Go.Proofs.YtdfjjimmnbijmaaGreatDoor.Base
attribute [local go_sem] max2_int min2_int max_two min_two max_three min_three max_four min_four   -- for this text's walks alone
set_option linter.unusedVariables false
set_option linter.unusedSimpArgs false

/-! ### show_source: function 17 -/
/-! ### rules in memory -/
theorem RR_open {w:World} {A:Option Addr} {xs:List RN} (h:Kd.C k47 w A xs.length xs) (h0:0<xs.length) :
  ∃ b o,A=some ⟨b,o,none⟩∧b<w.heap.size∧∀ (j:Nat) (x:RN),xs[j]?=some x→∃ A2 c2 A4 c4,w.cell? ⟨b,o+j * 9,none⟩=some (.string x.f0)∧w.cell? ⟨b,o+j * 9+1,none⟩=some (.int .u64 x.f1)∧w.cell? ⟨b,o+j * 9+2,none⟩=some (.slice A2 x.f2.length c2)∧w.cell? ⟨b,o+j * 9+3,none⟩=some (.int .i64 x.f3.f0)∧w.cell? ⟨b,o+j * 9+4,none⟩=some (.slice A4 x.f3.f1.length c4)∧w.cell? ⟨b,o+j * 9+5,none⟩=some (.int .i64 x.f3.f2)∧w.cell? ⟨b,o+j * 9+6,none⟩=some (.int .u64 x.f3.f3)∧w.cell? ⟨b,o+j * 9+7,none⟩=some (.string x.f3.f4)∧w.cell? ⟨b,o+j * 9+8,none⟩=some (.int .u64 x.f3.f5)∧x.f2.length≤c2∧Kd.string.C w A2 x.f2.length x.f2∧x.f3.f1.length≤c4∧k28.C w A4 x.f3.f1.length x.f3.f1:=by
 obtain ⟨⟨b,o,sp⟩,rfl,hc⟩:=h.2.2 h0
 obtain ⟨cs0,_,r0,c0⟩:=hc 0 _ (List.getElem?_eq_getElem h0)
 obtain ⟨_,_,_,_,rfl,_,_,_,_⟩:=k47_open r0
 have h00:=c0 0 _ rfl
 have hsp:sp=none:=by
  have e:(Addr.mk b o sp).add (0 * k47.sz+0)=Addr.mk b o sp:=by simp [Addr.add]
  rw [e] at h00
  exact cell_spot h00
 subst hsp
 refine ⟨b,o,rfl,?_,fun j x hj => ?_⟩
 ·have:=World.block_lt_of_cell? w _ h00
  rw [add_block] at this
  exact this
 ·obtain ⟨cs,_,r,c⟩:=hc j x hj
  obtain ⟨A2,c2,A4,c4,rfl,l2,g2,l4,g4⟩:=k47_open r
  have key:∀ i u,([.string x.f0,.int .u64 x.f1,.slice A2 x.f2.length c2,.int .i64 x.f3.f0,.slice A4 x.f3.f1.length c4,.int .i64 x.f3.f2,.int .u64 x.f3.f3,.string x.f3.f4,.int .u64 x.f3.f5]:List Value)[i]?=some u→w.cell? ⟨b,o+j * 9+i,none⟩=some u:=by
   intro i u hu
   have q:=c i u hu
   rw [add_at] at q
   rw [Nat.add_assoc]
   exact q
  exact ⟨A2,c2,A4,c4,key 0 _ rfl,key 1 _ rfl,key 2 _ rfl,key 3 _ rfl,key 4 _ rfl,key 5 _ rfl,key 6 _ rfl,key 7 _ rfl,key 8 _ rfl,l2,g2,l4,g4⟩
/-! ### show.source -/
def headA (a:ByteArray):ByteArray:=joinT ⟨#[32]⟩ [⟨#[97,114,99,104]⟩,a]
def headD (d:ByteArray) (n:Int):ByteArray:=joinT ⟨#[32]⟩ [⟨#[100,101,102,97,117,108,116]⟩,actS d n]
def linesS:Nat→List RN→List ByteArray→Option (List ByteArray)
 |  _,[],acc => some acc
 |  long,r :: t,acc => if (ruleS r).2=true∧long+(ruleS r).1.size≤2000 then linesS (long+(ruleS r).1.size) t (acc++[(ruleS r).1]) else none
def endS:Option (List ByteArray)→ByteArray × Bool
 |  some ls => (joinT ⟨#[10]⟩ ls++⟨#[10]⟩,decide ((joinT ⟨#[10]⟩ ls++⟨#[10]⟩).size≤2000))
 |  none => (⟨#[]⟩,false)
def sourceS (a d:ByteArray) (n:Int) (rs:List RN):ByteArray × Bool :=
 if wordS a=true∧wordS d=true∧rs.length≤2000 then endS (linesS 0 rs [headA a,headD d n]) else (⟨#[]⟩,false)
theorem lines_step {i:Nat} {rs:List RN} {r:RN} (long:Nat) (acc:List ByteArray) (h:rs[i]?=some r):linesS long (rs.drop i) acc=if (ruleS r).2=true∧long+(ruleS r).1.size≤2000 then linesS (long+(ruleS r).1.size) (rs.drop (i+1)) (acc++[(ruleS r).1]) else none:=by
 obtain ⟨hi,e⟩:=List.getElem?_eq_some_iff.1 h
 rw [List.drop_eq_getElem_cons hi,e,linesS]
theorem ruleS_size (r:RN) (hr:okR r):(ruleS r).1.size≤7000000000:=by
 unfold ruleS
 split
 ·rename_i h
  have h1:=outS_size h.1 h.2.2 hr
  split
  ·show (outS r).size≤_;omega
  ·split
   ·rename_i h2
    have hw:nodesC r.f3≤100∧fitsC r.f3=true:=by have:=h2.1;unfold rightS at this;rw [Bool.and_eq_true,decide_eq_true_eq] at this;exact this
    have h3:=writeC_size r.f3 hw.2 hr.1
    have h4:=hw.1
    show (joinT ⟨#[32,105,102,32]⟩ [outS r,writeC r.f3]).size≤_
    have e3:(⟨#[32,105,102,32]⟩:ByteArray).size=4:=rfl
    rw [joinT_size,sumZ_cons,sumZ_cons,sumZ_nil,e3]
    simp only [List.length_cons,List.length_nil]
    omega
   ·show (0:Nat)≤_;omega
 ·show (0:Nat)≤_;omega
theorem head_sizes {a d:ByteArray} {n:Int} (ha:wordS a=true) (hd:wordS d=true) (hn:n<18446744073709551616):(headA a).size≤3000∧(headD d n).size≤3000:=by
 have h1:=wordS_size ha
 have h2:=wordS_size hd
 have h3:=actS_size d n hn
 have e3:(⟨#[32]⟩:ByteArray).size=1:=rfl
 have e4:(⟨#[97,114,99,104]⟩:ByteArray).size=4:=rfl
 have e7:(⟨#[100,101,102,97,117,108,116]⟩:ByteArray).size=7:=rfl
 unfold headA headD
 rw [joinT_size,joinT_size,sumZ_cons,sumZ_cons,sumZ_cons,sumZ_cons,sumZ_nil,e3,e4,e7]
 simp only [List.length_cons,List.length_nil]
 constructor<;>omega
set_option maxHeartbeats 6400000 in
set_option maxRecDepth 100000 in
theorem source_any (a d:ByteArray) (n:Int) (rs:List RN) (hn0:0≤n) (hn1:n<18446744073709551616) (hrs:∀ r ∈ rs,okR r) (A3:Option Addr) (c3:Nat) (w:World) (hC:Kd.C k47 w A3 rs.length rs) (hLd:LaidAt w) :
  Calls Tryz.prog 17 #[.agg #[.string a,.string d,.int .u64 n,.slice A3 rs.length c3]] w fun e w' => e=.returned (.tuple #[.string (sourceS a d n rs).1,.bool (sourceS a d n rs).2])∧Below w.heap.size w w':=by
 obtain ⟨Z,hZ⟩:∃ Z,sourceS a d n rs=Z:=⟨_,rfl⟩
 rw [hZ]
 have hb0:Below w.heap.size w (w.alloc (.cells #[.string a,.string d,.int .u64 n,.slice A3 rs.length c3] 25)):=(Below.refl _ _).alloc (Nat.le_refl _) _
 have HB0:=Aside0.mk hb0
 have HK0:=Aside0.mk (blk_new w (.cells #[.string a,.string d,.int .u64 n,.slice A3 rs.length c3] 25))
 have HLD:=Aside0.mk hLd
 have HRS:=Aside0.mk hrs
 have HC:=Aside0.mk hC
 have HN0:=Aside0.mk hn0
 have HN1:=Aside0.mk hn1
 have HWA:=Aside0.mk (word_any a _ (LaidAt.of hLd hb0))
 have HXL:=Aside0.mk (show rs.length≤9223372036854775807 from hC.2.1)
 clear hb0 hLd hrs hC hn0 hn1
 cases hwa:wordS a with
 |  false =>
  have HZ:=Aside0.mk (show (⟨#[]⟩,false)=Z from (show sourceS a d n rs=_ from if_neg (fun h => by rw [hwa] at h;exact absurd h.1 (by decide))).symm.trans hZ)
  rw [hwa] at HWA
  have HZ1:=HZ.out
  subst HZ1
  clear hwa hZ HZ
  go_enter Tryz.func17,Tryz.ntmps17
  go_wp2_with fail
  go_at_call 32
  refine (HWA.out).mono ?_
  rintro e w1 ⟨rfl,hb1⟩
  have HB1:=Aside0.mk (HB0.out.trans (hb1.mono HB0.out.size))
  have HK1:=Aside0.mk (blk_below HK0.out hb1)
  clear hb1
  go_wp2_with fail
  all_goals go_ret2
  exact ⟨rfl,HB1.out⟩
 |  true =>
  rw [hwa] at HWA
  have HWAT:=Aside0.mk hwa
  clear hwa
  have HWD0:=Aside0.mk (fun (w1:World) (h:LaidAt w1) => word_any d w1 h)
  cases hwd:wordS d with
  |  false =>
   have HZ:=Aside0.mk (show (⟨#[]⟩,false)=Z from (show sourceS a d n rs=_ from if_neg (fun h => by rw [hwd] at h;exact absurd h.2.1 (by decide))).symm.trans hZ)
   rw [hwd] at HWD0
   have HZ1:=HZ.out
   subst HZ1
   clear hwd hZ HZ
   go_enter Tryz.func17,Tryz.ntmps17
   go_wp2_with fail
   go_at_call 32
   refine (HWA.out).mono ?_
   rintro e w1 ⟨rfl,hb1⟩
   have HB1:=Aside0.mk (HB0.out.trans (hb1.mono HB0.out.size))
   have HK1:=Aside0.mk (blk_below HK0.out hb1)
   clear hb1
   have y1:w1.cell? ⟨w.heap.size,1,none⟩=some (.string d):=blk_cell HK1.out 1
   go_wp2_with fail
   go_at_call 32
   refine (HWD0.out w1 (LaidAt.of HLD.out HB1.out)).mono ?_
   rintro e w2 ⟨rfl,hb2⟩
   have HB2:=Aside0.mk (HB1.out.trans (hb2.mono HB1.out.size))
   have HK2:=Aside0.mk (blk_below HK1.out hb2)
   clear hb2 y1
   go_wp2_with fail
   all_goals go_ret2
   exact ⟨rfl,HB2.out⟩
  |  true =>
   rw [hwd] at HWD0
   have HWDT:=Aside0.mk hwd
   clear hwd
   by_cases hlr:rs.length≤2000
   ·have hl1:decide ((rs.length:Int)>2000)=false:=decide_eq_false (by omega)
    have hl2:(2000<rs.length)=False:=eq_false (by omega)
    have hl3:decide (2000<(rs.length:Int))=false:=decide_eq_false (by omega)
    have HLA:=Aside0.mk hl1
    have HLB:=Aside0.mk hl2
    have HLC:=Aside0.mk hl3
    have HLR:=Aside0.mk hlr
    have HZ:=Aside0.mk (show endS (linesS 0 rs [headA a,headD d n])=Z from (show sourceS a d n rs=_ from if_pos ⟨HWAT.out,HWDT.out,hlr⟩).symm.trans hZ)
    have HHS:=Aside0.mk (head_sizes (n:=n) HWAT.out HWDT.out HN1.out)
    have HACT:=Aside0.mk (fun (w1:World) (h:LaidAt w1) => action_any d n HN0.out HN1.out (by have:=wordS_size HWDT.out;omega) w1 h)
    have HJA:=Aside0.mk (show (joinT ⟨#[32]⟩ [⟨#[97,114,99,104]⟩,a]).size≤140737488355328 by have:=HHS.out.1;unfold headA at this;omega)
    have HJD:=Aside0.mk (show (joinT ⟨#[32]⟩ [⟨#[100,101,102,97,117,108,116]⟩,actS d n]).size≤140737488355328 by have:=HHS.out.2;unfold headD at this;omega)
    clear hlr hl1 hl2 hl3 hZ
    go_enter Tryz.func17,Tryz.ntmps17
    go_wp2_with fail
    go_at_call 32
    refine (HWA.out).mono ?_
    rintro e w1 ⟨rfl,hb1⟩
    have HB1:=Aside0.mk (HB0.out.trans (hb1.mono HB0.out.size))
    have HK1:=Aside0.mk (blk_below HK0.out hb1)
    clear hb1
    have y1:w1.cell? ⟨w.heap.size,1,none⟩=some (.string d):=blk_cell HK1.out 1
    go_wp2_with fail
    go_at_call 32
    refine (HWD0.out w1 (LaidAt.of HLD.out HB1.out)).mono ?_
    rintro e w2 ⟨rfl,hb2⟩
    have HB2:=Aside0.mk (HB1.out.trans (hb2.mono HB1.out.size))
    have HK2:=Aside0.mk (blk_below HK1.out hb2)
    clear hb2 y1
    have y3:w2.cell? ⟨w.heap.size,3,none⟩=some (.slice A3 rs.length c3):=blk_cell HK2.out 3
    have hl1:=HLA.out
    have hl2:=HLB.out
    have hl3:=HLC.out
    go_upto_region 3 with (fail)
    clear y3 hl1 hl2 hl3
    have hdr:Below w2.heap.size w2 w2.drew:=(Below.refl _ _).drew
    have HBd:=Aside0.mk (HB2.out.trans (hdr.mono HB2.out.size))
    have HKd:=Aside0.mk (blk_below HK2.out hdr)
    clear hdr
    have g0:w2.drew.cell? ⟨w.heap.size,0,none⟩=some (.string a):=blk_cell HKd.out 0
    have g1:w2.drew.cell? ⟨w.heap.size,1,none⟩=some (.string d):=blk_cell HKd.out 1
    have g2:w2.drew.cell? ⟨w.heap.size,2,none⟩=some (.int .u64 n):=blk_cell HKd.out 2
    have HJ3:=Aside0.mk (show Calls Tryz.prog 33 #[.string ⟨#[32]⟩,.slice (some ⟨w2.heap.size,0,none⟩) 2 2] (w2.alloc (.cells #[.string ⟨#[97,114,99,104]⟩,.string a] 9)).drew fun e w' => e=.returned (.string (joinT ⟨#[32]⟩ [⟨#[97,114,99,104]⟩,a]))∧Below w2.drew.heap.size w2.drew w' from join2 ⟨#[32]⟩ ⟨#[97,114,99,104]⟩ a w2.drew HJA.out)
    refine start_ (n:=13) (S:=fun w' => w'.cell? ⟨w.heap.size,0,none⟩=some (.string a)∧w'.cell? ⟨w.heap.size,1,none⟩=some (.string d)∧w'.cell? ⟨w.heap.size,2,none⟩=some (.int .u64 n)) (ds:=[11]) #[false,false,false,false,false,false,false,false,false,false,false,false,false] (by kernel_rfl) rfl rfl ⟨g0,g1,g2⟩ (fun hHeld => ?_)
    refine pure_ (i:=0) (N:=some 27) (v:=?_) (a':=?_) #[true,false,false,false,false,false,false,false,false,false,false,false,false] rfl rfl (by kernel_rfl) (fun _ _ _ h => h) (Or.inl ⟨by rfl,?_⟩) ?_ ?_
    rotate_left
    ·intro w'
     go_simp
     with_reducible rfl
    rotate_left
    ·simp only [Act.put,List.setIfInBounds_toArray,List.set_cons_zero,List.set_cons_succ,i64_w,i32_w]
     rfl
    refine pure_ (i:=4) (N:=some 31) (v:=?_) (a':=?_) #[true,false,false,false,true,false,false,false,false,false,false,false,false] rfl rfl (by kernel_rfl) (fun _ _ _ h => h) (Or.inl ⟨by rfl,?_⟩) ?_ ?_
    rotate_left
    ·intro w'
     go_simp
     with_reducible rfl
    rotate_left
    ·simp only [Act.put,List.setIfInBounds_toArray,List.set_cons_zero,List.set_cons_succ,i64_w,i32_w]
     rfl
    refine pure_ (i:=6) (N:=some 33) (v:=?_) (a':=?_) #[true,false,false,false,true,false,true,false,false,false,false,false,false] rfl rfl (by kernel_rfl) (fun _ _ _ h => h) (Or.inl ⟨by rfl,?_⟩) ?_ ?_
    rotate_left
    ·intro w'
     go_simp
     with_reducible rfl
    rotate_left
    ·simp only [Act.put,List.setIfInBounds_toArray,List.set_cons_zero,List.set_cons_succ,i64_w,i32_w]
     rfl
    refine take_ (i:=1) (N:=some 28) (v:=?_) (a':=?_) #[true,true,false,false,true,false,true,false,false,false,false,false,false] rfl rfl (by kernel_rfl) (fun _ _ _ h => h) (Or.inl ⟨by rfl,?_⟩) hHeld ?_ ?_
    rotate_left
    ·rintro w' ⟨s0,s1,s2⟩
     go_simp
     with_reducible rfl
    rotate_left
    ·simp only [Act.put,List.setIfInBounds_toArray,List.set_cons_zero,List.set_cons_succ,i64_w,i32_w]
     rfl
    refine take_ (i:=5) (N:=some 32) (v:=?_) (a':=?_) #[true,true,false,false,true,true,true,false,false,false,false,false,false] rfl rfl (by kernel_rfl) (fun _ _ _ h => h) (Or.inl ⟨by rfl,?_⟩) hHeld ?_ ?_
    rotate_left
    ·rintro w' ⟨s0,s1,s2⟩
     go_simp
     with_reducible rfl
    rotate_left
    ·simp only [Act.put,List.setIfInBounds_toArray,List.set_cons_zero,List.set_cons_succ,i64_w,i32_w]
     rfl
    refine take_ (i:=7) (N:=some 34) (v:=?_) (a':=?_) #[true,true,false,false,true,true,true,true,false,false,false,false,false] rfl rfl (by kernel_rfl) (fun _ _ _ h => h) (Or.inl ⟨by rfl,?_⟩) hHeld ?_ ?_
    rotate_left
    ·rintro w' ⟨s0,s1,s2⟩
     go_simp
     with_reducible rfl
    rotate_left
    ·simp only [Act.put,List.setIfInBounds_toArray,List.set_cons_zero,List.set_cons_succ,i64_w,i32_w]
     rfl
    refine one_ (i:=2) (N:=some 29) #[true,true,true,false,true,true,true,true,false,false,false,false,false] rfl rfl (by kernel_rfl) (by decide) (fun K hK => ?_)
    refine value_ (w1:=?_) (v:=?_) (by rfl) rfl ?_ ?_
    rotate_left 2
    ·go_simp
     constructor
     ·rfl
     ·rfl
    refine hK.out _ _ ⟨((blk_cell (blk_alloc HKd.out _) 0).trans rfl),((blk_cell (blk_alloc HKd.out _) 1).trans rfl),((blk_cell (blk_alloc HKd.out _) 2).trans rfl)⟩ (fun hHeld => ?_)
    clear hK K
    refine norm_ (a':=?_) ?_ ?_
    rotate_left
    ·show Act.put _ (some 29) _=_
     simp only [Act.put,List.setIfInBounds_toArray,List.set_cons_zero,List.set_cons_succ,i64_w,i32_w]
     rfl
    refine one_ (i:=3) (N:=some 30) #[true,true,true,true,true,true,true,true,false,false,false,false,false] rfl rfl (by kernel_rfl) (by decide) (fun K hK => ?_)
    refine goes_ Tryz.func33 (by kernel_rfl) rfl #[.string ⟨#[32]⟩,.slice (some ⟨w2.heap.size,0,none⟩) 2 2] (by rfl) rfl rfl (by simp only [List.map_toArray,List.map_cons,List.map_nil];rfl) ?_
    with_reducible refine HJ3.out.mono ?_
    rintro e w4 ⟨rfl,hb4⟩
    refine ⟨_,rfl,?_⟩
    have HK4:=Aside0.mk (blk_below HKd.out hb4)
    have HB4:=Aside0.mk (HBd.out.trans (hb4.mono HBd.out.size))
    clear hb4
    refine hK.out _ _ ⟨((blk_cell HK4.out 0).trans rfl),((blk_cell HK4.out 1).trans rfl),((blk_cell HK4.out 2).trans rfl)⟩ (fun hHeld => ?_)
    clear hK K
    refine norm_ (a':=?_) ?_ ?_
    rotate_left
    ·show Act.put _ (some 30) _=_
     simp only [Act.put,List.setIfInBounds_toArray,List.set_cons_zero,List.set_cons_succ,i64_w,i32_w]
     rfl
    refine one_ (i:=8) (N:=some 35) #[true,true,true,true,true,true,true,true,true,false,false,false,false] rfl rfl (by kernel_rfl) (by decide) (fun K hK => ?_)
    refine goes_ Tryz.func34 (by kernel_rfl) rfl #[.string d,.int .u64 n] (by rfl) rfl rfl (by simp only [List.map_toArray,List.map_cons,List.map_nil];rfl) ?_
    with_reducible refine (HACT.out _ (LaidAt.of HLD.out HB4.out)).mono ?_
    rintro e w5 ⟨rfl,hb5⟩
    refine ⟨_,rfl,?_⟩
    have HK5:=Aside0.mk (blk_below HK4.out hb5)
    have HB5:=Aside0.mk (HB4.out.trans (hb5.mono HB4.out.size))
    clear hb5
    refine hK.out _ _ ⟨((blk_cell HK5.out 0).trans rfl),((blk_cell HK5.out 1).trans rfl),((blk_cell HK5.out 2).trans rfl)⟩ (fun hHeld => ?_)
    clear hK K
    refine norm_ (a':=?_) ?_ ?_
    rotate_left
    ·show Act.put _ (some 35) _=_
     simp only [Act.put,List.setIfInBounds_toArray,List.set_cons_zero,List.set_cons_succ,i64_w,i32_w]
     rfl
    refine one_ (i:=9) (N:=some 36) #[true,true,true,true,true,true,true,true,true,true,false,false,false] rfl rfl (by kernel_rfl) (by decide) (fun K hK => ?_)
    refine value_ (w1:=?_) (v:=?_) (by rfl) rfl ?_ ?_
    rotate_left 2
    ·go_simp
     constructor
     ·rfl
     ·rfl
    refine hK.out _ _ ⟨((blk_cell (blk_alloc HK5.out _) 0).trans rfl),((blk_cell (blk_alloc HK5.out _) 1).trans rfl),((blk_cell (blk_alloc HK5.out _) 2).trans rfl)⟩ (fun hHeld => ?_)
    clear hK K
    refine norm_ (a':=?_) ?_ ?_
    rotate_left
    ·show Act.put _ (some 36) _=_
     simp only [Act.put,List.setIfInBounds_toArray,List.set_cons_zero,List.set_cons_succ,i64_w,i32_w]
     rfl
    refine one_ (i:=10) (N:=some 37) #[true,true,true,true,true,true,true,true,true,true,true,false,false] rfl rfl (by kernel_rfl) (by decide) (fun K hK => ?_)
    refine goes_ Tryz.func33 (by kernel_rfl) rfl #[.string ⟨#[32]⟩,.slice (some ⟨w5.heap.size,0,none⟩) 2 2] (by rfl) rfl rfl (by simp only [List.map_toArray,List.map_cons,List.map_nil];rfl) ?_
    with_reducible refine (join2 ⟨#[32]⟩ ⟨#[100,101,102,97,117,108,116]⟩ (actS d n) w5 HJD.out).mono ?_
    rintro e w6 ⟨rfl,hb6⟩
    refine ⟨_,rfl,?_⟩
    have HK6:=Aside0.mk (blk_below HK5.out hb6)
    have HB6:=Aside0.mk (HB5.out.trans (hb6.mono HB5.out.size))
    clear hb6
    refine hK.out _ _ ⟨((blk_cell HK6.out 0).trans rfl),((blk_cell HK6.out 1).trans rfl),((blk_cell HK6.out 2).trans rfl)⟩ (fun hHeld => ?_)
    clear hK K
    refine norm_ (a':=?_) ?_ ?_
    rotate_left
    ·show Act.put _ (some 37) _=_
     simp only [Act.put,List.setIfInBounds_toArray,List.set_cons_zero,List.set_cons_succ,i64_w,i32_w]
     rfl
    refine last_ (i:=11) (N:=some 38) #[true,true,true,true,true,true,true,true,true,true,true,true,false] rfl rfl (by kernel_rfl) (by decide) (fun K hK => ?_)
    refine value_ (w1:=?_) (v:=?_) (by rfl) rfl ?_ ?_
    rotate_left 2
    ·go_simp
     constructor
     ·rfl
     ·rfl
    refine hK.out _ _ ?_
    clear hK K
    refine norm_ (a':=?_) ?_ ?_
    rotate_left
    ·show Act.put _ (some 38) _=_
     simp only [Act.put,List.setIfInBounds_toArray,List.set_cons_zero,List.set_cons_succ,i64_w,i32_w]
     rfl
    refine pure_ (i:=12) (N:=some 4) (v:=?_) (a':=?_) #[true,true,true,true,true,true,true,true,true,true,true,true,true] rfl rfl (by kernel_rfl) (fun _ _ _ h => h) (Or.inl ⟨by rfl,?_⟩) ?_ ?_
    rotate_left
    ·intro w'
     go_simp
     with_reducible rfl
    rotate_left
    ·simp only [Act.put,List.setIfInBounds_toArray,List.set_cons_zero,List.set_cons_succ,i64_w,i32_w]
     rfl
    refine done_ (by kernel_rfl) ?_
    have hlt6:=blk_lt HK6.out
    have HROW:=Aside0.mk (show Kd.R Kd.string 9 (w6.alloc (.cells #[.string (headA a),.string (headD d n)] 9)) (w.heap.size+1) (fun _ => True) (.slice (some ⟨w6.heap.size,0,none⟩) 2 2) [headA a,headD d n] from ⟨fun _ _ => trivial,[.string (headA a),.string (headD d n)],World.ownsRow_lit (base:=w.heap.size+1) (e:=9) (size:=1) w6 #[.string (headA a),.string (headD d n)] 2 hlt6 (by decide) rfl,rfl,fun j x hj => by
     match j,hj with
     |  0,hj => cases hj;rfl
     |  1,hj => cases hj;rfl
     |  j+2,hj => simp at hj⟩)
    have hbl:Below w6.heap.size w6 (w6.alloc (.cells #[.string (headA a),.string (headD d n)] 9)):=(Below.refl _ _).alloc (Nat.le_refl _) _
    have HBL:=Aside0.mk (HB6.out.trans (hbl.mono HB6.out.size))
    have HKL:=Aside0.mk (blk_below HK6.out hbl)
    clear hbl hlt6 g0 g1 g2
    obtain ⟨V,hV⟩:∃ V,V=(w6.alloc (.cells #[.string (headA a),.string (headD d n)] 9)):=⟨_,rfl⟩
    rw [← hV] at HROW HBL HKL
    have hV':w6.alloc (.cells #[.string (joinT ⟨#[32]⟩ [⟨#[97,114,99,104]⟩,a]),.string (joinT ⟨#[32]⟩ [⟨#[100,101,102,97,117,108,116]⟩,actS d n])] 9)=V:=hV.symm
    rw [hV']
    clear hV hV'
    have y3:V.cell? ⟨w.heap.size,3,none⟩=some (.slice A3 rs.length c3):=blk_cell HKL.out 3
    have HVS:=Aside0.mk (blk_lt HKL.out)
    go_wp2_with fail
    clear y3
    go_loopw [4,5,42] (fun v4 v5 v42 wr =>∃(i long:Nat) (acc:List ByteArray),v42=.int .i64 i∧v5=.int .i64 long∧Aside0 (i≤rs.length)∧Aside0 (long≤2000)∧Aside0 (acc.length=i+2∧sumZ acc≤6000+long)∧Aside0 (Kd.R Kd.string 9 wr (w.heap.size+1) (fun _ => True) v4 acc)∧Aside0 (Below w.heap.size w wr)∧Aside0 (w.heap.size+1≤wr.heap.size)∧Aside0 (endS (linesS long (rs.drop i) acc)=Z)) (fun _ _ v42 _ => rs.length - (intOf v42).toNat)
    case atStart => exact ⟨0,0,[headA a,headD d n],rfl,rfl,⟨Nat.zero_le _⟩,⟨by omega⟩,⟨rfl,by have:=HHS.out;rw [sumZ_cons,sumZ_cons,sumZ_nil];omega⟩,HROW,HBL,⟨HVS.out⟩,HZ⟩
    case round =>
     obtain ⟨i,long,acc,rfl,rfl,hi,hlg,hacc,hK,RB,RS,hZ⟩:=hrel
     by_cases hil:i<rs.length
     ·have hd:decide ((i:Int)<(rs.length:Int))=true:=decide_eq_true (by omega)
      have hdn:(i<rs.length)=True:=eq_true hil
      have hi0:(0≤(i:Int))=True:=eq_true (Int.natCast_nonneg i)
      have hi1:((i:Int)<(rs.length:Int))=True:=eq_true (by omega)
      obtain ⟨b,o,rfl,hbw,hxs⟩:=RR_open HC.out (by omega)
      obtain ⟨r,hr⟩:∃ r,rs[i]?=some r:=⟨_,List.getElem?_eq_getElem hil⟩
      obtain ⟨A2,c2,A4,c4,q0,q1,q2,q3,q4,q5,q6,q7,q8,l2,g2,l4,g4⟩:=hxs i r hr
      have x0:=pw_cell_below RB.out q0
      have x1:=pw_cell_below RB.out q1
      have x2:=pw_cell_below RB.out q2
      have x3:=pw_cell_below RB.out q3
      have x4:=pw_cell_below RB.out q4
      have x5:=pw_cell_below RB.out q5
      have x6:=pw_cell_below RB.out q6
      have x7:=pw_cell_below RB.out q7
      have x8:=pw_cell_below RB.out q8
      have HOK:=Aside0.mk (HRS.out r (List.mem_of_getElem? hr))
      have HST:=Aside0.mk ((congrArg endS (lines_step long acc hr)).symm.trans hZ.out)
      have HIL:=Aside0.mk hil
      have hbA:Below wr.heap.size wr (wr.alloc (.cells #[.string r.f0,.int .u64 r.f1,.slice A2 r.f2.length c2,.int .i64 r.f3.f0,.slice A4 r.f3.f1.length c4,.int .i64 r.f3.f2,.int .u64 r.f3.f3,.string r.f3.f4,.int .u64 r.f3.f5] 47)):=(Below.refl _ _).alloc (Nat.le_refl _) _
      have HZA:=Aside0.mk (blk_new wr (.cells #[.string r.f0,.int .u64 r.f1,.slice A2 r.f2.length c2,.int .i64 r.f3.f0,.slice A4 r.f3.f1.length c4,.int .i64 r.f3.f2,.int .u64 r.f3.f3,.string r.f3.f4,.int .u64 r.f3.f5] 47))
      have HBW:=Aside0.mk (RB.out.trans (hbA.mono RB.out.size))
      have HKA:=Aside0.mk (Kd.R_below hK.out hbA)
      have HRU:=Aside0.mk (rule_any r HOK.out A2 c2 A4 c4 _ (Kd.C_below g2 (RB.out.trans (hbA.mono RB.out.size))) l2 (Kd.C_below g4 (RB.out.trans (hbA.mono RB.out.size))) l4 (LaidAt.of HLD.out (RB.out.trans (hbA.mono RB.out.size))))
      clear hbA hxs hr hil hZ hbw g2 g4 l2 l4 q0 q1 q2 q3 q4 q5 q6 q7 q8
      go_upto_region 8 with (fail)
      clear x0 x1 x2 x3 x4 x5 x6 x7 x8
      obtain ⟨U,hU⟩:∃ U,U=wr.alloc (.cells #[.string r.f0,.int .u64 r.f1,.slice A2 r.f2.length c2,.int .i64 r.f3.f0,.slice A4 r.f3.f1.length c4,.int .i64 r.f3.f2,.int .u64 r.f3.f3,.string r.f3.f4,.int .u64 r.f3.f5] 47):=⟨_,rfl⟩
      rw [← hU] at HZA HBW HKA HRU ⊢
      clear hU
      have y0:U.cell? ⟨wr.heap.size,0,none⟩=some (.string r.f0):=blk_cell HZA.out 0
      have y1:U.cell? ⟨wr.heap.size,1,none⟩=some (.int .u64 r.f1):=blk_cell HZA.out 1
      have y2:U.cell? ⟨wr.heap.size,2,none⟩=some (.slice A2 r.f2.length c2):=blk_cell HZA.out 2
      have y3:U.cell? ⟨wr.heap.size,3,none⟩=some (.int .i64 r.f3.f0):=blk_cell HZA.out 3
      have y4:U.cell? ⟨wr.heap.size,4,none⟩=some (.slice A4 r.f3.f1.length c4):=blk_cell HZA.out 4
      have y5:U.cell? ⟨wr.heap.size,5,none⟩=some (.int .i64 r.f3.f2):=blk_cell HZA.out 5
      have y6:U.cell? ⟨wr.heap.size,6,none⟩=some (.int .u64 r.f3.f3):=blk_cell HZA.out 6
      have y7:U.cell? ⟨wr.heap.size,7,none⟩=some (.string r.f3.f4):=blk_cell HZA.out 7
      have y8:U.cell? ⟨wr.heap.size,8,none⟩=some (.int .u64 r.f3.f5):=blk_cell HZA.out 8
      have HSZ:=Aside0.mk (ruleS_size r HOK.out)
      obtain ⟨⟨s,is⟩,hRS⟩:∃ q,ruleS r=q:=⟨_,rfl⟩
      rw [hRS] at HRU HST HSZ
      simp only at HRU HST HSZ
      clear hRS
      go_wp2_with fail
      go_at_call 35
      refine HRU.out.mono ?_
      rintro e w8 ⟨rfl,hb8⟩
      have HK8:=Aside0.mk (Kd.R_below HKA.out hb8)
      have HB8:=Aside0.mk (HBW.out.trans (hb8.mono HBW.out.size))
      have HS8:=Aside0.mk (show w.heap.size+1≤w8.heap.size by have:=hb8.size;have:=blk_lt HZA.out;have:=RS.out;omega)
      clear hb8 y0 y1 y2 y3 y4 y5 y6 y7 y8
      have hwl:wrap64 ((long:Int)+(s.size:Int))=((long+s.size:Nat):Int):=by have:=hlg.out;have:=HSZ.out;unfold wrap64;omega
      have hwl2:wrap64 ((long:Int)+(s.size:Int))=(long:Int)+(s.size:Int):=by have:=hlg.out;have:=HSZ.out;unfold wrap64;omega
      have HWL:=Aside0.mk hwl
      clear hwl
      cases is with
      |  false =>
       have HZ1:=HST.out
       rw [if_neg (fun h => absurd h.1 (by decide))] at HZ1
       have HZ2:(⟨#[]⟩,false)=Z:=HZ1
       subst HZ2
       clear HST HZ1 HZ
       go_wp2_with fail
       all_goals go_ret2
       exact ⟨rfl,HB8.out⟩
      |  true =>
       by_cases hlo:long+s.size≤2000
       ·have hq1:decide ((long:Int)+(s.size:Int)>2000)=false:=decide_eq_false (by omega)
        have hq2:decide (2000<(long:Int)+(s.size:Int))=false:=decide_eq_false (by omega)
        have HLO:=Aside0.mk hlo
        have HST1:=Aside0.mk (show endS (linesS (long+s.size) (rs.drop (i+1)) (acc++[s]))=Z by have h_:=HST.out;rw [if_pos ⟨rfl,hlo⟩] at h_;exact h_)
        clear HST hlo
        go_wp2_with ((with_reducible refine gate_builtin (b:=.append) (xs:=#[.tmp 61,.tmp 63]) rfl ?_);at_builtin;refine Kd.R_append Kd.string (w0:=w8) (w.heap.size+1) rfl (.tmp 61) (.tmp 63) 45 9 (.string ⟨#[]⟩) 16 rfl Tryz.underlying45 infoStr rfl (by decide) (by decide) u4 acc s [.string s] (fun _ => True) (fun _ => False) rfl rfl ?aP (fun _ hk => hk.elim) (fun _ _ => trivial) HK8.out (Below.refl _ _) ?aS ?aL ?_)
        case aP => exact rfl
        case aS => exact HS8.out
        case aL => have:=hacc.out.1;have:=hi.out;have:=HLR.out;omega
        intro v1 w5_ hR5 hb5 hg5 _
        have HR5:=Aside0.mk hR5
        have HB5_:=Aside0.mk hb5
        clear hR5 hb5 hg5
        go_wp2_with fail
        go_roundw
        case rel => exact ⟨i+1,long+s.size,acc++[s],by have:=HIL.out;have:=HXL.out;rw [show wrap64 ((i:Int)+1)=((i+1:Nat):Int) by unfold wrap64;omega],by first|rfl|(rw [HWL.out])|simp,⟨HIL.out⟩,⟨HLO.out⟩,⟨by have:=hacc.out.1;rw [List.length_append,List.length_singleton];omega,by have:=hacc.out.2;rw [sumZ_app,sumZ_cons,sumZ_nil];omega⟩,HR5,⟨HB8.out.trans (HB5_.out.mono (by have:=HS8.out;omega))⟩,⟨by have:=HB5_.out.size;have:=HS8.out;omega⟩,HST1⟩
        case measure =>
         have:=HIL.out
         have:=HXL.out
         rw [show wrap64 ((i:Int)+1)=((i+1:Nat):Int) by unfold wrap64;omega]
         simp only [intOf,Int.toNat_natCast]
         omega
       ·have hq1:decide ((long:Int)+(s.size:Int)>2000)=true:=decide_eq_true (by omega)
        have hq2:decide (2000<(long:Int)+(s.size:Int))=true:=decide_eq_true (by omega)
        have HZ1:=HST.out
        rw [if_neg (fun h => hlo h.2)] at HZ1
        have HZ2:(⟨#[]⟩,false)=Z:=HZ1
        subst HZ2
        clear HST HZ1 HZ hlo
        go_wp2_with fail
        all_goals go_ret2
        exact ⟨rfl,HB8.out⟩
     ·have hd:decide ((i:Int)<(rs.length:Int))=false:=decide_eq_false (by omega)
      have hdn:(i<rs.length)=False:=eq_false hil
      obtain ⟨A9,c9,rfl,hl9,hC9⟩:=Kd.R_reads hK.out
      obtain ⟨b9,o9,rfl,hcells,hb9⟩:=C_strs hC9 (by have:=hacc.out.1;omega)
      have hjs:(joinT ⟨#[10]⟩ acc).size≤100000:=by
       have h1:=joinT_le ⟨#[10]⟩ acc
       have e3:(⟨#[10]⟩:ByteArray).size=1:=rfl
       have:=hacc.out
       have:=hlg.out
       have:=hi.out
       have:=HLR.out
       rw [e3] at h1
       omega
      have HJN:=Aside0.mk (join_any ⟨#[10]⟩ acc b9 o9 c9 wr hcells hb9 (by have:=hacc.out.1;have:=hi.out;have:=HLR.out;omega) hl9 (by omega))
      have HZ3:(joinT ⟨#[10]⟩ acc++⟨#[10]⟩,decide ((joinT ⟨#[10]⟩ acc++⟨#[10]⟩).size≤2000))=Z:=by have h_:=hZ.out;rw [List.drop_of_length_le (by omega)] at h_;exact h_
      have hsz:(joinT ⟨#[10]⟩ acc++⟨#[10]⟩).size=(joinT ⟨#[10]⟩ acc).size+1:=ByteArray.size_append
      rw [hsz] at HZ3
      clear hsz
      obtain ⟨X,hX⟩:∃ X,X=joinT ⟨#[10]⟩ acc:=⟨_,rfl⟩
      rw [← hX] at HJN HZ3 hjs
      clear hX
      obtain ⟨na,hna⟩:∃ na,na=acc.length:=⟨_,rfl⟩
      rw [← hna] at HJN ⊢
      have z0:(9223372036854775807<X.size+1)=False:=eq_false (by omega)
      have HJS:=Aside0.mk hjs
      clear hl9 hC9 hcells hb9 hil hZ HZ hna hjs
      by_cases hx:X.size+1≤2000
      ·rw [decide_eq_true hx] at HZ3
       subst HZ3
       have hq1:decide ((X.size:Int)+1≤2000)=true:=decide_eq_true (by omega)
       have hq2:decide (X.size+1≤2000)=true:=decide_eq_true hx
       have hq3:(X.size+1≤2000)=True:=eq_true hx
       have hq4:(X.size≤1999)=True:=eq_true (by omega)
       clear hx
       go_wp2_with fail
       go_at_call 33
       refine HJN.out.mono ?_
       rintro e w4_ ⟨rfl,hb4⟩
       go_wp2_with fail
       all_goals go_ret2
       exact ⟨rfl,RB.out.trans (hb4.mono RB.out.size)⟩
      ·rw [decide_eq_false hx] at HZ3
       subst HZ3
       have hq1:decide ((X.size:Int)+1≤2000)=false:=decide_eq_false (by omega)
       have hq2:decide (X.size+1≤2000)=false:=decide_eq_false hx
       have hq3:(X.size+1≤2000)=False:=eq_false hx
       have hq4:(X.size≤1999)=False:=eq_false (by omega)
       clear hx
       go_wp2_with fail
       go_at_call 33
       refine HJN.out.mono ?_
       rintro e w4_ ⟨rfl,hb4⟩
       go_wp2_with fail
       all_goals go_ret2
       exact ⟨rfl,RB.out.trans (hb4.mono RB.out.size)⟩
   ·have hl1:decide ((rs.length:Int)>2000)=true:=decide_eq_true (by omega)
    have hl2:(2000<rs.length)=True:=eq_true (by omega)
    have hl3:decide (2000<(rs.length:Int))=true:=decide_eq_true (by omega)
    have HLA:=Aside0.mk hl1
    have HLB:=Aside0.mk hl2
    have HLC:=Aside0.mk hl3
    have HZ:=Aside0.mk (show (⟨#[]⟩,false)=Z from (show sourceS a d n rs=_ from if_neg (fun h => hlr h.2.2)).symm.trans hZ)
    have HZ1:=HZ.out
    subst HZ1
    clear hZ HZ hlr hl1 hl2 hl3
    go_enter Tryz.func17,Tryz.ntmps17
    go_wp2_with fail
    go_at_call 32
    refine (HWA.out).mono ?_
    rintro e w1 ⟨rfl,hb1⟩
    have HB1:=Aside0.mk (HB0.out.trans (hb1.mono HB0.out.size))
    have HK1:=Aside0.mk (blk_below HK0.out hb1)
    clear hb1
    have y1:w1.cell? ⟨w.heap.size,1,none⟩=some (.string d):=blk_cell HK1.out 1
    go_wp2_with fail
    go_at_call 32
    refine (HWD0.out w1 (LaidAt.of HLD.out HB1.out)).mono ?_
    rintro e w2 ⟨rfl,hb2⟩
    have HB2:=Aside0.mk (HB1.out.trans (hb2.mono HB1.out.size))
    have HK2:=Aside0.mk (blk_below HK1.out hb2)
    clear hb2 y1
    have y3:w2.cell? ⟨w.heap.size,3,none⟩=some (.slice A3 rs.length c3):=blk_cell HK2.out 3
    have hl1:=HLA.out
    have hl2:=HLB.out
    have hl3:=HLC.out
    go_wp2_with fail
    all_goals go_ret2
    exact ⟨rfl,HB2.out⟩

def show_source.f (a0_0:ByteArray) (a0_1:ByteArray) (a0_2:Int) (l0_3:List RN):Option (ByteArray × Bool):=if (0≤a0_2∧a0_2<18446744073709551616)∧∀ r ∈ l0_3,okR r then some (sourceS a0_0 a0_1 a0_2 l0_3) else none
theorem show_source.calls (a0_0:ByteArray) (a0_1:ByteArray) (a0_2:Int) (A0_3:Option Addr) (c0_3:Nat) (l0_3:List (S47)) (r1:ByteArray) (r2:Bool) (w:World) (hr0_3:Kd.C k47 w A0_3 l0_3.length l0_3) (hc0_3:l0_3.length≤c0_3) (hLd:LaidAt w) (h:show_source.f a0_0 a0_1 a0_2 l0_3=some (r1,r2)) :
  Calls Tryz.prog 17 #[.agg #[.string a0_0,.string a0_1,.int .u64 a0_2,.slice A0_3 l0_3.length c0_3]] w fun e w' => e=.returned (.tuple #[.string r1,.bool r2])∧Below w.heap.size w w':=by
 unfold show_source.f at h
 split at h
 ·rename_i hs
  have e:=Option.some.inj h
  have h_:=source_any a0_0 a0_1 a0_2 l0_3 hs.1.1 hs.1.2 hs.2 A0_3 c0_3 w hr0_3 hLd
  rw [e] at h_
  exact h_
 ·cases h

/-! ### doorwardref15_Few: function 6 -/
/-! ### the reference's Few -/
def fewB (rs:List RN):Bool:=decide (rs.length≤30) && rs.all fun r => decide (r.f2.length≤60) && decide (nodesC r.f3≤100)
set_option maxHeartbeats 6400000 in
set_option maxRecDepth 100000 in
theorem few_any (a d:ByteArray) (n:Int) (rs:List RN) (A3:Option Addr) (c3:Nat) (w:World) (hC:Kd.C k47 w A3 rs.length rs) (hLd:LaidAt w) :
  Calls Tryz.prog 6 #[.agg #[.string a,.string d,.int .u64 n,.slice A3 rs.length c3]] w fun e w' => e=.returned (.tuple #[.agg #[.string a,.string d,.int .u64 n,.slice A3 rs.length c3],.bool (fewB rs)])∧Below w.heap.size w w':=by
 obtain ⟨Q,hQ⟩:∃ Q,fewB rs=Q:=⟨_,rfl⟩
 rw [hQ]
 have hb0:Below w.heap.size w ((w.alloc (.cells #[.string a,.string d,.int .u64 n,.slice A3 rs.length c3] 25)).alloc (.cells #[.string ⟨#[]⟩,.string ⟨#[]⟩,.int .u64 0,.slice none 0 0] 25)):=((Below.refl _ _).alloc (Nat.le_refl _) _).alloc (Nat.le_trans (Nat.le_succ _) (by rw [World.size_alloc];exact Nat.le_refl _)) _
 have HB0:=Aside0.mk hb0
 have HK0:=Aside0.mk (blk_alloc (blk_new w (.cells #[.string a,.string d,.int .u64 n,.slice A3 rs.length c3] 25)) (.cells #[.string ⟨#[]⟩,.string ⟨#[]⟩,.int .u64 0,.slice none 0 0] 25))
 have HK1:=Aside0.mk (show ((w.alloc (.cells #[.string a,.string d,.int .u64 n,.slice A3 rs.length c3] 25)).alloc (.cells #[.string ⟨#[]⟩,.string ⟨#[]⟩,.int .u64 0,.slice none 0 0] 25)).heap[w.heap.size+1]?=some (.cells #[.string ⟨#[]⟩,.string ⟨#[]⟩,.int .u64 0,.slice none 0 0] 25 (0,0)) by have h_:=blk_new (w.alloc (.cells #[.string a,.string d,.int .u64 n,.slice A3 rs.length c3] 25)) (.cells #[.string ⟨#[]⟩,.string ⟨#[]⟩,.int .u64 0,.slice none 0 0] 25);rwa [World.size_alloc] at h_)
 have HLD:=Aside0.mk hLd
 have HC:=Aside0.mk hC
 clear hb0 hLd hC
 go_enter Tryz.func6,Tryz.ntmps6
 go_upto_region 1 with (fail)
 obtain ⟨V,hV⟩:∃ V,V=(w.alloc (.cells #[.string a,.string d,.int .u64 n,.slice A3 rs.length c3] 25)).alloc (.cells #[.string ⟨#[]⟩,.string ⟨#[]⟩,.int .u64 0,.slice none 0 0] 25):=⟨_,rfl⟩
 rw [← hV] at HB0 HK0 HK1 ⊢
 clear hV
 have f0:V.cell? ⟨w.heap.size,0,none⟩=some (.string a):=(blk_cell HK0.out 0).trans rfl
 have f1:V.cell? ⟨w.heap.size,1,none⟩=some (.string d):=(blk_cell HK0.out 1).trans rfl
 have f2:V.cell? ⟨w.heap.size,2,none⟩=some (.int .u64 n):=(blk_cell HK0.out 2).trans rfl
 have f3:V.cell? ⟨w.heap.size,3,none⟩=some (.slice A3 rs.length c3):=(blk_cell HK0.out 3).trans rfl
 have g0:V.cell? ⟨w.heap.size+1,0,none⟩=some (.string ⟨#[]⟩):=(blk_cell HK1.out 0).trans rfl
 have g1:V.cell? ⟨w.heap.size+1,1,none⟩=some (.string ⟨#[]⟩):=(blk_cell HK1.out 1).trans rfl
 have g2:V.cell? ⟨w.heap.size+1,2,none⟩=some (.int .u64 0):=(blk_cell HK1.out 2).trans rfl
 have g3:V.cell? ⟨w.heap.size+1,3,none⟩=some (.slice none 0 0):=(blk_cell HK1.out 3).trans rfl
 have z0:=blk_frozen HK1.out 0
 have z1:=blk_frozen HK1.out 1
 have z2:=blk_frozen HK1.out 2
 have z3:=blk_frozen HK1.out 3
 by_cases h30:rs.length≤30
 rotate_left
 ·have hd:decide (30<(rs.length:Int))=true:=decide_eq_true (by omega)
  have hd2:(30<rs.length)=True:=eq_true (by omega)
  have hq:Q=false:=by rw [← hQ];unfold fewB;rw [decide_eq_false h30,Bool.false_and]
  clear h30 hQ
  go_wp2_with fail
  refine bodyPost_ret (results_ct rfl _ _ (w.heap.size+1) 25 #[.string a,.string d,.int .u64 n,.slice A3 rs.length c3] (0,0) _ rfl (by refine blk_put (cs:=#[.string a,.string d,.int .u64 n,.slice none 0 0]) ?_ 3 _ rfl;refine blk_put (cs:=#[.string a,.string d,.int .u64 0,.slice none 0 0]) ?_ 2 _ rfl;refine blk_put (cs:=#[.string a,.string ⟨#[]⟩,.int .u64 0,.slice none 0 0]) ?_ 1 _ rfl;refine blk_put (cs:=#[.string ⟨#[]⟩,.string ⟨#[]⟩,.int .u64 0,.slice none 0 0]) ?_ 0 _ rfl;exact HK1.out) Tryz.underlying25 rfl (by kernel_rfl)) rfl ?_
  exact ⟨congrArg (fun b_ => Ending.returned (.tuple #[.agg #[.string a,.string d,.int .u64 n,.slice A3 rs.length c3],.bool b_])) hq.symm,below_set (below_set (below_set (below_set HB0.out (Nat.le_succ _)) (Nat.le_succ _)) (Nat.le_succ _)) (Nat.le_succ _)⟩
 ·have hd:decide (30<(rs.length:Int))=false:=decide_eq_false (by omega)
  have hd2:(30<rs.length)=False:=eq_false (by omega)
  have HL:=Aside0.mk h30
  have HQ:=Aside0.mk (show (rs.drop 0).all (fun r => decide (r.f2.length≤60) && decide (nodesC r.f3≤100))=Q by rw [← hQ];unfold fewB;rw [decide_eq_true h30,Bool.true_and,List.drop_zero])
  clear h30 hQ
  go_wp2_with fail
  clear f0 g0 z0 f1 g1 z1 f2 g2 z2 f3 g3 z3 hd hd2
  go_loopw [14] (fun v14 wr =>∃i:Nat,v14=.int .i64 i∧Aside0 (i≤rs.length)∧Aside0 ((rs.drop i).all (fun r => decide (r.f2.length≤60) && decide (nodesC r.f3≤100))=Q)∧Aside0 (Below w.heap.size w wr)∧Aside0 (wr.heap[w.heap.size]?=some (.cells #[.string a,.string d,.int .u64 n,.slice A3 rs.length c3] 25 (0,0)))∧Aside0 (wr.heap[w.heap.size+1]?=some (.cells #[.string ⟨#[]⟩,.string ⟨#[]⟩,.int .u64 0,.slice none 0 0] 25 (0,0)))) (fun v14 _ => rs.length - (intOf v14).toNat)
  case atStart => exact ⟨0,rfl,⟨Nat.zero_le _⟩,HQ,HB0,HK0,HK1⟩
  case round =>
   obtain ⟨i,rfl,hi,hQ,RB,RK0,RK1⟩:=hrel
   clear HQ HB0 HK0 HK1
   by_cases hil:i<rs.length
   ·have hd:decide ((i:Int)<(rs.length:Int))=true:=decide_eq_true (by omega)
    have hdn:(i<rs.length)=True:=eq_true hil
    have hi0:(0≤(i:Int))=True:=eq_true (Int.natCast_nonneg i)
    obtain ⟨b,o,rfl,hbw,hx⟩:=RR_open HC.out (by omega)
    obtain ⟨r,hrr⟩:∃ r,rs[i]?=some r:=⟨_,List.getElem?_eq_getElem hil⟩
    obtain ⟨A2,c2,A4,c4,q0,q1,q2,q3,q4,q5,q6,q7,q8,hc2,hC2,hc4,hC4⟩:=hx i r hrr
    have x0:=pw_cell_below RB.out q0
    have x1:=pw_cell_below RB.out q1
    have x2:=pw_cell_below RB.out q2
    have x3:=pw_cell_below RB.out q3
    have x4:=pw_cell_below RB.out q4
    have x5:=pw_cell_below RB.out q5
    have x6:=pw_cell_below RB.out q6
    have x7:=pw_cell_below RB.out q7
    have x8:=pw_cell_below RB.out q8
    have HST:=Aside0.mk (show ((decide (r.f2.length≤60) && decide (nodesC r.f3≤100)) && (rs.drop (i+1)).all fun r => decide (r.f2.length≤60) && decide (nodesC r.f3≤100))=Q by obtain ⟨h1,h2⟩:=List.getElem?_eq_some_iff.1 hrr;have h_:=hQ.out;rw [List.drop_eq_getElem_cons h1,h2,List.all_cons] at h_;exact h_)
    have hbA:Below wr.heap.size wr (wr.alloc (.cells #[.string r.f0,.int .u64 r.f1,.slice A2 r.f2.length c2,.int .i64 r.f3.f0,.slice A4 r.f3.f1.length c4,.int .i64 r.f3.f2,.int .u64 r.f3.f3,.string r.f3.f4,.int .u64 r.f3.f5] 47)):=(Below.refl _ _).alloc (Nat.le_refl _) _
    have HZA:=Aside0.mk (blk_new wr (.cells #[.string r.f0,.int .u64 r.f1,.slice A2 r.f2.length c2,.int .i64 r.f3.f0,.slice A4 r.f3.f1.length c4,.int .i64 r.f3.f2,.int .u64 r.f3.f3,.string r.f3.f4,.int .u64 r.f3.f5] 47))
    have HZ0:=Aside0.mk (blk_below RK0.out hbA)
    have HZ1:=Aside0.mk (blk_below RK1.out hbA)
    have HBW:=Aside0.mk (RB.out.trans (hbA.mono RB.out.size))
    have HCA:=Aside0.mk (Kd.C_below hC4 HBW.out)
    have HCC:=Aside0.mk hc4
    have HIL:=Aside0.mk hil
    clear q0 q1 q2 q3 q4 q5 q6 q7 q8 hc2 hC2 hc4 hC4 hx hrr hil hbA hQ hbw
    go_upto_region 6 with (fail)
    clear x0 x1 x2 x3 x4 x5 x6 x7 x8
    obtain ⟨U,hU⟩:∃ U,U=wr.alloc (.cells #[.string r.f0,.int .u64 r.f1,.slice A2 r.f2.length c2,.int .i64 r.f3.f0,.slice A4 r.f3.f1.length c4,.int .i64 r.f3.f2,.int .u64 r.f3.f3,.string r.f3.f4,.int .u64 r.f3.f5] 47):=⟨_,rfl⟩
    rw [← hU] at HZA HZ0 HZ1 HBW HCA ⊢
    clear hU
    have y2:U.cell? ⟨wr.heap.size,2,none⟩=some (.slice A2 r.f2.length c2):=blk_cell HZA.out 2
    have y3:U.cell? ⟨wr.heap.size,3,none⟩=some (.int .i64 r.f3.f0):=blk_cell HZA.out 3
    have y4:U.cell? ⟨wr.heap.size,4,none⟩=some (.slice A4 r.f3.f1.length c4):=blk_cell HZA.out 4
    have y5:U.cell? ⟨wr.heap.size,5,none⟩=some (.int .i64 r.f3.f2):=blk_cell HZA.out 5
    have y6:U.cell? ⟨wr.heap.size,6,none⟩=some (.int .u64 r.f3.f3):=blk_cell HZA.out 6
    have y7:U.cell? ⟨wr.heap.size,7,none⟩=some (.string r.f3.f4):=blk_cell HZA.out 7
    have y8:U.cell? ⟨wr.heap.size,8,none⟩=some (.int .u64 r.f3.f5):=blk_cell HZA.out 8
    by_cases h60:r.f2.length≤60
    rotate_left
    ·have hg:decide (60<(r.f2.length:Int))=true:=decide_eq_true (by omega)
     have hg2:(60<r.f2.length)=True:=eq_true (by omega)
     have hq:Q=false:=by rw [← HST.out,decide_eq_false h60,Bool.false_and,Bool.false_and]
     have f0:U.cell? ⟨w.heap.size,0,none⟩=some (.string a):=(blk_cell HZ0.out 0).trans rfl
     have f1:U.cell? ⟨w.heap.size,1,none⟩=some (.string d):=(blk_cell HZ0.out 1).trans rfl
     have f2:U.cell? ⟨w.heap.size,2,none⟩=some (.int .u64 n):=(blk_cell HZ0.out 2).trans rfl
     have f3:U.cell? ⟨w.heap.size,3,none⟩=some (.slice (some ⟨b,o,none⟩) rs.length c3):=(blk_cell HZ0.out 3).trans rfl
     have g0:U.cell? ⟨w.heap.size+1,0,none⟩=some (.string ⟨#[]⟩):=(blk_cell HZ1.out 0).trans rfl
     have g1:U.cell? ⟨w.heap.size+1,1,none⟩=some (.string ⟨#[]⟩):=(blk_cell HZ1.out 1).trans rfl
     have g2:U.cell? ⟨w.heap.size+1,2,none⟩=some (.int .u64 0):=(blk_cell HZ1.out 2).trans rfl
     have g3:U.cell? ⟨w.heap.size+1,3,none⟩=some (.slice none 0 0):=(blk_cell HZ1.out 3).trans rfl
     have z0:=blk_frozen HZ1.out 0
     have z1:=blk_frozen HZ1.out 1
     have z2:=blk_frozen HZ1.out 2
     have z3:=blk_frozen HZ1.out 3
     clear h60
     go_wp2_with fail
     refine bodyPost_ret (results_ct rfl _ _ (w.heap.size+1) 25 #[.string a,.string d,.int .u64 n,.slice (some ⟨b,o,none⟩) rs.length c3] (0,0) _ rfl (by refine blk_put (cs:=#[.string a,.string d,.int .u64 n,.slice none 0 0]) ?_ 3 _ rfl;refine blk_put (cs:=#[.string a,.string d,.int .u64 0,.slice none 0 0]) ?_ 2 _ rfl;refine blk_put (cs:=#[.string a,.string ⟨#[]⟩,.int .u64 0,.slice none 0 0]) ?_ 1 _ rfl;refine blk_put (cs:=#[.string ⟨#[]⟩,.string ⟨#[]⟩,.int .u64 0,.slice none 0 0]) ?_ 0 _ rfl;exact HZ1.out) Tryz.underlying25 rfl (by kernel_rfl)) rfl ?_
     exact ⟨congrArg (fun b_ => Ending.returned (.tuple #[.agg #[.string a,.string d,.int .u64 n,.slice (some ⟨b,o,none⟩) rs.length c3],.bool b_])) hq.symm,below_set (below_set (below_set (below_set HBW.out (Nat.le_succ _)) (Nat.le_succ _)) (Nat.le_succ _)) (Nat.le_succ _)⟩
    ·have hg:decide (60<(r.f2.length:Int))=false:=decide_eq_false (by omega)
     have hg2:(60<r.f2.length)=False:=eq_false (by omega)
     have HMN:=Aside0.mk (many_any r.f3 100 (by omega) (by omega) A4 c4 U HCA.out HCC.out)
     have H60:=Aside0.mk h60
     clear h60
     obtain ⟨m,hm⟩:∃ m,m=manyS r.f3 100:=⟨_,rfl⟩
     rw [← hm] at HMN
     have HM:=Aside0.mk hm
     clear hm
     go_wp2_with fail
     go_at_call 7
     refine HMN.out.mono ?_
     rintro e w3 ⟨rfl,hb3⟩
     have HY0:=Aside0.mk (blk_below HZ0.out hb3)
     have HY1:=Aside0.mk (blk_below HZ1.out hb3)
     have HB3:=Aside0.mk (HBW.out.trans (hb3.mono HBW.out.size))
     clear hb3 y2 y3 y4 y5 y6 y7 y8
     by_cases hmm:nodesC r.f3≤100
     rotate_left
     ·have hk:decide (100<(m:Int))=true:=decide_eq_true (by rw [HM.out];unfold manyS;omega)
      have hk2:(100<m)=True:=eq_true (by rw [HM.out];unfold manyS;omega)
      have hq:Q=false:=by rw [← HST.out,decide_eq_false hmm,Bool.and_false,Bool.false_and]
      have f0:w3.cell? ⟨w.heap.size,0,none⟩=some (.string a):=(blk_cell HY0.out 0).trans rfl
      have f1:w3.cell? ⟨w.heap.size,1,none⟩=some (.string d):=(blk_cell HY0.out 1).trans rfl
      have f2:w3.cell? ⟨w.heap.size,2,none⟩=some (.int .u64 n):=(blk_cell HY0.out 2).trans rfl
      have f3:w3.cell? ⟨w.heap.size,3,none⟩=some (.slice (some ⟨b,o,none⟩) rs.length c3):=(blk_cell HY0.out 3).trans rfl
      have g0:w3.cell? ⟨w.heap.size+1,0,none⟩=some (.string ⟨#[]⟩):=(blk_cell HY1.out 0).trans rfl
      have g1:w3.cell? ⟨w.heap.size+1,1,none⟩=some (.string ⟨#[]⟩):=(blk_cell HY1.out 1).trans rfl
      have g2:w3.cell? ⟨w.heap.size+1,2,none⟩=some (.int .u64 0):=(blk_cell HY1.out 2).trans rfl
      have g3:w3.cell? ⟨w.heap.size+1,3,none⟩=some (.slice none 0 0):=(blk_cell HY1.out 3).trans rfl
      have z0:=blk_frozen HY1.out 0
      have z1:=blk_frozen HY1.out 1
      have z2:=blk_frozen HY1.out 2
      have z3:=blk_frozen HY1.out 3
      clear hmm
      go_wp2_with fail
      refine bodyPost_ret (results_ct rfl _ _ (w.heap.size+1) 25 #[.string a,.string d,.int .u64 n,.slice (some ⟨b,o,none⟩) rs.length c3] (0,0) _ rfl (by refine blk_put (cs:=#[.string a,.string d,.int .u64 n,.slice none 0 0]) ?_ 3 _ rfl;refine blk_put (cs:=#[.string a,.string d,.int .u64 0,.slice none 0 0]) ?_ 2 _ rfl;refine blk_put (cs:=#[.string a,.string ⟨#[]⟩,.int .u64 0,.slice none 0 0]) ?_ 1 _ rfl;refine blk_put (cs:=#[.string ⟨#[]⟩,.string ⟨#[]⟩,.int .u64 0,.slice none 0 0]) ?_ 0 _ rfl;exact HY1.out) Tryz.underlying25 rfl (by kernel_rfl)) rfl ?_
      exact ⟨congrArg (fun b_ => Ending.returned (.tuple #[.agg #[.string a,.string d,.int .u64 n,.slice (some ⟨b,o,none⟩) rs.length c3],.bool b_])) hq.symm,below_set (below_set (below_set (below_set HB3.out (Nat.le_succ _)) (Nat.le_succ _)) (Nat.le_succ _)) (Nat.le_succ _)⟩
     ·have hk:decide (100<(m:Int))=false:=decide_eq_false (by rw [HM.out];unfold manyS;omega)
      have hk2:(100<m)=False:=eq_false (by rw [HM.out];unfold manyS;omega)
      have HN1:=Aside0.mk (show (rs.drop (i+1)).all (fun r => decide (r.f2.length≤60) && decide (nodesC r.f3≤100))=Q by have h_:=HST.out;rw [decide_eq_true H60.out,decide_eq_true hmm,Bool.true_and,Bool.true_and] at h_;exact h_)
      clear hmm
      go_wp2_with fail
      go_roundw
      case rel => exact ⟨i+1,by have:=HIL.out;have:=HL.out;rw [show wrap64 ((i:Int)+1)=((i+1:Nat):Int) by unfold wrap64;omega],⟨HIL.out⟩,HN1,HB3,HY0,HY1⟩
      case measure =>
       have:=HIL.out
       have:=HL.out
       rw [show wrap64 ((i:Int)+1)=((i+1:Nat):Int) by unfold wrap64;omega]
       simp only [intOf,Int.toNat_natCast]
       omega
   ·have hd:decide ((i:Int)<(rs.length:Int))=false:=decide_eq_false (by omega)
    have hdn:(i<rs.length)=False:=eq_false hil
    have hq:Q=true:=by rw [← hQ.out,List.drop_of_length_le (by omega),List.all_nil]
    have f0:wr.cell? ⟨w.heap.size,0,none⟩=some (.string a):=(blk_cell RK0.out 0).trans rfl
    have f1:wr.cell? ⟨w.heap.size,1,none⟩=some (.string d):=(blk_cell RK0.out 1).trans rfl
    have f2:wr.cell? ⟨w.heap.size,2,none⟩=some (.int .u64 n):=(blk_cell RK0.out 2).trans rfl
    have f3:wr.cell? ⟨w.heap.size,3,none⟩=some (.slice A3 rs.length c3):=(blk_cell RK0.out 3).trans rfl
    have g0:wr.cell? ⟨w.heap.size+1,0,none⟩=some (.string ⟨#[]⟩):=(blk_cell RK1.out 0).trans rfl
    have g1:wr.cell? ⟨w.heap.size+1,1,none⟩=some (.string ⟨#[]⟩):=(blk_cell RK1.out 1).trans rfl
    have g2:wr.cell? ⟨w.heap.size+1,2,none⟩=some (.int .u64 0):=(blk_cell RK1.out 2).trans rfl
    have g3:wr.cell? ⟨w.heap.size+1,3,none⟩=some (.slice none 0 0):=(blk_cell RK1.out 3).trans rfl
    have z0:=blk_frozen RK1.out 0
    have z1:=blk_frozen RK1.out 1
    have z2:=blk_frozen RK1.out 2
    have z3:=blk_frozen RK1.out 3
    clear hil
    go_wp2_with fail
    refine bodyPost_ret (results_ct rfl _ _ (w.heap.size+1) 25 #[.string a,.string d,.int .u64 n,.slice A3 rs.length c3] (0,0) _ rfl (by refine blk_put (cs:=#[.string a,.string d,.int .u64 n,.slice none 0 0]) ?_ 3 _ rfl;refine blk_put (cs:=#[.string a,.string d,.int .u64 0,.slice none 0 0]) ?_ 2 _ rfl;refine blk_put (cs:=#[.string a,.string ⟨#[]⟩,.int .u64 0,.slice none 0 0]) ?_ 1 _ rfl;refine blk_put (cs:=#[.string ⟨#[]⟩,.string ⟨#[]⟩,.int .u64 0,.slice none 0 0]) ?_ 0 _ rfl;exact RK1.out) Tryz.underlying25 rfl (by kernel_rfl)) rfl ?_
    exact ⟨congrArg (fun b_ => Ending.returned (.tuple #[.agg #[.string a,.string d,.int .u64 n,.slice A3 rs.length c3],.bool b_])) hq.symm,below_set (below_set (below_set (below_set RB.out (Nat.le_succ _)) (Nat.le_succ _)) (Nat.le_succ _)) (Nat.le_succ _)⟩

def doorwardref15_Few.f (a0_0:ByteArray) (a0_1:ByteArray) (a0_2:Int) (l0_3:List RN):Option (ByteArray × ByteArray × Int × List RN × Bool):=some (a0_0,a0_1,a0_2,l0_3,fewB l0_3)
theorem doorwardref15_Few.calls (a0_0:ByteArray) (a0_1:ByteArray) (a0_2:Int) (P0_3_:Nat→Prop) (A0_3:Option Addr) (c0_3:Nat) (l0_3:List RN) (r1:ByteArray) (r2:ByteArray) (r3:Int) (r4:List RN) (r5:Bool) (w:World) (hs0_3:Kd.V k47 47 w w.heap.size (fun k_ => P0_3_ k_) (.slice A0_3 l0_3.length c0_3) l0_3) (hLd:LaidAt w) (h:doorwardref15_Few.f a0_0 a0_1 a0_2 l0_3=some (r1,r2,r3,r4,r5)) :
  Calls Tryz.prog 6 #[.agg #[.string a0_0,.string a0_1,.int .u64 a0_2,.slice A0_3 l0_3.length c0_3]] w fun e w' =>∃v3_:Value,e=.returned (.tuple #[.agg #[.string r1,.string r2,.int .u64 r3,v3_],.bool r5])∧Kd.V k47 47 w' w.heap.size (fun k_ => (P0_3_ k_ ∨ w.heap.size≤k_)) v3_ r4∧Below w.heap.size w w':=by
 have e:=Option.some.inj h
 simp only [Prod.mk.injEq] at e
 obtain ⟨rfl,rfl,rfl,rfl,rfl⟩:=e
 refine (few_any a0_0 a0_1 a0_2 l0_3 A0_3 c0_3 w (Kd.V_reads' hs0_3).2.2 hLd).mono fun e' w' ⟨h1,h2⟩ => ⟨_,h1,?_,h2⟩
 exact Kd.V_mono (Kd.V_below hs0_3 h2) (fun k_ hk => .inl hk)

/-! ### show_Print: function 9 -/
def show_Print.f (a0_0:ByteArray) (a0_1:ByteArray) (a0_2:Int) (l0_3:List (S47)):Option (ByteArray × Int):=(show_source.f a0_0 a0_1 a0_2 l0_3).bind fun bt147 => (if bt147.2=true then (some (bt147.1,0)) else (some ((⟨#[]⟩:ByteArray),1)))
set_option maxHeartbeats 8000000 in
set_option maxRecDepth 100000 in
theorem show_Print.calls (a0_0:ByteArray) (a0_1:ByteArray) (a0_2:Int) (A0_3:Option Addr) (c0_3:Nat) (l0_3:List (S47)) (r1:ByteArray) (r2:Int) (w:World) (hr0_3:Kd.C k47 w A0_3 l0_3.length l0_3) (hc0_3:l0_3.length≤c0_3) (hLd:LaidAt w) (h:show_Print.f a0_0 a0_1 a0_2 l0_3=some (r1,r2)) :
  Calls Tryz.prog 9 #[.agg #[.string a0_0,.string a0_1,.int .u64 a0_2,.slice A0_3 l0_3.length c0_3]] w fun e w' => e=.returned (.tuple #[.string r1,.int .i64 r2])∧Below w.heap.size w w':=by
 have hu25:=Tryz.underlying25
 have HLD:=Aside0.mk hLd
 clear hLd
 have HR0_3:=Aside0.mk hr0_3
 have HC0_3:=Aside0.mk hc0_3
 clear hr0_3 hc0_3
 have HB:=Aside0.mk (Below.refl w.heap.size w)
 have H:((show_source.f a0_0 a0_1 a0_2 l0_3).bind fun bt147 => (if bt147.2=true then (some (bt147.1,0)) else (some ((⟨#[]⟩:ByteArray),1))))=some (r1,r2):=h
 clear h
 replace H:=Option.bind_eq_some_iff.mp H
 obtain ⟨⟨t147,t148⟩,A20,H⟩:=H
 replace H:(if t148=true then (some (t147,0)) else (some ((⟨#[]⟩:ByteArray),1)))=some (r1,r2):=H
 have A2:=Aside0.mk A20
 clear A20
 by_cases c3:t148=true
 ·subst c3
  have H1:(some (t147,0))=some (r1,r2):=by rw [if_pos rfl] at H;exact H
  clear H
  have H:=H1
  clear H1
  simp only [Option.some.injEq,Prod.mk.injEq] at H
  obtain ⟨rfl,rfl⟩:=H
  go_enter Tryz.func9,Tryz.ntmps9
  go_wp2_with (first|((with_reducible refine gate_dst (N:=1) rfl ?_);refine box_event ?hg (N:=1) ?hd (cs:=#[.string a0_0,.string a0_1,.int .u64 a0_2,.slice A0_3 l0_3.length c0_3]) (t:=25) ?hr ?_;(case hd => rfl);(case hg => rfl);(case hr => first|(go_simp;done)|(go_simp;rfl));intro gb146 hg w4 hbox hb;have n0_:=Aside0.mk (below_step (by repeat (with_reducible first|exact HB.out|apply below_alloc|apply pw_below_drewN|apply below_drew1)) hb);have n1_:=Aside0.mk (hbox);have n2_:=Aside0.mk ((by rw [hg];exact (below_size (by repeat (with_reducible first|exact HB.out|apply below_alloc|apply pw_below_drewN|apply below_drew1))):w.heap.size≤gb146));have n3_:=Aside0.mk ((by rw [hg];exact (below_size (by repeat (with_reducible first|exact HB.out|apply below_alloc|apply pw_below_drewN|apply below_drew1))):w.heap.size≤gb146));clear HB;have HB:=n0_;have BK146:=n1_;have GW146:=n2_;have GE146:=n3_;clear n0_ n1_ n2_ n3_;clear hb hbox hg;have hcz5_0:w4.cell? ⟨gb146,0,none⟩=some (.string a0_0):=(blk_cell BK146.out 0).trans rfl;have hcz5_1:w4.cell? ⟨gb146,1,none⟩=some (.string a0_1):=(blk_cell BK146.out 1).trans rfl;have hcz5_2:w4.cell? ⟨gb146,2,none⟩=some (.int .u64 a0_2):=(blk_cell BK146.out 2).trans rfl;have hcz5_3:w4.cell? ⟨gb146,3,none⟩=some (.slice A0_3 l0_3.length c0_3):=(blk_cell BK146.out 3).trans rfl;have hfz5_0:=blk_frozen BK146.out 0;have hfz5_1:=blk_frozen BK146.out 1;have hfz5_2:=blk_frozen BK146.out 2;have hfz5_3:=blk_frozen BK146.out 3)|((with_reducible refine gate_callee (f:=17) rfl ?_);refine goesL_ (some 8) rfl rfl Tryz.func17 (by kernel_rfl) rfl #[.agg #[.string a0_0,.string a0_1,.int .u64 a0_2,.slice A0_3 l0_3.length c0_3]] rfl (by (try simp only [List.map_toArray,List.map_cons,List.map_nil]);first|done|rfl|(simp only [List.length_drop,List.length_take];rfl)) ?_;(with_reducible refine (show_source.calls a0_0 a0_1 a0_2 _ _ l0_3 t147 true _ ?side1 ?side2 ?side3 A2.out).mono ?_);(case side1 => repeat (first|exact (Kd.C_below HR0_3.out HB.out)|(with_reducible refine Kd.C_alloc ?_ _)|(with_reducible refine Kd.C_drewN ?_ _)|(with_reducible refine Kd.C_drew ?_)));(case side2 => exact HC0_3.out);(case side3 => exact LaidAt.of HLD.out (by repeat (first|(with_reducible first|exact HB.out|apply below_alloc|apply pw_below_drewN|apply below_drew1|refine below_set ?_ GE146.out)|exact HB.out)));rintro e w6 ⟨rfl,hb⟩;refine ⟨_,rfl,?_⟩;have n0_:=Aside0.mk (blk_below (g:=gb146) (o:=.cells #[.string a0_0,.string a0_1,.int .u64 a0_2,.slice A0_3 l0_3.length c0_3] 25 (0,0)) (by (with_reducible repeat (first|refine zN ?_|refine zD ?_|refine zA ?_));exact BK146.out) hb);have n1_:=Aside0.mk (below_step (by repeat (first|(with_reducible first|exact HB.out|apply below_alloc|apply pw_below_drewN|apply below_drew1|refine below_set ?_ GE146.out)|exact HB.out)) hb);clear BK146;clear HB;have BK146:=n0_;have HB:=n1_;clear n0_ n1_;(try clear hb);(try clear hb2);(try clear hk);(try clear hi)))
  go_ret2
  exact ⟨by first|rfl|(simp [errW_none,errW_some]<;>rfl)|(simp [*,errW_none,errW_some]<;>rfl),by repeat (first|(with_reducible first|exact HB.out|apply below_alloc|apply pw_below_drewN|apply below_drew1|refine below_set ?_ GE146.out)|exact HB.out)⟩
 ·replace c3:=Bool.eq_false_iff.mpr c3
  subst c3
  have H1:(some ((⟨#[]⟩:ByteArray),1))=some (r1,r2):=by rw [if_neg (show ¬ (false=true) by decide)] at H;exact H
  clear H
  have H:=H1
  clear H1
  simp only [Option.some.injEq,Prod.mk.injEq] at H
  obtain ⟨rfl,rfl⟩:=H
  go_enter Tryz.func9,Tryz.ntmps9
  go_wp2_with (first|((with_reducible refine gate_dst (N:=1) rfl ?_);refine box_event ?hg (N:=1) ?hd (cs:=#[.string a0_0,.string a0_1,.int .u64 a0_2,.slice A0_3 l0_3.length c0_3]) (t:=25) ?hr ?_;(case hd => rfl);(case hg => rfl);(case hr => first|(go_simp;done)|(go_simp;rfl));intro gb146 hg w7 hbox hb;have n0_:=Aside0.mk (below_step (by repeat (with_reducible first|exact HB.out|apply below_alloc|apply pw_below_drewN|apply below_drew1)) hb);have n1_:=Aside0.mk (hbox);have n2_:=Aside0.mk ((by rw [hg];exact (below_size (by repeat (with_reducible first|exact HB.out|apply below_alloc|apply pw_below_drewN|apply below_drew1))):w.heap.size≤gb146));have n3_:=Aside0.mk ((by rw [hg];exact (below_size (by repeat (with_reducible first|exact HB.out|apply below_alloc|apply pw_below_drewN|apply below_drew1))):w.heap.size≤gb146));clear HB;have HB:=n0_;have BK146:=n1_;have GW146:=n2_;have GE146:=n3_;clear n0_ n1_ n2_ n3_;clear hb hbox hg;have hcz8_0:w7.cell? ⟨gb146,0,none⟩=some (.string a0_0):=(blk_cell BK146.out 0).trans rfl;have hcz8_1:w7.cell? ⟨gb146,1,none⟩=some (.string a0_1):=(blk_cell BK146.out 1).trans rfl;have hcz8_2:w7.cell? ⟨gb146,2,none⟩=some (.int .u64 a0_2):=(blk_cell BK146.out 2).trans rfl;have hcz8_3:w7.cell? ⟨gb146,3,none⟩=some (.slice A0_3 l0_3.length c0_3):=(blk_cell BK146.out 3).trans rfl;have hfz8_0:=blk_frozen BK146.out 0;have hfz8_1:=blk_frozen BK146.out 1;have hfz8_2:=blk_frozen BK146.out 2;have hfz8_3:=blk_frozen BK146.out 3)|((with_reducible refine gate_callee (f:=17) rfl ?_);refine goesL_ (some 8) rfl rfl Tryz.func17 (by kernel_rfl) rfl #[.agg #[.string a0_0,.string a0_1,.int .u64 a0_2,.slice A0_3 l0_3.length c0_3]] rfl (by (try simp only [List.map_toArray,List.map_cons,List.map_nil]);first|done|rfl|(simp only [List.length_drop,List.length_take];rfl)) ?_;(with_reducible refine (show_source.calls a0_0 a0_1 a0_2 _ _ l0_3 t147 false _ ?side1 ?side2 ?side3 A2.out).mono ?_);(case side1 => repeat (first|exact (Kd.C_below HR0_3.out HB.out)|(with_reducible refine Kd.C_alloc ?_ _)|(with_reducible refine Kd.C_drewN ?_ _)|(with_reducible refine Kd.C_drew ?_)));(case side2 => exact HC0_3.out);(case side3 => exact LaidAt.of HLD.out (by repeat (first|(with_reducible first|exact HB.out|apply below_alloc|apply pw_below_drewN|apply below_drew1|refine below_set ?_ GE146.out)|exact HB.out)));rintro e w9 ⟨rfl,hb⟩;refine ⟨_,rfl,?_⟩;have n0_:=Aside0.mk (blk_below (g:=gb146) (o:=.cells #[.string a0_0,.string a0_1,.int .u64 a0_2,.slice A0_3 l0_3.length c0_3] 25 (0,0)) (by (with_reducible repeat (first|refine zN ?_|refine zD ?_|refine zA ?_));exact BK146.out) hb);have n1_:=Aside0.mk (below_step (by repeat (first|(with_reducible first|exact HB.out|apply below_alloc|apply pw_below_drewN|apply below_drew1|refine below_set ?_ GE146.out)|exact HB.out)) hb);clear BK146;clear HB;have BK146:=n0_;have HB:=n1_;clear n0_ n1_;(try clear hb);(try clear hb2);(try clear hk);(try clear hi)))
  go_ret2
  exact ⟨by first|rfl|(simp [errW_none,errW_some]<;>rfl)|(simp [*,errW_none,errW_some]<;>rfl),by repeat (first|(with_reducible first|exact HB.out|apply below_alloc|apply pw_below_drewN|apply below_drew1|refine below_set ?_ GE146.out)|exact HB.out)⟩

/-! ### doorwardlaw17_alive: function 8 -/
def doorwardlaw17_alive.f :Option (Bool):=(show_Print.f (⟨#[97]⟩:ByteArray) (⟨#[98]⟩:ByteArray) 3 ([]:List (S47))).bind fun bt149 => (if bt149.2=0 then (some (bt149.1.toList==([97,114,99,104,32,97,10,100,101,102,97,117,108,116,32,98,32,51,10]:List UInt8))) else (some false))
set_option maxHeartbeats 8000000 in
set_option maxRecDepth 100000 in
theorem doorwardlaw17_alive.calls  (r:Bool) (w:World) (hLd:LaidAt w) (h:doorwardlaw17_alive.f =some r) :
  Calls Tryz.prog 8 #[] w fun e w' => e=.returned (.bool r)∧Below w.heap.size w w':=by
 have hu25:=Tryz.underlying25
 have HLD:=Aside0.mk hLd
 clear hLd
 have HB:=Aside0.mk (Below.refl w.heap.size w)
 have H:((show_Print.f (⟨#[97]⟩:ByteArray) (⟨#[98]⟩:ByteArray) 3 ([]:List (S47))).bind fun bt149 => (if bt149.2=0 then (some (bt149.1.toList==([97,114,99,104,32,97,10,100,101,102,97,117,108,116,32,98,32,51,10]:List UInt8))) else (some false)))=some r:=h
 clear h
 replace H:=Option.bind_eq_some_iff.mp H
 obtain ⟨⟨t149,t150⟩,A10,H⟩:=H
 replace H:(if t150=0 then (some (t149.toList==([97,114,99,104,32,97,10,100,101,102,97,117,108,116,32,98,32,51,10]:List UInt8))) else (some false))=some r:=H
 have A1:=Aside0.mk A10
 clear A10
 by_cases c2:t150=0
 ·rw [if_pos c2] at H
  have c2b0:(t150==0)=true:=beq_iff_eq.mpr c2
  have c2b1:(t150 != 0)=false:=bne_eq_false_iff_eq.mpr c2
  clear c2
  obtain rfl:=Option.some.inj H
  go_enter Tryz.func8,Tryz.ntmps8
  go_wp2_with (first|((with_reducible refine gate_callee (f:=9) rfl ?_);refine goesL_ (some 5) rfl rfl Tryz.func9 (by kernel_rfl) rfl #[.agg #[.string (⟨#[97]⟩:ByteArray),.string (⟨#[98]⟩:ByteArray),.int .u64 3,.slice none 0 0]] rfl (by (try simp only [List.map_toArray,List.map_cons,List.map_nil]);first|done|rfl|(simp only [List.length_drop,List.length_take];rfl)) ?_;(refine (show_Print.calls (⟨#[97]⟩:ByteArray) (⟨#[98]⟩:ByteArray) 3 _ _ ([]:List (S47)) t149 t150 _ ?side1 ?side2 ?side3 A1.out).mono ?_);(case side1 => exact Kd.C_nil _ _);(case side2 => exact Nat.le_refl _);(case side3 => exact LaidAt.of HLD.out (by repeat (with_reducible first|exact HB.out|apply below_alloc|apply pw_below_drewN|apply below_drew1)));rintro e w3 ⟨rfl,hb⟩;refine ⟨_,rfl,?_⟩;have n0_:=Aside0.mk (below_step (by repeat (with_reducible first|exact HB.out|apply below_alloc|apply pw_below_drewN|apply below_drew1)) hb);clear HB;have HB:=n0_;clear n0_;(try clear hb);(try clear hb2);(try clear hk);(try clear hi)))
  go_ret
  exact ⟨by first|rfl|(simp [errW_none,errW_some]<;>rfl)|(simp [*,errW_none,errW_some]<;>rfl),by repeat (with_reducible first|exact HB.out|apply below_alloc|apply pw_below_drewN|apply below_drew1)⟩
 ·rw [if_neg c2] at H
  have c2b0:(t150==0)=false:=beq_eq_false_iff_ne.mpr c2
  have c2b1:(t150 != 0)=true:=bne_iff_ne.mpr c2
  obtain rfl:=Option.some.inj H
  go_enter Tryz.func8,Tryz.ntmps8
  go_wp2_with (first|((with_reducible refine gate_callee (f:=9) rfl ?_);refine goesL_ (some 5) rfl rfl Tryz.func9 (by kernel_rfl) rfl #[.agg #[.string (⟨#[97]⟩:ByteArray),.string (⟨#[98]⟩:ByteArray),.int .u64 3,.slice none 0 0]] rfl (by (try simp only [List.map_toArray,List.map_cons,List.map_nil]);first|done|rfl|(simp only [List.length_drop,List.length_take];rfl)) ?_;(refine (show_Print.calls (⟨#[97]⟩:ByteArray) (⟨#[98]⟩:ByteArray) 3 _ _ ([]:List (S47)) t149 t150 _ ?side1 ?side2 ?side3 A1.out).mono ?_);(case side1 => exact Kd.C_nil _ _);(case side2 => exact Nat.le_refl _);(case side3 => exact LaidAt.of HLD.out (by repeat (with_reducible first|exact HB.out|apply below_alloc|apply pw_below_drewN|apply below_drew1)));rintro e w4 ⟨rfl,hb⟩;refine ⟨_,rfl,?_⟩;have n0_:=Aside0.mk (below_step (by repeat (with_reducible first|exact HB.out|apply below_alloc|apply pw_below_drewN|apply below_drew1)) hb);clear HB;have HB:=n0_;clear n0_;(try clear hb);(try clear hb2);(try clear hk);(try clear hi)))
  go_ret
  exact ⟨by first|rfl|(simp [errW_none,errW_some]<;>rfl)|(simp [*,errW_none,errW_some]<;>rfl),by repeat (with_reducible first|exact HB.out|apply below_alloc|apply pw_below_drewN|apply below_drew1)⟩

/-! ### show_Right: function 11 -/
def show_Right.f (a0_0:ByteArray) (a0_1:ByteArray) (a0_2:Int) (l0_3:List (S47)):Option (Bool):=(show_source.f a0_0 a0_1 a0_2 l0_3).bind fun bt152 => (some bt152.2)
set_option maxHeartbeats 8000000 in
set_option maxRecDepth 100000 in
theorem show_Right.calls (a0_0:ByteArray) (a0_1:ByteArray) (a0_2:Int) (A0_3:Option Addr) (c0_3:Nat) (l0_3:List (S47)) (r:Bool) (w:World) (hr0_3:Kd.C k47 w A0_3 l0_3.length l0_3) (hc0_3:l0_3.length≤c0_3) (hLd:LaidAt w) (h:show_Right.f a0_0 a0_1 a0_2 l0_3=some r) :
  Calls Tryz.prog 11 #[.agg #[.string a0_0,.string a0_1,.int .u64 a0_2,.slice A0_3 l0_3.length c0_3]] w fun e w' => e=.returned (.bool r)∧Below w.heap.size w w':=by
 have hu25:=Tryz.underlying25
 have HLD:=Aside0.mk hLd
 clear hLd
 have HR0_3:=Aside0.mk hr0_3
 have HC0_3:=Aside0.mk hc0_3
 clear hr0_3 hc0_3
 have HB:=Aside0.mk (Below.refl w.heap.size w)
 have H:((show_source.f a0_0 a0_1 a0_2 l0_3).bind fun bt152 => (some bt152.2))=some r:=h
 clear h
 replace H:=Option.bind_eq_some_iff.mp H
 obtain ⟨⟨t152,t153⟩,A20,H⟩:=H
 replace H:(some t153)=some r:=H
 have A2:=Aside0.mk A20
 clear A20
 obtain rfl:=Option.some.inj H
 go_enter Tryz.func11,Tryz.ntmps11
 go_wp2_with (first|((with_reducible refine gate_dst (N:=1) rfl ?_);refine box_event ?hg (N:=1) ?hd (cs:=#[.string a0_0,.string a0_1,.int .u64 a0_2,.slice A0_3 l0_3.length c0_3]) (t:=25) ?hr ?_;(case hd => rfl);(case hg => rfl);(case hr => first|(go_simp;done)|(go_simp;rfl));intro gb151 hg w3 hbox hb;have n0_:=Aside0.mk (below_step (by repeat (with_reducible first|exact HB.out|apply below_alloc|apply pw_below_drewN|apply below_drew1)) hb);have n1_:=Aside0.mk (hbox);have n2_:=Aside0.mk ((by rw [hg];exact (below_size (by repeat (with_reducible first|exact HB.out|apply below_alloc|apply pw_below_drewN|apply below_drew1))):w.heap.size≤gb151));have n3_:=Aside0.mk ((by rw [hg];exact (below_size (by repeat (with_reducible first|exact HB.out|apply below_alloc|apply pw_below_drewN|apply below_drew1))):w.heap.size≤gb151));clear HB;have HB:=n0_;have BK151:=n1_;have GW151:=n2_;have GE151:=n3_;clear n0_ n1_ n2_ n3_;clear hb hbox hg;have hcz4_0:w3.cell? ⟨gb151,0,none⟩=some (.string a0_0):=(blk_cell BK151.out 0).trans rfl;have hcz4_1:w3.cell? ⟨gb151,1,none⟩=some (.string a0_1):=(blk_cell BK151.out 1).trans rfl;have hcz4_2:w3.cell? ⟨gb151,2,none⟩=some (.int .u64 a0_2):=(blk_cell BK151.out 2).trans rfl;have hcz4_3:w3.cell? ⟨gb151,3,none⟩=some (.slice A0_3 l0_3.length c0_3):=(blk_cell BK151.out 3).trans rfl;have hfz4_0:=blk_frozen BK151.out 0;have hfz4_1:=blk_frozen BK151.out 1;have hfz4_2:=blk_frozen BK151.out 2;have hfz4_3:=blk_frozen BK151.out 3)|((with_reducible refine gate_callee (f:=17) rfl ?_);refine goesL_ (some 7) rfl rfl Tryz.func17 (by kernel_rfl) rfl #[.agg #[.string a0_0,.string a0_1,.int .u64 a0_2,.slice A0_3 l0_3.length c0_3]] rfl (by (try simp only [List.map_toArray,List.map_cons,List.map_nil]);first|done|rfl|(simp only [List.length_drop,List.length_take];rfl)) ?_;(with_reducible refine (show_source.calls a0_0 a0_1 a0_2 _ _ l0_3 t152 t153 _ ?side1 ?side2 ?side3 A2.out).mono ?_);(case side1 => repeat (first|exact (Kd.C_below HR0_3.out HB.out)|(with_reducible refine Kd.C_alloc ?_ _)|(with_reducible refine Kd.C_drewN ?_ _)|(with_reducible refine Kd.C_drew ?_)));(case side2 => exact HC0_3.out);(case side3 => exact LaidAt.of HLD.out (by repeat (first|(with_reducible first|exact HB.out|apply below_alloc|apply pw_below_drewN|apply below_drew1|refine below_set ?_ GE151.out)|exact HB.out)));rintro e w5 ⟨rfl,hb⟩;refine ⟨_,rfl,?_⟩;have n0_:=Aside0.mk (blk_below (g:=gb151) (o:=.cells #[.string a0_0,.string a0_1,.int .u64 a0_2,.slice A0_3 l0_3.length c0_3] 25 (0,0)) (by (with_reducible repeat (first|refine zN ?_|refine zD ?_|refine zA ?_));exact BK151.out) hb);have n1_:=Aside0.mk (below_step (by repeat (first|(with_reducible first|exact HB.out|apply below_alloc|apply pw_below_drewN|apply below_drew1|refine below_set ?_ GE151.out)|exact HB.out)) hb);clear BK151;clear HB;have BK151:=n0_;have HB:=n1_;clear n0_ n1_;(try clear hb);(try clear hb2);(try clear hk);(try clear hi)))
 go_ret
 exact ⟨by first|rfl|(simp [errW_none,errW_some]<;>rfl)|(simp [*,errW_none,errW_some]<;>rfl),by repeat (first|(with_reducible first|exact HB.out|apply below_alloc|apply pw_below_drewN|apply below_drew1|refine below_set ?_ GE151.out)|exact HB.out)⟩


end Go.Proofs.YtdfjjimmnbijmaaGreatDoor.ZQ

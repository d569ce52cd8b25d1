-- Written for this claim by myprint.py over the kit's print (functions of this session supplied)
import Derived.Test.YtdfjjimmnbijmaaGreatDoorZQ0
import Derived.Test.YtdfjjimmnbijmaaGreatDoorZQ1
import Derived.Test.YtdfjjimmnbijmaaGreatDoorZQ3
import Derived.Test.YtdfjjimmnbijmaaGreatDoorZQ4
import Derived.Test.YtdfjjimmnbijmaaGreatDoorZQ5
import Derived.Test.YtdfjjimmnbijmaaGreatDoorZQ13
namespace Go.Proofs.YtdfjjimmnbijmaaGreatDoor.ZQ
open Go.RowKit Go.Proofs.YtdfjjimmnbijmaaGreatDoorW.PrintWords Go.Proofs.YtdfjjimmnbijmaaGreatDoorW.PrintLast Go.Proofs.YtdfjjimmnbijmaaGreatDoorW.PrintMore Go.Proofs.YtdfjjimmnbijmaaGreatDoor.Base
attribute [local go_sem] max2_int min2_int max_two min_two max_three min_three max_four min_four   -- for this text's walks alone
set_option linter.unusedVariables false
set_option linter.unusedSimpArgs false

/-! ### doorwardref17_Text: function 14 -/
/-! ### texts, one behind the other -/
theorem jt_ext {a b:ByteArray} (h:a.data.toList=b.data.toList):a=b:=by
 apply ByteArray.ext;apply Array.ext';exact h
def tailT (by_:ByteArray) (xs:List ByteArray):ByteArray:=⟨(Lib.joinTail by_.data.toList (xs.map (·.data.toList))).toArray⟩
theorem tailT_nil (b:ByteArray):tailT b []=⟨#[]⟩:=rfl
theorem tailT_cons (b x:ByteArray) (r:List ByteArray):tailT b (x :: r)=b++x++tailT b r:=by
 apply jt_ext;simp [tailT,Lib.joinTail]
theorem joinT_cons (b x:ByteArray) (r:List ByteArray):joinT b (x :: r)=x++tailT b r:=by
 apply jt_ext;simp [joinT,tailT,Lib.join_cons]
theorem app_assoc (a b c:ByteArray):a++b++c=a++(b++c):=by apply jt_ext;simp
theorem app_nil (a:ByteArray):a++(⟨#[]⟩:ByteArray)=a:=by apply jt_ext;simp
theorem nil_app (a:ByteArray):(⟨#[]⟩:ByteArray)++a=a:=by apply jt_ext;simp
theorem sz_app (a b:ByteArray):(a++b).size=a.size+b.size:=ByteArray.size_append
theorem tailT_size (b:ByteArray):∀ xs:List ByteArray,(tailT b xs).size=b.size * xs.length+sumZ xs
 |  [] => rfl
 |  x :: r => by rw [tailT_cons,sz_app,sz_app,tailT_size b r,sumZ_cons,List.length_cons,Nat.mul_succ];omega
/-! ### the reference's text of a condition -/
theorem closed_f (a:Int) (c:CN):doorwardref17_closed.f a c.f0 c.f1 c.f2 c.f3 c.f4 c.f5=some (decide (c.f0=2 ∨ (c.f0=1∧a ≠ 2))):=by
 unfold doorwardref17_closed.f
 by_cases h2:c.f0=2
 ·rw [if_pos h2,decide_eq_true (Or.inl h2)]
 ·rw [if_neg h2]
  by_cases h1:c.f0=1
  ·rw [if_pos h1]
   by_cases ha:a=2
   ·rw [decide_eq_false (fun h => by rcases h with h|h;exact h2 h;exact h.2 ha)];simp [ha]
   ·rw [decide_eq_true (Or.inr ⟨h1,ha⟩)];simp [ha]
  ·rw [if_neg h1,decide_eq_false (fun h => by rcases h with h|h;exact h2 h;exact h1 h.1)]
def kidT (a:Int) (c:CN):ByteArray:=if c.f0=2 ∨ (c.f0=1∧a ≠ 2) then ⟨#[40]⟩++writeC c++⟨#[41]⟩ else writeC c
theorem kidT_fact {a:Int} (h:a ≠ 2) (c:CN):kidT a c=factC c:=by
 unfold kidT factC
 by_cases h2:c.f0=2
 ·rw [if_pos (Or.inl h2),if_pos (Or.inr h2)]
 ·by_cases h1:c.f0=1
  ·rw [if_pos (Or.inr ⟨h1,h⟩),if_pos (Or.inl h1)]
  ·rw [if_neg (by omega),if_neg (by omega)]
theorem kidT_or (c:CN):kidT 2 c=orC c:=by
 unfold kidT orC factC
 by_cases h1:c.f0=1
 ·rw [if_neg (by omega),if_pos h1]
 ·by_cases h2:c.f0=2
  ·rw [if_pos (Or.inl h2),if_neg h1,if_pos (Or.inr h2)]
  ·rw [if_neg (by omega),if_neg h1,if_neg (by omega)]
theorem kidT_size (a:Int) (c:CN):(kidT a c).size≤(writeC c).size+2:=by
 unfold kidT
 split
 ·rw [sz_app,sz_app]
  have e1:(⟨#[40]⟩:ByteArray).size=1:=rfl
  have e2:(⟨#[41]⟩:ByteArray).size=1:=rfl
  omega
 ·omega
/-- What the reference's loop puts behind what is there: a kid of a condition of this kind, at a place. -/
def stepT (a:Int) (i:Nat) (x:ByteArray) (c:CN):ByteArray :=
 (if a=3 then ⟨#[110,111,116,32]⟩ else if 0<i∧a=1 then x++⟨#[32,97,110,100,32]⟩ else if 0<i∧a=2 then x++⟨#[32,111,114,32]⟩ else x)++kidT a c
def foldT (a:Int):Nat→ByteArray→List CN→ByteArray
 |  _,x,[] => x
 |  i,x,c :: r => foldT a (i+1) (stepT a i x c) r
theorem foldT_and:∀ (l:List CN) (i:Nat) (x:ByteArray),0<i→foldT 1 i x l=x++tailT ⟨#[32,97,110,100,32]⟩ (l.map factC)
 |  [],i,x,_ => by rw [foldT,List.map_nil,tailT_nil,app_nil]
 |  c :: r,i,x,h => by
  rw [foldT,foldT_and r (i+1) _ (by omega),List.map_cons,tailT_cons]
  unfold stepT
  rw [if_neg (by omega),if_pos ⟨h,rfl⟩,kidT_fact (by omega)]
  apply jt_ext;simp
theorem foldT_or:∀ (l:List CN) (i:Nat) (x:ByteArray),0<i→foldT 2 i x l=x++tailT ⟨#[32,111,114,32]⟩ (l.map orC)
 |  [],i,x,_ => by rw [foldT,List.map_nil,tailT_nil,app_nil]
 |  c :: r,i,x,h => by
  rw [foldT,foldT_or r (i+1) _ (by omega),List.map_cons,tailT_cons]
  unfold stepT
  rw [if_neg (by omega),if_neg (by omega),if_pos ⟨h,rfl⟩,kidT_or]
  apply jt_ext;simp
theorem number17_f (d:Int) (h0:0≤d) (h1:d<18446744073709551616):doorwardref17_number.f d=some (numT d):=by
 unfold doorwardref17_number.f strconv_FormatUint.f
 rw [if_pos ⟨⟨h0,h1⟩,Or.inl rfl⟩]
 rfl
theorem stepT_size (a:Int) (i:Nat) (x:ByteArray) (c:CN) (ha:a ≠ 3 ∨ i=0):(stepT a i x c).size≤x.size+(writeC c).size+11:=by
 have h:=kidT_size a c
 have e1:(⟨#[110,111,116,32]⟩:ByteArray).size=4:=rfl
 have e2:(⟨#[32,97,110,100,32]⟩:ByteArray).size=5:=rfl
 have e3:(⟨#[32,111,114,32]⟩:ByteArray).size=4:=rfl
 unfold stepT
 rw [sz_app]
 split
 ·omega
 ·split
  ·rw [sz_app];omega
  ·split
   ·rw [sz_app];omega
   ·omega
theorem closed_any (a:Int) (x:CN) (A1:Option Addr) (c1:Nat) (w:World) (hC:Kd.C k28 w A1 x.f1.length x.f1) (hc:x.f1.length≤c1) (hLd:LaidAt w) :
  Calls Tryz.prog 27 #[.int .i64 a,.agg #[.int .i64 x.f0,.slice A1 x.f1.length c1,.int .i64 x.f2,.int .u64 x.f3,.string x.f4,.int .u64 x.f5]] w fun e w' => e=.returned (.bool (decide (x.f0=2 ∨ (x.f0=1∧a ≠ 2))))∧Below w.heap.size w w' :=
 doorwardref17_closed.calls a x.f0 A1 c1 x.f1 x.f2 x.f3 x.f4 x.f5 _ w hC hc hLd (closed_f a x)
theorem number17_any (n:Int) (h0:0≤n) (h1:n<18446744073709551616) (w:World) (hLd:LaidAt w) :
  Calls Tryz.prog 26 #[.int .u64 n] w fun e w' => e=.returned (.string (numT n))∧Below w.heap.size w w' :=
 doorwardref17_number.calls n _ w hLd (number17_f n h0 h1)
set_option maxHeartbeats 3200000 in
set_option maxRecDepth 100000 in
theorem text_test (c:CN) (kv:Value) (w:World) (hLd:LaidAt w) (h:c.f0=4) (hr:rngB c) (h7:c.f4.size≤1000) :
  Calls Tryz.prog 14 #[.agg #[.int .i64 c.f0,kv,.int .i64 c.f2,.int .u64 c.f3,.string c.f4,.int .u64 c.f5]] w fun e w' => e=.returned (.string (writeC c))∧Below w.heap.size w w':=by
 obtain ⟨h0,h1,h3,h4,h5,h6⟩:=hr
 have HLD:=Aside0.mk hLd
 have HI:=Aside0.mk (fun w h => itoa_any c.f2 h0 h1 w h)
 have HN3:=Aside0.mk (fun w h => number17_any c.f3 h3 h4 w h)
 have HN5:=Aside0.mk (fun w h => number17_any c.f5 h5 h6 w h)
 have hb0:Below w.heap.size w (w.alloc ( .cells #[.int .i64 c.f0,kv,.int .i64 c.f2,.int .u64 c.f3,.string c.f4,.int .u64 c.f5] 28)):=(Below.refl _ _).alloc (Nat.le_refl _) _
 have HB0:=Aside0.mk hb0
 have c4:(c.f0==4)=true:=by simpa using h
 have HIL:=Aside0.mk (Lib.itoa_length_le c.f2 h0 h1)
 have HS3:=Aside0.mk (numT_size c.f3 h4)
 have HS5:=Aside0.mk (numT_size c.f5 h6)
 have H7:=Aside0.mk h7
 have hR:=writeC_test h
 obtain ⟨R,eR⟩:∃ R,R=writeC c:=⟨_,rfl⟩
 rw [← eR] at hR ⊢
 have HR:=Aside0.mk hR
 have H4:=Aside0.mk h
 clear h hR eR
 clear hLd h0 h1 h3 h4 h5 h6 h7 hb0
 go_enter Tryz.func14,Tryz.ntmps14
 go_wp2_with fail
 go_at_call 25
 refine (HI.out _ (LaidAt.of HLD.out HB0.out)).mono ?_
 rintro e w1 ⟨rfl,hb1⟩
 have HK1:=Aside0.mk (blk_below (blk_new w ( .cells #[.int .i64 c.f0,kv,.int .i64 c.f2,.int .u64 c.f3,.string c.f4,.int .u64 c.f5] 28)) hb1)
 have HB1:=Aside0.mk (HB0.out.trans (hb1.mono HB0.out.size))
 clear hb1
 have k3:w1.cell? ⟨w.heap.size,3,none⟩=some (.int .u64 c.f3):=blk_cell HK1.out 3
 have hit:=HIL.out
 have z0:(9223372036854775807<3+(Lib.itoa c.f2).length)=False:=eq_false (by omega)
 have z3:(9223372036854775807<3+(Lib.itoa c.f2).length+3)=False:=eq_false (by omega)
 have z33:(9223372036854775807<3+(Lib.itoa c.f2).length+3+(numT c.f3).size)=False:=eq_false (by have:=HS3.out;omega)
 have HIT:=Aside0.mk hit
 clear hit
 have eT:(⟨#[97,114,103]⟩:ByteArray)++⟨(Lib.itoa c.f2).toArray⟩=argT c.f2:=rfl
 have hsA:(argT c.f2).size≤24:=by rw [← eT,ByteArray.size_append];have e5:(⟨#[97,114,103]⟩:ByteArray).size=3:=rfl;have e6:(⟨(Lib.itoa c.f2).toArray⟩:ByteArray).size=(Lib.itoa c.f2).length:=by { rw [Lib.size_eq] };have:=HIT.out;omega
 have HSA:=Aside0.mk hsA
 have ET:=Aside0.mk eT
 clear hsA eT
 cases hm:(c.f3 != 18446744073709551615) with
 |  true =>
  have HM:=Aside0.mk (show ¬ c.f3=18446744073709551615 by intro e;rw [e] at hm;simp at hm)
  go_wp2_with fail
  go_at_call 26
  refine (HN3.out _ (LaidAt.of HLD.out HB1.out)).mono ?_
  rintro e w2 ⟨rfl,hb2⟩
  have HK2:=Aside0.mk (blk_below HK1.out hb2)
  have HB2:=Aside0.mk (HB1.out.trans (hb2.mono HB1.out.size))
  rw [if_neg HM.out] at HR
  clear hb2 k3 hm HM
  go_upto_region 5 with (fail)
  clear z0 z3 z33
  obtain ⟨X,eX⟩:∃ X,X=(⟨#[97,114,103]⟩:ByteArray)++⟨(Lib.itoa c.f2).toArray⟩++⟨#[32,38,32]⟩++numT c.f3:=⟨_,rfl⟩
  rw [← eX]
  have hXs:X.size≤1000:=by rw [eX,ET.out,ByteArray.size_append,ByteArray.size_append];have e3:(⟨#[32,38,32]⟩:ByteArray).size=3:=rfl;have:=HSA.out;have:=HS3.out;omega
  have HR:=Aside0.mk (show R=X++⟨#[32]⟩++c.f4++⟨#[32]⟩++numT c.f5 by rw [HR.out,eX,ET.out,joinT_cons,tailT_cons,tailT_cons,tailT_nil,joinT_cons,tailT_cons,tailT_nil];apply jt_ext;simp)
  clear eX
  have hdr:Below w2.heap.size w2 w2.drew:=(Below.refl _ _).drew
  have HZd:=Aside0.mk (blk_below HK2.out hdr)
  have HBd:=Aside0.mk (HB2.out.trans (hdr.mono HB2.out.size))
  have f4:w2.drew.cell? ⟨w.heap.size,4,none⟩=some (.string c.f4):=(blk_cell HZd.out 4).trans rfl
  have f5:w2.drew.cell? ⟨w.heap.size,5,none⟩=some (.int .u64 c.f5):=(blk_cell HZd.out 5).trans rfl
  obtain ⟨N5,eN5⟩:∃ N5,N5=numT c.f5:=⟨_,rfl⟩
  rw [← eN5] at HN5 HR HS5
  have hs4:=H7.out
  have hs5:=HS5.out
  have t1:(9223372036854775807<X.size+1)=False:=eq_false (by omega)
  have t2:(9223372036854775807<X.size+1+c.f4.size)=False:=eq_false (by omega)
  have t3:(9223372036854775807<X.size+1+c.f4.size+1)=False:=eq_false (by omega)
  have t4:(9223372036854775807<X.size+1+c.f4.size+1+N5.size)=False:=eq_false (by omega)
  clear hdr eN5 hs4 hs5 hXs
  refine start_ (n:=11) (S:=fun w' => w'.cell? ⟨w.heap.size,4,none⟩=some (.string c.f4)∧w'.cell? ⟨w.heap.size,5,none⟩=some (.int .u64 c.f5)) (ds:=[]) #[false,false,false,false,false,false,false,false,false,false,false] (by kernel_rfl) rfl rfl ⟨f4,f5⟩ (fun hHeld => ?_)
  refine pure_ (i:=0) (N:=some 23) (v:=?_) (a':=?_) #[true,false,false,false,false,false,false,false,false,false,false] rfl rfl (by kernel_rfl) (fun _ _ _ h => h) (Or.inl ⟨by rfl,?_⟩) ?_ ?_
  rotate_left
  ·intro w'
   go_simp
   with_reducible rfl
  rotate_left
  ·simp only [Act.put,List.setIfInBounds_toArray,List.set_cons_zero,List.set_cons_succ,i64_w,i32_w]
   rfl
  refine pure_ (i:=1) (N:=some 24) (v:=?_) (a':=?_) #[true,true,false,false,false,false,false,false,false,false,false] rfl rfl (by kernel_rfl) (fun _ _ _ h => h) (Or.inl ⟨by rfl,?_⟩) ?_ ?_
  rotate_left
  ·intro w'
   go_simp
   with_reducible rfl
  rotate_left
  ·simp only [Act.put,List.setIfInBounds_toArray,List.set_cons_zero,List.set_cons_succ,i64_w,i32_w]
   rfl
  refine pure_ (i:=2) (N:=some 25) (v:=?_) (a':=?_) #[true,true,true,false,false,false,false,false,false,false,false] rfl rfl (by kernel_rfl) (fun _ _ _ h => h) (Or.inl ⟨by rfl,?_⟩) ?_ ?_
  rotate_left
  ·intro w'
   go_simp
   with_reducible rfl
  rotate_left
  ·simp only [Act.put,List.setIfInBounds_toArray,List.set_cons_zero,List.set_cons_succ,i64_w,i32_w]
   rfl
  refine pure_ (i:=6) (N:=some 29) (v:=?_) (a':=?_) #[true,true,true,false,false,false,true,false,false,false,false] rfl rfl (by kernel_rfl) (fun _ _ _ h => h) (Or.inl ⟨by rfl,?_⟩) ?_ ?_
  rotate_left
  ·intro w'
   go_simp
   with_reducible rfl
  rotate_left
  ·simp only [Act.put,List.setIfInBounds_toArray,List.set_cons_zero,List.set_cons_succ,i64_w,i32_w]
   rfl
  refine take_ (i:=3) (N:=some 26) (v:=?_) (a':=?_) #[true,true,true,true,false,false,true,false,false,false,false] rfl rfl (by kernel_rfl) (fun _ _ _ h => h) (Or.inl ⟨by rfl,?_⟩) hHeld ?_ ?_
  rotate_left
  ·rintro w' ⟨s0,s1⟩
   go_simp
   with_reducible rfl
  rotate_left
  ·simp only [Act.put,List.setIfInBounds_toArray,List.set_cons_zero,List.set_cons_succ,i64_w,i32_w]
   rfl
  refine pure_ (i:=4) (N:=some 27) (v:=?_) (a':=?_) #[true,true,true,true,true,false,true,false,false,false,false] rfl rfl (by kernel_rfl) (fun _ _ _ h => h) (Or.inl ⟨by rfl,?_⟩) ?_ ?_
  rotate_left
  ·intro w'
   go_simp
   with_reducible rfl
  rotate_left
  ·simp only [Act.put,List.setIfInBounds_toArray,List.set_cons_zero,List.set_cons_succ,i64_w,i32_w]
   rfl
  refine pure_ (i:=5) (N:=some 28) (v:=?_) (a':=?_) #[true,true,true,true,true,true,true,false,false,false,false] rfl rfl (by kernel_rfl) (fun _ _ _ h => h) (Or.inl ⟨by rfl,?_⟩) ?_ ?_
  rotate_left
  ·intro w'
   go_simp
   with_reducible rfl
  rotate_left
  ·simp only [Act.put,List.setIfInBounds_toArray,List.set_cons_zero,List.set_cons_succ,i64_w,i32_w]
   rfl
  refine take_ (i:=7) (N:=some 30) (v:=?_) (a':=?_) #[true,true,true,true,true,true,true,true,false,false,false] rfl rfl (by kernel_rfl) (fun _ _ _ h => h) (Or.inl ⟨by rfl,?_⟩) hHeld ?_ ?_
  rotate_left
  ·rintro w' ⟨s0,s1⟩
   go_simp
   with_reducible rfl
  rotate_left
  ·simp only [Act.put,List.setIfInBounds_toArray,List.set_cons_zero,List.set_cons_succ,i64_w,i32_w]
   rfl
  refine one_ (i:=8) (N:=some 31) #[true,true,true,true,true,true,true,true,true,false,false] rfl rfl (by kernel_rfl) (by decide) (fun K hK => ?_)
  refine goes_ Tryz.func26 (by kernel_rfl) rfl #[.int .u64 c.f5] (by rfl) rfl rfl (by simp only [List.map_toArray,List.map_cons,List.map_nil];rfl) ?_
  with_reducible refine (HN5.out _ (LaidAt.of HLD.out HBd.out)).mono ?_
  rintro e w8 ⟨rfl,hb8⟩
  refine ⟨_,rfl,?_⟩
  have HB8:=Aside0.mk (HBd.out.trans (hb8.mono HBd.out.size))
  have HZ8:=Aside0.mk (blk_below HZd.out hb8)
  clear hb8
  refine hK.out _ _ ⟨((blk_cell HZ8.out 4).trans rfl),((blk_cell HZ8.out 5).trans rfl)⟩ (fun hHeld => ?_)
  clear hK K
  refine norm_ (a':=?_) ?_ ?_
  rotate_left
  ·show Act.put _ (some 31) _=_
   simp only [Act.put,List.setIfInBounds_toArray,List.set_cons_zero,List.set_cons_succ,i64_w,i32_w]
   rfl
  refine pure_ (i:=9) (N:=some 32) (v:=?_) (a':=?_) #[true,true,true,true,true,true,true,true,true,true,false] rfl rfl (by kernel_rfl) (fun _ _ _ h => h) (Or.inl ⟨by rfl,?_⟩) ?_ ?_
  rotate_left
  ·intro w'
   go_simp
   with_reducible rfl
  rotate_left
  ·simp only [Act.put,List.setIfInBounds_toArray,List.set_cons_zero,List.set_cons_succ,i64_w,i32_w]
   rfl
  refine pure_ (i:=10) (N:=some 2) (v:=?_) (a':=?_) #[true,true,true,true,true,true,true,true,true,true,true] rfl rfl (by kernel_rfl) (fun _ _ _ h => h) (Or.inl ⟨by rfl,?_⟩) ?_ ?_
  rotate_left
  ·intro w'
   go_simp
   with_reducible rfl
  rotate_left
  ·simp only [Act.put,List.setIfInBounds_toArray,List.set_cons_zero,List.set_cons_succ,i64_w,i32_w]
   rfl
  refine done_ (by kernel_rfl) ?_
  clear hHeld
  go_wp2_with fail
  all_goals go_ret
  exact ⟨congrArg (fun x => Ending.returned (.string x)) HR.out.symm,HB8.out⟩
 |  false =>
  have HM:=Aside0.mk (show c.f3=18446744073709551615 by simpa using hm)
  rw [if_pos HM.out] at HR
  have HMB:=Aside0.mk hm
  clear HM
  go_upto_region 5 with (fail)
  clear z0 z3 z33 k3 hm
  obtain ⟨X,eX⟩:∃ X,X=(⟨#[97,114,103]⟩:ByteArray)++⟨(Lib.itoa c.f2).toArray⟩:=⟨_,rfl⟩
  rw [← eX]
  have hXs:X.size≤1000:=by rw [eX,ET.out];have:=HSA.out;omega
  have HR:=Aside0.mk (show R=X++⟨#[32]⟩++c.f4++⟨#[32]⟩++numT c.f5 by rw [HR.out,eX,ET.out,joinT_cons,tailT_cons,tailT_cons,tailT_nil];apply jt_ext;simp)
  clear eX
  have hdr:Below w1.heap.size w1 w1.drew:=(Below.refl _ _).drew
  have HZd:=Aside0.mk (blk_below HK1.out hdr)
  have HBd:=Aside0.mk (HB1.out.trans (hdr.mono HB1.out.size))
  have f4:w1.drew.cell? ⟨w.heap.size,4,none⟩=some (.string c.f4):=(blk_cell HZd.out 4).trans rfl
  have f5:w1.drew.cell? ⟨w.heap.size,5,none⟩=some (.int .u64 c.f5):=(blk_cell HZd.out 5).trans rfl
  obtain ⟨N5,eN5⟩:∃ N5,N5=numT c.f5:=⟨_,rfl⟩
  rw [← eN5] at HN5 HR HS5
  have hs4:=H7.out
  have hs5:=HS5.out
  have t1:(9223372036854775807<X.size+1)=False:=eq_false (by omega)
  have t2:(9223372036854775807<X.size+1+c.f4.size)=False:=eq_false (by omega)
  have t3:(9223372036854775807<X.size+1+c.f4.size+1)=False:=eq_false (by omega)
  have t4:(9223372036854775807<X.size+1+c.f4.size+1+N5.size)=False:=eq_false (by omega)
  clear hdr eN5 hs4 hs5 hXs
  refine start_ (n:=11) (S:=fun w' => w'.cell? ⟨w.heap.size,4,none⟩=some (.string c.f4)∧w'.cell? ⟨w.heap.size,5,none⟩=some (.int .u64 c.f5)) (ds:=[]) #[false,false,false,false,false,false,false,false,false,false,false] (by kernel_rfl) rfl rfl ⟨f4,f5⟩ (fun hHeld => ?_)
  refine pure_ (i:=0) (N:=some 23) (v:=?_) (a':=?_) #[true,false,false,false,false,false,false,false,false,false,false] rfl rfl (by kernel_rfl) (fun _ _ _ h => h) (Or.inl ⟨by rfl,?_⟩) ?_ ?_
  rotate_left
  ·intro w'
   go_simp
   with_reducible rfl
  rotate_left
  ·simp only [Act.put,List.setIfInBounds_toArray,List.set_cons_zero,List.set_cons_succ,i64_w,i32_w]
   rfl
  refine pure_ (i:=1) (N:=some 24) (v:=?_) (a':=?_) #[true,true,false,false,false,false,false,false,false,false,false] rfl rfl (by kernel_rfl) (fun _ _ _ h => h) (Or.inl ⟨by rfl,?_⟩) ?_ ?_
  rotate_left
  ·intro w'
   go_simp
   with_reducible rfl
  rotate_left
  ·simp only [Act.put,List.setIfInBounds_toArray,List.set_cons_zero,List.set_cons_succ,i64_w,i32_w]
   rfl
  refine pure_ (i:=2) (N:=some 25) (v:=?_) (a':=?_) #[true,true,true,false,false,false,false,false,false,false,false] rfl rfl (by kernel_rfl) (fun _ _ _ h => h) (Or.inl ⟨by rfl,?_⟩) ?_ ?_
  rotate_left
  ·intro w'
   go_simp
   with_reducible rfl
  rotate_left
  ·simp only [Act.put,List.setIfInBounds_toArray,List.set_cons_zero,List.set_cons_succ,i64_w,i32_w]
   rfl
  refine pure_ (i:=6) (N:=some 29) (v:=?_) (a':=?_) #[true,true,true,false,false,false,true,false,false,false,false] rfl rfl (by kernel_rfl) (fun _ _ _ h => h) (Or.inl ⟨by rfl,?_⟩) ?_ ?_
  rotate_left
  ·intro w'
   go_simp
   with_reducible rfl
  rotate_left
  ·simp only [Act.put,List.setIfInBounds_toArray,List.set_cons_zero,List.set_cons_succ,i64_w,i32_w]
   rfl
  refine take_ (i:=3) (N:=some 26) (v:=?_) (a':=?_) #[true,true,true,true,false,false,true,false,false,false,false] rfl rfl (by kernel_rfl) (fun _ _ _ h => h) (Or.inl ⟨by rfl,?_⟩) hHeld ?_ ?_
  rotate_left
  ·rintro w' ⟨s0,s1⟩
   go_simp
   with_reducible rfl
  rotate_left
  ·simp only [Act.put,List.setIfInBounds_toArray,List.set_cons_zero,List.set_cons_succ,i64_w,i32_w]
   rfl
  refine pure_ (i:=4) (N:=some 27) (v:=?_) (a':=?_) #[true,true,true,true,true,false,true,false,false,false,false] rfl rfl (by kernel_rfl) (fun _ _ _ h => h) (Or.inl ⟨by rfl,?_⟩) ?_ ?_
  rotate_left
  ·intro w'
   go_simp
   with_reducible rfl
  rotate_left
  ·simp only [Act.put,List.setIfInBounds_toArray,List.set_cons_zero,List.set_cons_succ,i64_w,i32_w]
   rfl
  refine pure_ (i:=5) (N:=some 28) (v:=?_) (a':=?_) #[true,true,true,true,true,true,true,false,false,false,false] rfl rfl (by kernel_rfl) (fun _ _ _ h => h) (Or.inl ⟨by rfl,?_⟩) ?_ ?_
  rotate_left
  ·intro w'
   go_simp
   with_reducible rfl
  rotate_left
  ·simp only [Act.put,List.setIfInBounds_toArray,List.set_cons_zero,List.set_cons_succ,i64_w,i32_w]
   rfl
  refine take_ (i:=7) (N:=some 30) (v:=?_) (a':=?_) #[true,true,true,true,true,true,true,true,false,false,false] rfl rfl (by kernel_rfl) (fun _ _ _ h => h) (Or.inl ⟨by rfl,?_⟩) hHeld ?_ ?_
  rotate_left
  ·rintro w' ⟨s0,s1⟩
   go_simp
   with_reducible rfl
  rotate_left
  ·simp only [Act.put,List.setIfInBounds_toArray,List.set_cons_zero,List.set_cons_succ,i64_w,i32_w]
   rfl
  refine one_ (i:=8) (N:=some 31) #[true,true,true,true,true,true,true,true,true,false,false] rfl rfl (by kernel_rfl) (by decide) (fun K hK => ?_)
  refine goes_ Tryz.func26 (by kernel_rfl) rfl #[.int .u64 c.f5] (by rfl) rfl rfl (by simp only [List.map_toArray,List.map_cons,List.map_nil];rfl) ?_
  with_reducible refine (HN5.out _ (LaidAt.of HLD.out HBd.out)).mono ?_
  rintro e w8 ⟨rfl,hb8⟩
  refine ⟨_,rfl,?_⟩
  have HB8:=Aside0.mk (HBd.out.trans (hb8.mono HBd.out.size))
  have HZ8:=Aside0.mk (blk_below HZd.out hb8)
  clear hb8
  refine hK.out _ _ ⟨((blk_cell HZ8.out 4).trans rfl),((blk_cell HZ8.out 5).trans rfl)⟩ (fun hHeld => ?_)
  clear hK K
  refine norm_ (a':=?_) ?_ ?_
  rotate_left
  ·show Act.put _ (some 31) _=_
   simp only [Act.put,List.setIfInBounds_toArray,List.set_cons_zero,List.set_cons_succ,i64_w,i32_w]
   rfl
  refine pure_ (i:=9) (N:=some 32) (v:=?_) (a':=?_) #[true,true,true,true,true,true,true,true,true,true,false] rfl rfl (by kernel_rfl) (fun _ _ _ h => h) (Or.inl ⟨by rfl,?_⟩) ?_ ?_
  rotate_left
  ·intro w'
   go_simp
   with_reducible rfl
  rotate_left
  ·simp only [Act.put,List.setIfInBounds_toArray,List.set_cons_zero,List.set_cons_succ,i64_w,i32_w]
   rfl
  refine pure_ (i:=10) (N:=some 2) (v:=?_) (a':=?_) #[true,true,true,true,true,true,true,true,true,true,true] rfl rfl (by kernel_rfl) (fun _ _ _ h => h) (Or.inl ⟨by rfl,?_⟩) ?_ ?_
  rotate_left
  ·intro w'
   go_simp
   with_reducible rfl
  rotate_left
  ·simp only [Act.put,List.setIfInBounds_toArray,List.set_cons_zero,List.set_cons_succ,i64_w,i32_w]
   rfl
  refine done_ (by kernel_rfl) ?_
  clear hHeld
  go_wp2_with fail
  all_goals go_ret
  exact ⟨congrArg (fun x => Ending.returned (.string x)) HR.out.symm,HB8.out⟩
set_option maxHeartbeats 6400000 in
set_option maxRecDepth 100000 in
theorem text_k1 (c:CN) (A:Option Addr) (cap:Nat) (w:World) (hLd:LaidAt w) (hkd:c.f0=1) (hl1:c.f1.length≤1000000) (hC:Kd.C k28 w A c.f1.length c.f1)
  (hF:∀ k ∈ c.f1,∀ A1 c1 w1,Below w.heap.size w w1→k28.C w1 A1 k.f1.length k.f1→k.f1.length≤c1→Calls Tryz.prog 14 #[.agg #[.int .i64 k.f0,.slice A1 k.f1.length c1,.int .i64 k.f2,.int .u64 k.f3,.string k.f4,.int .u64 k.f5]] w1 fun e w' => e=.returned (.string (writeC k))∧Below w1.heap.size w1 w') (hs:∀ k ∈ c.f1,(writeC k).size≤100000000) :
  Calls Tryz.prog 14 #[.agg #[.int .i64 c.f0,.slice A c.f1.length cap,.int .i64 c.f2,.int .u64 c.f3,.string c.f4,.int .u64 c.f5]] w fun e w' => e=.returned (.string (foldT 1 0 ⟨#[]⟩ c.f1))∧Below w.heap.size w w':=by
 obtain ⟨R,hR⟩:∃ R,foldT 1 0 ⟨#[]⟩ c.f1=R:=⟨_,rfl⟩
 rw [hR]
 have hb0:Below w.heap.size w (w.alloc (.cells #[.int .i64 c.f0,.slice A c.f1.length cap,.int .i64 c.f2,.int .u64 c.f3,.string c.f4,.int .u64 c.f5] 28)):=(Below.refl _ _).alloc (Nat.le_refl _) _
 have HR:=Aside0.mk hR
 have HLD:=Aside0.mk hLd
 have HL1:=Aside0.mk hl1
 have HC:=Aside0.mk hC
 have HF:=Aside0.mk hF
 have HS:=Aside0.mk hs
 have HB0:=Aside0.mk hb0
 have HZ:=Aside0.mk (blk_new w (.cells #[.int .i64 c.f0,.slice A c.f1.length cap,.int .i64 c.f2,.int .u64 c.f3,.string c.f4,.int .u64 c.f5] 28))
 have c4:(c.f0==4)=false:=by rw [hkd];rfl
 have c1_:(c.f0==1)=true:=by rw [hkd];rfl
 have c2_:(c.f0==2)=false:=by rw [hkd];rfl
 have c3_:(c.f0==3)=false:=by rw [hkd];rfl
 have HKD:=Aside0.mk hkd
 clear hR hLd hl1 hC hF hs hb0 hkd
 go_enter Tryz.func14,Tryz.ntmps14
 go_upto_region 7 with (fail)
 obtain ⟨V,hV⟩:∃ V,V=w.alloc (.cells #[.int .i64 c.f0,.slice A c.f1.length cap,.int .i64 c.f2,.int .u64 c.f3,.string c.f4,.int .u64 c.f5] 28):=⟨_,rfl⟩
 rw [← hV] at HZ HB0 ⊢
 clear hV
 have z1:V.cell? ⟨w.heap.size,1,none⟩=some (.slice A c.f1.length cap):=blk_cell HZ.out 1
 go_wp2_with fail
 clear z1
 go_loopw [4,36] (fun v4 v36 wr =>∃(i:Nat) (s:ByteArray),v36=.int .i64 i∧v4=.string s∧Aside0 (i≤c.f1.length)∧Aside0 (s.size≤i * 200000000)∧Aside0 (foldT 1 i s (c.f1.drop i)=R)∧Aside0 (Below w.heap.size w wr)∧Aside0 (wr.heap[w.heap.size]?=some (.cells #[.int .i64 c.f0,.slice A c.f1.length cap,.int .i64 c.f2,.int .u64 c.f3,.string c.f4,.int .u64 c.f5] 28 (0,0)))) (fun _ v36 _ => c.f1.length - (intOf v36).toNat)
 case atStart => exact ⟨0,⟨#[]⟩,rfl,rfl,⟨Nat.zero_le _⟩,⟨Nat.zero_le _⟩,HR,HB0,HZ⟩
 case round =>
  obtain ⟨i,s,rfl,rfl,hi,hsz,hR,RB,RZ⟩:=hrel
  by_cases hil:i<c.f1.length
  ·have hd:decide ((i:Int)<(c.f1.length:Int))=true:=decide_eq_true (by omega)
   have hdn:(i<c.f1.length)=True:=eq_true hil
   have hi0:(0≤(i:Int))=True:=eq_true (Int.natCast_nonneg i)
   have hi1:((i:Int)<(c.f1.length:Int))=True:=eq_true (by omega)
   obtain ⟨b,o,rfl,hbw,hx⟩:=CC_open HC.out (by omega)
   obtain ⟨x,hxx⟩:∃ x,c.f1[i]?=some x:=⟨_,List.getElem?_eq_getElem hil⟩
   obtain ⟨A1,c1,q0,q1,q2,q3,q4,q5,hc1,hC1⟩:=hx i x hxx
   have x0:=pw_cell_below RB.out q0
   have x1:=pw_cell_below RB.out q1
   have x2:=pw_cell_below RB.out q2
   have x3:=pw_cell_below RB.out q3
   have x4:=pw_cell_below RB.out q4
   have x5:=pw_cell_below RB.out q5
   have HXM:=Aside0.mk (List.mem_of_getElem? hxx)
   have HST:=Aside0.mk (show foldT 1 (i+1) (stepT 1 i s x) (c.f1.drop (i+1))=R by obtain ⟨h1,h2⟩:=List.getElem?_eq_some_iff.1 hxx;have h_:=hR.out;rw [List.drop_eq_getElem_cons h1,h2,foldT] at h_;exact h_)
   have hbA:Below wr.heap.size wr (wr.alloc (.cells #[.int .i64 x.f0,.slice A1 x.f1.length c1,.int .i64 x.f2,.int .u64 x.f3,.string x.f4,.int .u64 x.f5] 28)):=(Below.refl _ _).alloc (Nat.le_refl _) _
   have HZA:=Aside0.mk (blk_new wr (.cells #[.int .i64 x.f0,.slice A1 x.f1.length c1,.int .i64 x.f2,.int .u64 x.f3,.string x.f4,.int .u64 x.f5] 28))
   have HZB:=Aside0.mk (blk_below RZ.out hbA)
   have HBW:=Aside0.mk (RB.out.trans (hbA.mono RB.out.size))
   have HCA:=Aside0.mk (Kd.C_below hC1 HBW.out)
   have HCC:=Aside0.mk hc1
   have HIL:=Aside0.mk hil
   have HWX:=Aside0.mk (HS.out x HXM.out)
   have HFX:=Aside0.mk (fun (w1:World) (hb:Below w.heap.size w w1) (hC:k28.C w1 A1 x.f1.length x.f1) => HF.out x HXM.out A1 c1 w1 hb hC HCC.out)
   obtain ⟨t,et⟩:∃ t,t=writeC x:=⟨_,rfl⟩
   rw [← et] at HWX HFX
   have ET:=Aside0.mk et
   clear q0 q1 q2 q3 q4 q5 hc1 hC1 hx hxx hil hbA hR hbw et
   go_upto_region 10 with (fail)
   clear x0 x1 x2 x3 x4 x5
   obtain ⟨U,hU⟩:∃ U,U=wr.alloc (.cells #[.int .i64 x.f0,.slice A1 x.f1.length c1,.int .i64 x.f2,.int .u64 x.f3,.string x.f4,.int .u64 x.f5] 28):=⟨_,rfl⟩
   rw [← hU] at HZA HZB HBW HCA ⊢
   clear hU
   have hk0:U.cell? ⟨w.heap.size,0,none⟩=some (.int .i64 c.f0):=blk_cell HZB.out 0
   have y0:U.cell? ⟨wr.heap.size,0,none⟩=some (.int .i64 x.f0):=blk_cell HZA.out 0
   have y1:U.cell? ⟨wr.heap.size,1,none⟩=some (.slice A1 x.f1.length c1):=blk_cell HZA.out 1
   have y2:U.cell? ⟨wr.heap.size,2,none⟩=some (.int .i64 x.f2):=blk_cell HZA.out 2
   have y3:U.cell? ⟨wr.heap.size,3,none⟩=some (.int .u64 x.f3):=blk_cell HZA.out 3
   have y4:U.cell? ⟨wr.heap.size,4,none⟩=some (.string x.f4):=blk_cell HZA.out 4
   have y5:U.cell? ⟨wr.heap.size,5,none⟩=some (.int .u64 x.f5):=blk_cell HZA.out 5
   have HCL:=Aside0.mk (closed_any c.f0 x A1 c1 U HCA.out HCC.out (LaidAt.of HLD.out HBW.out))
   by_cases hz:0<i
   ·have hg:decide ((i:Int)>0)=true:=decide_eq_true (by omega)
    have hg2:(0<i)=True:=eq_true hz
    have hg3:decide (0<(i:Int))=true:=decide_eq_true (by omega)
    have HGZ:=Aside0.mk hz
    clear hz
    have hlw:=HIL.out
    have hl1:=HL1.out
    have hs1:=hsz.out
    have hw1:=HWX.out
    have hsb:s.size≤300000000000000:=by have:i * 200000000≤1000000 * 200000000:=Nat.mul_le_mul_right _ (by omega);omega
    have t0:(9223372036854775807<s.size+5)=False:=eq_false (by omega)
    clear hs1 hlw hl1
    go_wp2_with fail
    go_at_call 27
    refine HCL.out.mono ?_
    rintro e w3 ⟨rfl,hb3⟩
    have HZ3:=Aside0.mk (blk_below HZA.out hb3)
    have HY3:=Aside0.mk (blk_below HZB.out hb3)
    have HB3:=Aside0.mk (HBW.out.trans (hb3.mono HBW.out.size))
    have HC3:=Aside0.mk (Kd.C_below HCA.out hb3)
    clear hb3 hk0 y0 y1 y2 y3 y4 y5
    have y0:w3.cell? ⟨wr.heap.size,0,none⟩=some (.int .i64 x.f0):=blk_cell HZ3.out 0
    have y1:w3.cell? ⟨wr.heap.size,1,none⟩=some (.slice A1 x.f1.length c1):=blk_cell HZ3.out 1
    have y2:w3.cell? ⟨wr.heap.size,2,none⟩=some (.int .i64 x.f2):=blk_cell HZ3.out 2
    have y3:w3.cell? ⟨wr.heap.size,3,none⟩=some (.int .u64 x.f3):=blk_cell HZ3.out 3
    have y4:w3.cell? ⟨wr.heap.size,4,none⟩=some (.string x.f4):=blk_cell HZ3.out 4
    have y5:w3.cell? ⟨wr.heap.size,5,none⟩=some (.int .u64 x.f5):=blk_cell HZ3.out 5
    by_cases hcl:x.f0=2 ∨ (x.f0=1∧c.f0 ≠ 2)
    ·have hcb:decide (x.f0=2 ∨ (x.f0=1∧c.f0 ≠ 2))=true:=decide_eq_true hcl
     have HNEW:=Aside0.mk (show stepT 1 i s x=(s++⟨#[32,97,110,100,32]⟩)++⟨#[40]⟩++t++⟨#[41]⟩ by
      have hk2:=hcl
      rw [HKD.out] at hk2
      rw [ET.out]
      unfold stepT kidT
      rw [if_neg (by decide),if_pos ⟨HGZ.out,rfl⟩,if_pos hk2]
      apply jt_ext;simp)
     rw [hcb]
     clear hcl
     have t1:(9223372036854775807<s.size+5+1)=False:=eq_false (by omega)
     have t2:(9223372036854775807<s.size+5+1+t.size)=False:=eq_false (by omega)
     have t3:(9223372036854775807<s.size+5+1+t.size+1)=False:=eq_false (by omega)
     have HSB:=Aside0.mk hsb
     clear hsb hw1
     go_wp2_with fail
     go_at_call 14
     refine (HFX.out w3 HB3.out HC3.out).mono ?_
     rintro e w4 ⟨rfl,hb4⟩
     have HY4:=Aside0.mk (blk_below HY3.out hb4)
     have HB4:=Aside0.mk (HB3.out.trans (hb4.mono HB3.out.size))
     clear hb4 y0 y1 y2 y3 y4 y5
     go_wp2_with fail
     go_roundw
     case rel =>
      refine ⟨i+1,stepT 1 i s x,by have:=HIL.out;have:=HL1.out;rw [show wrap64 ((i:Int)+1)=((i+1:Nat):Int) by unfold wrap64;omega],congrArg Value.string HNEW.out.symm,⟨HIL.out⟩,⟨?_⟩,HST,HB4,HY4⟩
      have:=stepT_size 1 i s x (Or.inl (by decide))
      rw [← ET.out] at this
      have:=HWX.out
      have:=hsz.out
      omega
     case measure =>
      have:=HIL.out
      have:=HL1.out
      rw [show wrap64 ((i:Int)+1)=((i+1:Nat):Int) by unfold wrap64;omega]
      simp only [intOf,Int.toNat_natCast]
      omega
    ·have hcb:decide (x.f0=2 ∨ (x.f0=1∧c.f0 ≠ 2))=false:=decide_eq_false hcl
     have HNEW:=Aside0.mk (show stepT 1 i s x=(s++⟨#[32,97,110,100,32]⟩)++t by
      have hk2:=hcl
      rw [HKD.out] at hk2
      rw [ET.out]
      unfold stepT kidT
      rw [if_neg (by decide),if_pos ⟨HGZ.out,rfl⟩,if_neg hk2]
      )
     rw [hcb]
     clear hcl
     have t2:(9223372036854775807<s.size+5+t.size)=False:=eq_false (by omega)
     have HSB:=Aside0.mk hsb
     clear hsb hw1
     go_wp2_with fail
     go_at_call 14
     refine (HFX.out w3 HB3.out HC3.out).mono ?_
     rintro e w4 ⟨rfl,hb4⟩
     have HY4:=Aside0.mk (blk_below HY3.out hb4)
     have HB4:=Aside0.mk (HB3.out.trans (hb4.mono HB3.out.size))
     clear hb4 y0 y1 y2 y3 y4 y5
     go_wp2_with fail
     go_roundw
     case rel =>
      refine ⟨i+1,stepT 1 i s x,by have:=HIL.out;have:=HL1.out;rw [show wrap64 ((i:Int)+1)=((i+1:Nat):Int) by unfold wrap64;omega],congrArg Value.string HNEW.out.symm,⟨HIL.out⟩,⟨?_⟩,HST,HB4,HY4⟩
      have:=stepT_size 1 i s x (Or.inl (by decide))
      rw [← ET.out] at this
      have:=HWX.out
      have:=hsz.out
      omega
     case measure =>
      have:=HIL.out
      have:=HL1.out
      rw [show wrap64 ((i:Int)+1)=((i+1:Nat):Int) by unfold wrap64;omega]
      simp only [intOf,Int.toNat_natCast]
      omega
   ·have hg:decide ((i:Int)>0)=false:=decide_eq_false (by omega)
    have hg2:(0<i)=False:=eq_false hz
    have hg3:decide (0<(i:Int))=false:=decide_eq_false (by omega)
    have HGZ:=Aside0.mk hz
    clear hz
    have hlw:=HIL.out
    have hl1:=HL1.out
    have hs1:=hsz.out
    have hw1:=HWX.out
    have hsb:s.size≤300000000000000:=by have:i * 200000000≤1000000 * 200000000:=Nat.mul_le_mul_right _ (by omega);omega
    clear hs1 hlw hl1
    go_wp2_with fail
    go_at_call 27
    refine HCL.out.mono ?_
    rintro e w3 ⟨rfl,hb3⟩
    have HZ3:=Aside0.mk (blk_below HZA.out hb3)
    have HY3:=Aside0.mk (blk_below HZB.out hb3)
    have HB3:=Aside0.mk (HBW.out.trans (hb3.mono HBW.out.size))
    have HC3:=Aside0.mk (Kd.C_below HCA.out hb3)
    clear hb3 hk0 y0 y1 y2 y3 y4 y5
    have y0:w3.cell? ⟨wr.heap.size,0,none⟩=some (.int .i64 x.f0):=blk_cell HZ3.out 0
    have y1:w3.cell? ⟨wr.heap.size,1,none⟩=some (.slice A1 x.f1.length c1):=blk_cell HZ3.out 1
    have y2:w3.cell? ⟨wr.heap.size,2,none⟩=some (.int .i64 x.f2):=blk_cell HZ3.out 2
    have y3:w3.cell? ⟨wr.heap.size,3,none⟩=some (.int .u64 x.f3):=blk_cell HZ3.out 3
    have y4:w3.cell? ⟨wr.heap.size,4,none⟩=some (.string x.f4):=blk_cell HZ3.out 4
    have y5:w3.cell? ⟨wr.heap.size,5,none⟩=some (.int .u64 x.f5):=blk_cell HZ3.out 5
    by_cases hcl:x.f0=2 ∨ (x.f0=1∧c.f0 ≠ 2)
    ·have hcb:decide (x.f0=2 ∨ (x.f0=1∧c.f0 ≠ 2))=true:=decide_eq_true hcl
     have HNEW:=Aside0.mk (show stepT 1 i s x=s++⟨#[40]⟩++t++⟨#[41]⟩ by
      have hk2:=hcl
      rw [HKD.out] at hk2
      rw [ET.out]
      unfold stepT kidT
      rw [if_neg (by decide),if_neg (fun h => HGZ.out h.1),if_neg (fun h => HGZ.out h.1),if_pos hk2]
      apply jt_ext;simp)
     rw [hcb]
     clear hcl
     have t1:(9223372036854775807<s.size+1)=False:=eq_false (by omega)
     have t2:(9223372036854775807<s.size+1+t.size)=False:=eq_false (by omega)
     have t3:(9223372036854775807<s.size+1+t.size+1)=False:=eq_false (by omega)
     have HSB:=Aside0.mk hsb
     clear hsb hw1
     go_wp2_with fail
     go_at_call 14
     refine (HFX.out w3 HB3.out HC3.out).mono ?_
     rintro e w4 ⟨rfl,hb4⟩
     have HY4:=Aside0.mk (blk_below HY3.out hb4)
     have HB4:=Aside0.mk (HB3.out.trans (hb4.mono HB3.out.size))
     clear hb4 y0 y1 y2 y3 y4 y5
     go_wp2_with fail
     go_roundw
     case rel =>
      refine ⟨i+1,stepT 1 i s x,by have:=HIL.out;have:=HL1.out;rw [show wrap64 ((i:Int)+1)=((i+1:Nat):Int) by unfold wrap64;omega],congrArg Value.string HNEW.out.symm,⟨HIL.out⟩,⟨?_⟩,HST,HB4,HY4⟩
      have:=stepT_size 1 i s x (Or.inl (by decide))
      rw [← ET.out] at this
      have:=HWX.out
      have:=hsz.out
      omega
     case measure =>
      have:=HIL.out
      have:=HL1.out
      rw [show wrap64 ((i:Int)+1)=((i+1:Nat):Int) by unfold wrap64;omega]
      simp only [intOf,Int.toNat_natCast]
      omega
    ·have hcb:decide (x.f0=2 ∨ (x.f0=1∧c.f0 ≠ 2))=false:=decide_eq_false hcl
     have HNEW:=Aside0.mk (show stepT 1 i s x=s++t by
      have hk2:=hcl
      rw [HKD.out] at hk2
      rw [ET.out]
      unfold stepT kidT
      rw [if_neg (by decide),if_neg (fun h => HGZ.out h.1),if_neg (fun h => HGZ.out h.1),if_neg hk2]
      )
     rw [hcb]
     clear hcl
     have t2:(9223372036854775807<s.size+t.size)=False:=eq_false (by omega)
     have HSB:=Aside0.mk hsb
     clear hsb hw1
     go_wp2_with fail
     go_at_call 14
     refine (HFX.out w3 HB3.out HC3.out).mono ?_
     rintro e w4 ⟨rfl,hb4⟩
     have HY4:=Aside0.mk (blk_below HY3.out hb4)
     have HB4:=Aside0.mk (HB3.out.trans (hb4.mono HB3.out.size))
     clear hb4 y0 y1 y2 y3 y4 y5
     go_wp2_with fail
     go_roundw
     case rel =>
      refine ⟨i+1,stepT 1 i s x,by have:=HIL.out;have:=HL1.out;rw [show wrap64 ((i:Int)+1)=((i+1:Nat):Int) by unfold wrap64;omega],congrArg Value.string HNEW.out.symm,⟨HIL.out⟩,⟨?_⟩,HST,HB4,HY4⟩
      have:=stepT_size 1 i s x (Or.inl (by decide))
      rw [← ET.out] at this
      have:=HWX.out
      have:=hsz.out
      omega
     case measure =>
      have:=HIL.out
      have:=HL1.out
      rw [show wrap64 ((i:Int)+1)=((i+1:Nat):Int) by unfold wrap64;omega]
      simp only [intOf,Int.toNat_natCast]
      omega
  ·have hd:decide ((i:Int)<(c.f1.length:Int))=false:=decide_eq_false (by omega)
   have hdn:(i<c.f1.length)=False:=eq_false hil
   have HS1:=Aside0.mk (show s=R by have h_:=hR.out;rw [List.drop_of_length_le (by omega)] at h_;exact h_)
   clear hil hR
   go_wp2_with fail
   all_goals go_ret
   exact ⟨congrArg (fun x => Ending.returned (.string x)) HS1.out,RB.out⟩
set_option maxHeartbeats 6400000 in
set_option maxRecDepth 100000 in
theorem text_k2 (c:CN) (A:Option Addr) (cap:Nat) (w:World) (hLd:LaidAt w) (hkd:c.f0=2) (hl1:c.f1.length≤1000000) (hC:Kd.C k28 w A c.f1.length c.f1)
  (hF:∀ k ∈ c.f1,∀ A1 c1 w1,Below w.heap.size w w1→k28.C w1 A1 k.f1.length k.f1→k.f1.length≤c1→Calls Tryz.prog 14 #[.agg #[.int .i64 k.f0,.slice A1 k.f1.length c1,.int .i64 k.f2,.int .u64 k.f3,.string k.f4,.int .u64 k.f5]] w1 fun e w' => e=.returned (.string (writeC k))∧Below w1.heap.size w1 w') (hs:∀ k ∈ c.f1,(writeC k).size≤100000000) :
  Calls Tryz.prog 14 #[.agg #[.int .i64 c.f0,.slice A c.f1.length cap,.int .i64 c.f2,.int .u64 c.f3,.string c.f4,.int .u64 c.f5]] w fun e w' => e=.returned (.string (foldT 2 0 ⟨#[]⟩ c.f1))∧Below w.heap.size w w':=by
 obtain ⟨R,hR⟩:∃ R,foldT 2 0 ⟨#[]⟩ c.f1=R:=⟨_,rfl⟩
 rw [hR]
 have hb0:Below w.heap.size w (w.alloc (.cells #[.int .i64 c.f0,.slice A c.f1.length cap,.int .i64 c.f2,.int .u64 c.f3,.string c.f4,.int .u64 c.f5] 28)):=(Below.refl _ _).alloc (Nat.le_refl _) _
 have HR:=Aside0.mk hR
 have HLD:=Aside0.mk hLd
 have HL1:=Aside0.mk hl1
 have HC:=Aside0.mk hC
 have HF:=Aside0.mk hF
 have HS:=Aside0.mk hs
 have HB0:=Aside0.mk hb0
 have HZ:=Aside0.mk (blk_new w (.cells #[.int .i64 c.f0,.slice A c.f1.length cap,.int .i64 c.f2,.int .u64 c.f3,.string c.f4,.int .u64 c.f5] 28))
 have c4:(c.f0==4)=false:=by rw [hkd];rfl
 have c1_:(c.f0==1)=false:=by rw [hkd];rfl
 have c2_:(c.f0==2)=true:=by rw [hkd];rfl
 have c3_:(c.f0==3)=false:=by rw [hkd];rfl
 have HKD:=Aside0.mk hkd
 clear hR hLd hl1 hC hF hs hb0 hkd
 go_enter Tryz.func14,Tryz.ntmps14
 go_upto_region 7 with (fail)
 obtain ⟨V,hV⟩:∃ V,V=w.alloc (.cells #[.int .i64 c.f0,.slice A c.f1.length cap,.int .i64 c.f2,.int .u64 c.f3,.string c.f4,.int .u64 c.f5] 28):=⟨_,rfl⟩
 rw [← hV] at HZ HB0 ⊢
 clear hV
 have z1:V.cell? ⟨w.heap.size,1,none⟩=some (.slice A c.f1.length cap):=blk_cell HZ.out 1
 go_wp2_with fail
 clear z1
 go_loopw [4,36] (fun v4 v36 wr =>∃(i:Nat) (s:ByteArray),v36=.int .i64 i∧v4=.string s∧Aside0 (i≤c.f1.length)∧Aside0 (s.size≤i * 200000000)∧Aside0 (foldT 2 i s (c.f1.drop i)=R)∧Aside0 (Below w.heap.size w wr)∧Aside0 (wr.heap[w.heap.size]?=some (.cells #[.int .i64 c.f0,.slice A c.f1.length cap,.int .i64 c.f2,.int .u64 c.f3,.string c.f4,.int .u64 c.f5] 28 (0,0)))) (fun _ v36 _ => c.f1.length - (intOf v36).toNat)
 case atStart => exact ⟨0,⟨#[]⟩,rfl,rfl,⟨Nat.zero_le _⟩,⟨Nat.zero_le _⟩,HR,HB0,HZ⟩
 case round =>
  obtain ⟨i,s,rfl,rfl,hi,hsz,hR,RB,RZ⟩:=hrel
  by_cases hil:i<c.f1.length
  ·have hd:decide ((i:Int)<(c.f1.length:Int))=true:=decide_eq_true (by omega)
   have hdn:(i<c.f1.length)=True:=eq_true hil
   have hi0:(0≤(i:Int))=True:=eq_true (Int.natCast_nonneg i)
   have hi1:((i:Int)<(c.f1.length:Int))=True:=eq_true (by omega)
   obtain ⟨b,o,rfl,hbw,hx⟩:=CC_open HC.out (by omega)
   obtain ⟨x,hxx⟩:∃ x,c.f1[i]?=some x:=⟨_,List.getElem?_eq_getElem hil⟩
   obtain ⟨A1,c1,q0,q1,q2,q3,q4,q5,hc1,hC1⟩:=hx i x hxx
   have x0:=pw_cell_below RB.out q0
   have x1:=pw_cell_below RB.out q1
   have x2:=pw_cell_below RB.out q2
   have x3:=pw_cell_below RB.out q3
   have x4:=pw_cell_below RB.out q4
   have x5:=pw_cell_below RB.out q5
   have HXM:=Aside0.mk (List.mem_of_getElem? hxx)
   have HST:=Aside0.mk (show foldT 2 (i+1) (stepT 2 i s x) (c.f1.drop (i+1))=R by obtain ⟨h1,h2⟩:=List.getElem?_eq_some_iff.1 hxx;have h_:=hR.out;rw [List.drop_eq_getElem_cons h1,h2,foldT] at h_;exact h_)
   have hbA:Below wr.heap.size wr (wr.alloc (.cells #[.int .i64 x.f0,.slice A1 x.f1.length c1,.int .i64 x.f2,.int .u64 x.f3,.string x.f4,.int .u64 x.f5] 28)):=(Below.refl _ _).alloc (Nat.le_refl _) _
   have HZA:=Aside0.mk (blk_new wr (.cells #[.int .i64 x.f0,.slice A1 x.f1.length c1,.int .i64 x.f2,.int .u64 x.f3,.string x.f4,.int .u64 x.f5] 28))
   have HZB:=Aside0.mk (blk_below RZ.out hbA)
   have HBW:=Aside0.mk (RB.out.trans (hbA.mono RB.out.size))
   have HCA:=Aside0.mk (Kd.C_below hC1 HBW.out)
   have HCC:=Aside0.mk hc1
   have HIL:=Aside0.mk hil
   have HWX:=Aside0.mk (HS.out x HXM.out)
   have HFX:=Aside0.mk (fun (w1:World) (hb:Below w.heap.size w w1) (hC:k28.C w1 A1 x.f1.length x.f1) => HF.out x HXM.out A1 c1 w1 hb hC HCC.out)
   obtain ⟨t,et⟩:∃ t,t=writeC x:=⟨_,rfl⟩
   rw [← et] at HWX HFX
   have ET:=Aside0.mk et
   clear q0 q1 q2 q3 q4 q5 hc1 hC1 hx hxx hil hbA hR hbw et
   go_upto_region 10 with (fail)
   clear x0 x1 x2 x3 x4 x5
   obtain ⟨U,hU⟩:∃ U,U=wr.alloc (.cells #[.int .i64 x.f0,.slice A1 x.f1.length c1,.int .i64 x.f2,.int .u64 x.f3,.string x.f4,.int .u64 x.f5] 28):=⟨_,rfl⟩
   rw [← hU] at HZA HZB HBW HCA ⊢
   clear hU
   have hk0:U.cell? ⟨w.heap.size,0,none⟩=some (.int .i64 c.f0):=blk_cell HZB.out 0
   have y0:U.cell? ⟨wr.heap.size,0,none⟩=some (.int .i64 x.f0):=blk_cell HZA.out 0
   have y1:U.cell? ⟨wr.heap.size,1,none⟩=some (.slice A1 x.f1.length c1):=blk_cell HZA.out 1
   have y2:U.cell? ⟨wr.heap.size,2,none⟩=some (.int .i64 x.f2):=blk_cell HZA.out 2
   have y3:U.cell? ⟨wr.heap.size,3,none⟩=some (.int .u64 x.f3):=blk_cell HZA.out 3
   have y4:U.cell? ⟨wr.heap.size,4,none⟩=some (.string x.f4):=blk_cell HZA.out 4
   have y5:U.cell? ⟨wr.heap.size,5,none⟩=some (.int .u64 x.f5):=blk_cell HZA.out 5
   have HCL:=Aside0.mk (closed_any c.f0 x A1 c1 U HCA.out HCC.out (LaidAt.of HLD.out HBW.out))
   by_cases hz:0<i
   ·have hg:decide ((i:Int)>0)=true:=decide_eq_true (by omega)
    have hg2:(0<i)=True:=eq_true hz
    have hg3:decide (0<(i:Int))=true:=decide_eq_true (by omega)
    have HGZ:=Aside0.mk hz
    clear hz
    have hlw:=HIL.out
    have hl1:=HL1.out
    have hs1:=hsz.out
    have hw1:=HWX.out
    have hsb:s.size≤300000000000000:=by have:i * 200000000≤1000000 * 200000000:=Nat.mul_le_mul_right _ (by omega);omega
    have t0:(9223372036854775807<s.size+4)=False:=eq_false (by omega)
    clear hs1 hlw hl1
    go_wp2_with fail
    go_at_call 27
    refine HCL.out.mono ?_
    rintro e w3 ⟨rfl,hb3⟩
    have HZ3:=Aside0.mk (blk_below HZA.out hb3)
    have HY3:=Aside0.mk (blk_below HZB.out hb3)
    have HB3:=Aside0.mk (HBW.out.trans (hb3.mono HBW.out.size))
    have HC3:=Aside0.mk (Kd.C_below HCA.out hb3)
    clear hb3 hk0 y0 y1 y2 y3 y4 y5
    have y0:w3.cell? ⟨wr.heap.size,0,none⟩=some (.int .i64 x.f0):=blk_cell HZ3.out 0
    have y1:w3.cell? ⟨wr.heap.size,1,none⟩=some (.slice A1 x.f1.length c1):=blk_cell HZ3.out 1
    have y2:w3.cell? ⟨wr.heap.size,2,none⟩=some (.int .i64 x.f2):=blk_cell HZ3.out 2
    have y3:w3.cell? ⟨wr.heap.size,3,none⟩=some (.int .u64 x.f3):=blk_cell HZ3.out 3
    have y4:w3.cell? ⟨wr.heap.size,4,none⟩=some (.string x.f4):=blk_cell HZ3.out 4
    have y5:w3.cell? ⟨wr.heap.size,5,none⟩=some (.int .u64 x.f5):=blk_cell HZ3.out 5
    by_cases hcl:x.f0=2 ∨ (x.f0=1∧c.f0 ≠ 2)
    ·have hcb:decide (x.f0=2 ∨ (x.f0=1∧c.f0 ≠ 2))=true:=decide_eq_true hcl
     have HNEW:=Aside0.mk (show stepT 2 i s x=(s++⟨#[32,111,114,32]⟩)++⟨#[40]⟩++t++⟨#[41]⟩ by
      have hk2:=hcl
      rw [HKD.out] at hk2
      rw [ET.out]
      unfold stepT kidT
      rw [if_neg (by decide),if_neg (fun h => absurd h.2 (by decide)),if_pos ⟨HGZ.out,rfl⟩,if_pos hk2]
      apply jt_ext;simp)
     rw [hcb]
     clear hcl
     have t1:(9223372036854775807<s.size+4+1)=False:=eq_false (by omega)
     have t2:(9223372036854775807<s.size+4+1+t.size)=False:=eq_false (by omega)
     have t3:(9223372036854775807<s.size+4+1+t.size+1)=False:=eq_false (by omega)
     have HSB:=Aside0.mk hsb
     clear hsb hw1
     go_wp2_with fail
     go_at_call 14
     refine (HFX.out w3 HB3.out HC3.out).mono ?_
     rintro e w4 ⟨rfl,hb4⟩
     have HY4:=Aside0.mk (blk_below HY3.out hb4)
     have HB4:=Aside0.mk (HB3.out.trans (hb4.mono HB3.out.size))
     clear hb4 y0 y1 y2 y3 y4 y5
     go_wp2_with fail
     go_roundw
     case rel =>
      refine ⟨i+1,stepT 2 i s x,by have:=HIL.out;have:=HL1.out;rw [show wrap64 ((i:Int)+1)=((i+1:Nat):Int) by unfold wrap64;omega],congrArg Value.string HNEW.out.symm,⟨HIL.out⟩,⟨?_⟩,HST,HB4,HY4⟩
      have:=stepT_size 2 i s x (Or.inl (by decide))
      rw [← ET.out] at this
      have:=HWX.out
      have:=hsz.out
      omega
     case measure =>
      have:=HIL.out
      have:=HL1.out
      rw [show wrap64 ((i:Int)+1)=((i+1:Nat):Int) by unfold wrap64;omega]
      simp only [intOf,Int.toNat_natCast]
      omega
    ·have hcb:decide (x.f0=2 ∨ (x.f0=1∧c.f0 ≠ 2))=false:=decide_eq_false hcl
     have HNEW:=Aside0.mk (show stepT 2 i s x=(s++⟨#[32,111,114,32]⟩)++t by
      have hk2:=hcl
      rw [HKD.out] at hk2
      rw [ET.out]
      unfold stepT kidT
      rw [if_neg (by decide),if_neg (fun h => absurd h.2 (by decide)),if_pos ⟨HGZ.out,rfl⟩,if_neg hk2]
      )
     rw [hcb]
     clear hcl
     have t2:(9223372036854775807<s.size+4+t.size)=False:=eq_false (by omega)
     have HSB:=Aside0.mk hsb
     clear hsb hw1
     go_wp2_with fail
     go_at_call 14
     refine (HFX.out w3 HB3.out HC3.out).mono ?_
     rintro e w4 ⟨rfl,hb4⟩
     have HY4:=Aside0.mk (blk_below HY3.out hb4)
     have HB4:=Aside0.mk (HB3.out.trans (hb4.mono HB3.out.size))
     clear hb4 y0 y1 y2 y3 y4 y5
     go_wp2_with fail
     go_roundw
     case rel =>
      refine ⟨i+1,stepT 2 i s x,by have:=HIL.out;have:=HL1.out;rw [show wrap64 ((i:Int)+1)=((i+1:Nat):Int) by unfold wrap64;omega],congrArg Value.string HNEW.out.symm,⟨HIL.out⟩,⟨?_⟩,HST,HB4,HY4⟩
      have:=stepT_size 2 i s x (Or.inl (by decide))
      rw [← ET.out] at this
      have:=HWX.out
      have:=hsz.out
      omega
     case measure =>
      have:=HIL.out
      have:=HL1.out
      rw [show wrap64 ((i:Int)+1)=((i+1:Nat):Int) by unfold wrap64;omega]
      simp only [intOf,Int.toNat_natCast]
      omega
   ·have hg:decide ((i:Int)>0)=false:=decide_eq_false (by omega)
    have hg2:(0<i)=False:=eq_false hz
    have hg3:decide (0<(i:Int))=false:=decide_eq_false (by omega)
    have HGZ:=Aside0.mk hz
    clear hz
    have hlw:=HIL.out
    have hl1:=HL1.out
    have hs1:=hsz.out
    have hw1:=HWX.out
    have hsb:s.size≤300000000000000:=by have:i * 200000000≤1000000 * 200000000:=Nat.mul_le_mul_right _ (by omega);omega
    clear hs1 hlw hl1
    go_wp2_with fail
    go_at_call 27
    refine HCL.out.mono ?_
    rintro e w3 ⟨rfl,hb3⟩
    have HZ3:=Aside0.mk (blk_below HZA.out hb3)
    have HY3:=Aside0.mk (blk_below HZB.out hb3)
    have HB3:=Aside0.mk (HBW.out.trans (hb3.mono HBW.out.size))
    have HC3:=Aside0.mk (Kd.C_below HCA.out hb3)
    clear hb3 hk0 y0 y1 y2 y3 y4 y5
    have y0:w3.cell? ⟨wr.heap.size,0,none⟩=some (.int .i64 x.f0):=blk_cell HZ3.out 0
    have y1:w3.cell? ⟨wr.heap.size,1,none⟩=some (.slice A1 x.f1.length c1):=blk_cell HZ3.out 1
    have y2:w3.cell? ⟨wr.heap.size,2,none⟩=some (.int .i64 x.f2):=blk_cell HZ3.out 2
    have y3:w3.cell? ⟨wr.heap.size,3,none⟩=some (.int .u64 x.f3):=blk_cell HZ3.out 3
    have y4:w3.cell? ⟨wr.heap.size,4,none⟩=some (.string x.f4):=blk_cell HZ3.out 4
    have y5:w3.cell? ⟨wr.heap.size,5,none⟩=some (.int .u64 x.f5):=blk_cell HZ3.out 5
    by_cases hcl:x.f0=2 ∨ (x.f0=1∧c.f0 ≠ 2)
    ·have hcb:decide (x.f0=2 ∨ (x.f0=1∧c.f0 ≠ 2))=true:=decide_eq_true hcl
     have HNEW:=Aside0.mk (show stepT 2 i s x=s++⟨#[40]⟩++t++⟨#[41]⟩ by
      have hk2:=hcl
      rw [HKD.out] at hk2
      rw [ET.out]
      unfold stepT kidT
      rw [if_neg (by decide),if_neg (fun h => HGZ.out h.1),if_neg (fun h => HGZ.out h.1),if_pos hk2]
      apply jt_ext;simp)
     rw [hcb]
     clear hcl
     have t1:(9223372036854775807<s.size+1)=False:=eq_false (by omega)
     have t2:(9223372036854775807<s.size+1+t.size)=False:=eq_false (by omega)
     have t3:(9223372036854775807<s.size+1+t.size+1)=False:=eq_false (by omega)
     have HSB:=Aside0.mk hsb
     clear hsb hw1
     go_wp2_with fail
     go_at_call 14
     refine (HFX.out w3 HB3.out HC3.out).mono ?_
     rintro e w4 ⟨rfl,hb4⟩
     have HY4:=Aside0.mk (blk_below HY3.out hb4)
     have HB4:=Aside0.mk (HB3.out.trans (hb4.mono HB3.out.size))
     clear hb4 y0 y1 y2 y3 y4 y5
     go_wp2_with fail
     go_roundw
     case rel =>
      refine ⟨i+1,stepT 2 i s x,by have:=HIL.out;have:=HL1.out;rw [show wrap64 ((i:Int)+1)=((i+1:Nat):Int) by unfold wrap64;omega],congrArg Value.string HNEW.out.symm,⟨HIL.out⟩,⟨?_⟩,HST,HB4,HY4⟩
      have:=stepT_size 2 i s x (Or.inl (by decide))
      rw [← ET.out] at this
      have:=HWX.out
      have:=hsz.out
      omega
     case measure =>
      have:=HIL.out
      have:=HL1.out
      rw [show wrap64 ((i:Int)+1)=((i+1:Nat):Int) by unfold wrap64;omega]
      simp only [intOf,Int.toNat_natCast]
      omega
    ·have hcb:decide (x.f0=2 ∨ (x.f0=1∧c.f0 ≠ 2))=false:=decide_eq_false hcl
     have HNEW:=Aside0.mk (show stepT 2 i s x=s++t by
      have hk2:=hcl
      rw [HKD.out] at hk2
      rw [ET.out]
      unfold stepT kidT
      rw [if_neg (by decide),if_neg (fun h => HGZ.out h.1),if_neg (fun h => HGZ.out h.1),if_neg hk2]
      )
     rw [hcb]
     clear hcl
     have t2:(9223372036854775807<s.size+t.size)=False:=eq_false (by omega)
     have HSB:=Aside0.mk hsb
     clear hsb hw1
     go_wp2_with fail
     go_at_call 14
     refine (HFX.out w3 HB3.out HC3.out).mono ?_
     rintro e w4 ⟨rfl,hb4⟩
     have HY4:=Aside0.mk (blk_below HY3.out hb4)
     have HB4:=Aside0.mk (HB3.out.trans (hb4.mono HB3.out.size))
     clear hb4 y0 y1 y2 y3 y4 y5
     go_wp2_with fail
     go_roundw
     case rel =>
      refine ⟨i+1,stepT 2 i s x,by have:=HIL.out;have:=HL1.out;rw [show wrap64 ((i:Int)+1)=((i+1:Nat):Int) by unfold wrap64;omega],congrArg Value.string HNEW.out.symm,⟨HIL.out⟩,⟨?_⟩,HST,HB4,HY4⟩
      have:=stepT_size 2 i s x (Or.inl (by decide))
      rw [← ET.out] at this
      have:=HWX.out
      have:=hsz.out
      omega
     case measure =>
      have:=HIL.out
      have:=HL1.out
      rw [show wrap64 ((i:Int)+1)=((i+1:Nat):Int) by unfold wrap64;omega]
      simp only [intOf,Int.toNat_natCast]
      omega
  ·have hd:decide ((i:Int)<(c.f1.length:Int))=false:=decide_eq_false (by omega)
   have hdn:(i<c.f1.length)=False:=eq_false hil
   have HS1:=Aside0.mk (show s=R by have h_:=hR.out;rw [List.drop_of_length_le (by omega)] at h_;exact h_)
   clear hil hR
   go_wp2_with fail
   all_goals go_ret
   exact ⟨congrArg (fun x => Ending.returned (.string x)) HS1.out,RB.out⟩
set_option maxHeartbeats 6400000 in
set_option maxRecDepth 100000 in
theorem text_k3 (c:CN) (A:Option Addr) (cap:Nat) (w:World) (hLd:LaidAt w) (hkd:c.f0=3) (hl1:c.f1.length≤1) (hC:Kd.C k28 w A c.f1.length c.f1)
  (hF:∀ k ∈ c.f1,∀ A1 c1 w1,Below w.heap.size w w1→k28.C w1 A1 k.f1.length k.f1→k.f1.length≤c1→Calls Tryz.prog 14 #[.agg #[.int .i64 k.f0,.slice A1 k.f1.length c1,.int .i64 k.f2,.int .u64 k.f3,.string k.f4,.int .u64 k.f5]] w1 fun e w' => e=.returned (.string (writeC k))∧Below w1.heap.size w1 w') (hs:∀ k ∈ c.f1,(writeC k).size≤100000000) :
  Calls Tryz.prog 14 #[.agg #[.int .i64 c.f0,.slice A c.f1.length cap,.int .i64 c.f2,.int .u64 c.f3,.string c.f4,.int .u64 c.f5]] w fun e w' => e=.returned (.string (foldT 3 0 ⟨#[]⟩ c.f1))∧Below w.heap.size w w':=by
 obtain ⟨R,hR⟩:∃ R,foldT 3 0 ⟨#[]⟩ c.f1=R:=⟨_,rfl⟩
 rw [hR]
 have hb0:Below w.heap.size w (w.alloc (.cells #[.int .i64 c.f0,.slice A c.f1.length cap,.int .i64 c.f2,.int .u64 c.f3,.string c.f4,.int .u64 c.f5] 28)):=(Below.refl _ _).alloc (Nat.le_refl _) _
 have HR:=Aside0.mk hR
 have HLD:=Aside0.mk hLd
 have HL1:=Aside0.mk hl1
 have HC:=Aside0.mk hC
 have HF:=Aside0.mk hF
 have HS:=Aside0.mk hs
 have HB0:=Aside0.mk hb0
 have HZ:=Aside0.mk (blk_new w (.cells #[.int .i64 c.f0,.slice A c.f1.length cap,.int .i64 c.f2,.int .u64 c.f3,.string c.f4,.int .u64 c.f5] 28))
 have c4:(c.f0==4)=false:=by rw [hkd];rfl
 have c1_:(c.f0==1)=false:=by rw [hkd];rfl
 have c2_:(c.f0==2)=false:=by rw [hkd];rfl
 have c3_:(c.f0==3)=true:=by rw [hkd];rfl
 have HKD:=Aside0.mk hkd
 clear hR hLd hl1 hC hF hs hb0 hkd
 go_enter Tryz.func14,Tryz.ntmps14
 go_upto_region 7 with (fail)
 obtain ⟨V,hV⟩:∃ V,V=w.alloc (.cells #[.int .i64 c.f0,.slice A c.f1.length cap,.int .i64 c.f2,.int .u64 c.f3,.string c.f4,.int .u64 c.f5] 28):=⟨_,rfl⟩
 rw [← hV] at HZ HB0 ⊢
 clear hV
 have z1:V.cell? ⟨w.heap.size,1,none⟩=some (.slice A c.f1.length cap):=blk_cell HZ.out 1
 go_wp2_with fail
 clear z1
 go_loopw [4,36] (fun v4 v36 wr =>∃(i:Nat) (s:ByteArray),v36=.int .i64 i∧v4=.string s∧Aside0 (i≤c.f1.length)∧Aside0 (s.size≤i * 200000000)∧Aside0 (foldT 3 i s (c.f1.drop i)=R)∧Aside0 (Below w.heap.size w wr)∧Aside0 (wr.heap[w.heap.size]?=some (.cells #[.int .i64 c.f0,.slice A c.f1.length cap,.int .i64 c.f2,.int .u64 c.f3,.string c.f4,.int .u64 c.f5] 28 (0,0)))) (fun _ v36 _ => c.f1.length - (intOf v36).toNat)
 case atStart => exact ⟨0,⟨#[]⟩,rfl,rfl,⟨Nat.zero_le _⟩,⟨Nat.zero_le _⟩,HR,HB0,HZ⟩
 case round =>
  obtain ⟨i,s,rfl,rfl,hi,hsz,hR,RB,RZ⟩:=hrel
  by_cases hil:i<c.f1.length
  ·have hd:decide ((i:Int)<(c.f1.length:Int))=true:=decide_eq_true (by omega)
   have hdn:(i<c.f1.length)=True:=eq_true hil
   have hi0:(0≤(i:Int))=True:=eq_true (Int.natCast_nonneg i)
   have hi1:((i:Int)<(c.f1.length:Int))=True:=eq_true (by omega)
   obtain ⟨b,o,rfl,hbw,hx⟩:=CC_open HC.out (by omega)
   obtain ⟨x,hxx⟩:∃ x,c.f1[i]?=some x:=⟨_,List.getElem?_eq_getElem hil⟩
   obtain ⟨A1,c1,q0,q1,q2,q3,q4,q5,hc1,hC1⟩:=hx i x hxx
   have x0:=pw_cell_below RB.out q0
   have x1:=pw_cell_below RB.out q1
   have x2:=pw_cell_below RB.out q2
   have x3:=pw_cell_below RB.out q3
   have x4:=pw_cell_below RB.out q4
   have x5:=pw_cell_below RB.out q5
   have HXM:=Aside0.mk (List.mem_of_getElem? hxx)
   have HST:=Aside0.mk (show foldT 3 (i+1) (stepT 3 i s x) (c.f1.drop (i+1))=R by obtain ⟨h1,h2⟩:=List.getElem?_eq_some_iff.1 hxx;have h_:=hR.out;rw [List.drop_eq_getElem_cons h1,h2,foldT] at h_;exact h_)
   have hbA:Below wr.heap.size wr (wr.alloc (.cells #[.int .i64 x.f0,.slice A1 x.f1.length c1,.int .i64 x.f2,.int .u64 x.f3,.string x.f4,.int .u64 x.f5] 28)):=(Below.refl _ _).alloc (Nat.le_refl _) _
   have HZA:=Aside0.mk (blk_new wr (.cells #[.int .i64 x.f0,.slice A1 x.f1.length c1,.int .i64 x.f2,.int .u64 x.f3,.string x.f4,.int .u64 x.f5] 28))
   have HZB:=Aside0.mk (blk_below RZ.out hbA)
   have HBW:=Aside0.mk (RB.out.trans (hbA.mono RB.out.size))
   have HCA:=Aside0.mk (Kd.C_below hC1 HBW.out)
   have HCC:=Aside0.mk hc1
   have HIL:=Aside0.mk hil
   have HWX:=Aside0.mk (HS.out x HXM.out)
   have HFX:=Aside0.mk (fun (w1:World) (hb:Below w.heap.size w w1) (hC:k28.C w1 A1 x.f1.length x.f1) => HF.out x HXM.out A1 c1 w1 hb hC HCC.out)
   obtain ⟨t,et⟩:∃ t,t=writeC x:=⟨_,rfl⟩
   rw [← et] at HWX HFX
   have ET:=Aside0.mk et
   clear q0 q1 q2 q3 q4 q5 hc1 hC1 hx hxx hil hbA hR hbw et
   go_upto_region 10 with (fail)
   clear x0 x1 x2 x3 x4 x5
   obtain ⟨U,hU⟩:∃ U,U=wr.alloc (.cells #[.int .i64 x.f0,.slice A1 x.f1.length c1,.int .i64 x.f2,.int .u64 x.f3,.string x.f4,.int .u64 x.f5] 28):=⟨_,rfl⟩
   rw [← hU] at HZA HZB HBW HCA ⊢
   clear hU
   have hk0:U.cell? ⟨w.heap.size,0,none⟩=some (.int .i64 c.f0):=blk_cell HZB.out 0
   have y0:U.cell? ⟨wr.heap.size,0,none⟩=some (.int .i64 x.f0):=blk_cell HZA.out 0
   have y1:U.cell? ⟨wr.heap.size,1,none⟩=some (.slice A1 x.f1.length c1):=blk_cell HZA.out 1
   have y2:U.cell? ⟨wr.heap.size,2,none⟩=some (.int .i64 x.f2):=blk_cell HZA.out 2
   have y3:U.cell? ⟨wr.heap.size,3,none⟩=some (.int .u64 x.f3):=blk_cell HZA.out 3
   have y4:U.cell? ⟨wr.heap.size,4,none⟩=some (.string x.f4):=blk_cell HZA.out 4
   have y5:U.cell? ⟨wr.heap.size,5,none⟩=some (.int .u64 x.f5):=blk_cell HZA.out 5
   have HCL:=Aside0.mk (closed_any c.f0 x A1 c1 U HCA.out HCC.out (LaidAt.of HLD.out HBW.out))
   have hg:decide ((i:Int)>0)=false:=decide_eq_false (by have:=HIL.out;have:=HL1.out;omega)
   have hg2:(0<i)=False:=eq_false (by have:=HIL.out;have:=HL1.out;omega)
   have hg3:decide (0<(i:Int))=false:=decide_eq_false (by have:=HIL.out;have:=HL1.out;omega)
   have hlw:=HIL.out
   have hl1:=HL1.out
   have hs1:=hsz.out
   have hw1:=HWX.out
   have hsb:s.size≤300000000000000:=by have:i * 200000000≤1000000 * 200000000:=Nat.mul_le_mul_right _ (by omega);omega
   clear hs1 hlw hl1
   go_wp2_with fail
   go_at_call 27
   refine HCL.out.mono ?_
   rintro e w3 ⟨rfl,hb3⟩
   have HZ3:=Aside0.mk (blk_below HZA.out hb3)
   have HY3:=Aside0.mk (blk_below HZB.out hb3)
   have HB3:=Aside0.mk (HBW.out.trans (hb3.mono HBW.out.size))
   have HC3:=Aside0.mk (Kd.C_below HCA.out hb3)
   clear hb3 hk0 y0 y1 y2 y3 y4 y5
   have y0:w3.cell? ⟨wr.heap.size,0,none⟩=some (.int .i64 x.f0):=blk_cell HZ3.out 0
   have y1:w3.cell? ⟨wr.heap.size,1,none⟩=some (.slice A1 x.f1.length c1):=blk_cell HZ3.out 1
   have y2:w3.cell? ⟨wr.heap.size,2,none⟩=some (.int .i64 x.f2):=blk_cell HZ3.out 2
   have y3:w3.cell? ⟨wr.heap.size,3,none⟩=some (.int .u64 x.f3):=blk_cell HZ3.out 3
   have y4:w3.cell? ⟨wr.heap.size,4,none⟩=some (.string x.f4):=blk_cell HZ3.out 4
   have y5:w3.cell? ⟨wr.heap.size,5,none⟩=some (.int .u64 x.f5):=blk_cell HZ3.out 5
   by_cases hcl:x.f0=2 ∨ (x.f0=1∧c.f0 ≠ 2)
   ·have hcb:decide (x.f0=2 ∨ (x.f0=1∧c.f0 ≠ 2))=true:=decide_eq_true hcl
    have HNEW:=Aside0.mk (show stepT 3 i s x=⟨#[110,111,116,32]⟩++⟨#[40]⟩++t++⟨#[41]⟩ by
     have hk2:=hcl
     rw [HKD.out] at hk2
     rw [ET.out]
     unfold stepT kidT
     rw [if_pos rfl,if_pos hk2]
     apply jt_ext;simp)
    rw [hcb]
    clear hcl
    have t2:(9223372036854775807<5+t.size)=False:=eq_false (by omega)
    have t3:(9223372036854775807<5+t.size+1)=False:=eq_false (by omega)
    have t2_:(9223372036854775807<4+1+t.size)=False:=eq_false (by omega)
    have t3_:(9223372036854775807<4+1+t.size+1)=False:=eq_false (by omega)
    have HSB:=Aside0.mk hsb
    clear hsb hw1
    go_wp2_with fail
    go_at_call 14
    refine (HFX.out w3 HB3.out HC3.out).mono ?_
    rintro e w4 ⟨rfl,hb4⟩
    have HY4:=Aside0.mk (blk_below HY3.out hb4)
    have HB4:=Aside0.mk (HB3.out.trans (hb4.mono HB3.out.size))
    clear hb4 y0 y1 y2 y3 y4 y5
    go_wp2_with fail
    go_roundw
    case rel =>
     refine ⟨i+1,stepT 3 i s x,by have:=HIL.out;have:=HL1.out;rw [show wrap64 ((i:Int)+1)=((i+1:Nat):Int) by unfold wrap64;omega],congrArg Value.string HNEW.out.symm,⟨HIL.out⟩,⟨?_⟩,HST,HB4,HY4⟩
     have:=stepT_size 3 i s x (Or.inr (by have:=HIL.out;have:=HL1.out;omega))
     rw [← ET.out] at this
     have:=HWX.out
     have:=hsz.out
     omega
    case measure =>
     have:=HIL.out
     have:=HL1.out
     rw [show wrap64 ((i:Int)+1)=((i+1:Nat):Int) by unfold wrap64;omega]
     simp only [intOf,Int.toNat_natCast]
     omega
   ·have hcb:decide (x.f0=2 ∨ (x.f0=1∧c.f0 ≠ 2))=false:=decide_eq_false hcl
    have HNEW:=Aside0.mk (show stepT 3 i s x=⟨#[110,111,116,32]⟩++t by
     have hk2:=hcl
     rw [HKD.out] at hk2
     rw [ET.out]
     unfold stepT kidT
     rw [if_pos rfl,if_neg hk2]
     )
    rw [hcb]
    clear hcl
    have t2:(9223372036854775807<4+t.size)=False:=eq_false (by omega)
    have HSB:=Aside0.mk hsb
    clear hsb hw1
    go_wp2_with fail
    go_at_call 14
    refine (HFX.out w3 HB3.out HC3.out).mono ?_
    rintro e w4 ⟨rfl,hb4⟩
    have HY4:=Aside0.mk (blk_below HY3.out hb4)
    have HB4:=Aside0.mk (HB3.out.trans (hb4.mono HB3.out.size))
    clear hb4 y0 y1 y2 y3 y4 y5
    go_wp2_with fail
    go_roundw
    case rel =>
     refine ⟨i+1,stepT 3 i s x,by have:=HIL.out;have:=HL1.out;rw [show wrap64 ((i:Int)+1)=((i+1:Nat):Int) by unfold wrap64;omega],congrArg Value.string HNEW.out.symm,⟨HIL.out⟩,⟨?_⟩,HST,HB4,HY4⟩
     have:=stepT_size 3 i s x (Or.inr (by have:=HIL.out;have:=HL1.out;omega))
     rw [← ET.out] at this
     have:=HWX.out
     have:=hsz.out
     omega
    case measure =>
     have:=HIL.out
     have:=HL1.out
     rw [show wrap64 ((i:Int)+1)=((i+1:Nat):Int) by unfold wrap64;omega]
     simp only [intOf,Int.toNat_natCast]
     omega
  ·have hd:decide ((i:Int)<(c.f1.length:Int))=false:=decide_eq_false (by omega)
   have hdn:(i<c.f1.length)=False:=eq_false hil
   have HS1:=Aside0.mk (show s=R by have h_:=hR.out;rw [List.drop_of_length_le (by omega)] at h_;exact h_)
   clear hil hR
   go_wp2_with fail
   all_goals go_ret
   exact ⟨congrArg (fun x => Ending.returned (.string x)) HS1.out,RB.out⟩
theorem text_any:∀ c:CN,fitsC c=true→rngC c=true→nodesC c≤1000000→∀ (A:Option Addr) (cap:Nat) (w:World),Kd.C k28 w A c.f1.length c.f1→LaidAt w →
  Calls Tryz.prog 14 #[.agg #[.int .i64 c.f0,.slice A c.f1.length cap,.int .i64 c.f2,.int .u64 c.f3,.string c.f4,.int .u64 c.f5]] w fun e w' => e=.returned (.string (writeC c))∧Below w.heap.size w w':=by
 refine cond_ind fun c ih hf hr hn A cap w hC hLd => ?_
 rw [fitsC_eq,Bool.and_eq_true] at hf
 rw [rngC_iff] at hr
 have hkn:∀ k ∈ c.f1,nodesC k≤1000000:=fun k hk => by have:=nodes_kid hk;omega
 have hF:∀ k ∈ c.f1,∀ A1 c1 w1,Below w.heap.size w w1→k28.C w1 A1 k.f1.length k.f1→k.f1.length≤c1→Calls Tryz.prog 14 #[.agg #[.int .i64 k.f0,.slice A1 k.f1.length c1,.int .i64 k.f2,.int .u64 k.f3,.string k.f4,.int .u64 k.f5]] w1 fun e w' => e=.returned (.string (writeC k))∧Below w1.heap.size w1 w' :=
  fun k hk A1 c1 w1 hb hC1 _ => ih k hk (fitsL_all hf.2 k hk) (rngL_all hr.2 k hk) (hkn k hk) A1 c1 w1 hC1 (hLd.of hb)
 have hs:∀ k ∈ c.f1,(writeC k).size≤100000000:=fun k hk => by have:=writeC_size k (fitsL_all hf.2 k hk) (rngL_all hr.2 k hk);have:=hkn k hk;omega
 have hln:c.f1.length≤1000000:=by have:=nodesL_len c.f1;rw [nodesC_eq] at hn;omega
 rcases one_cases hf.1 with ⟨h4,_,_,hsg,_⟩|⟨_,h12,hl⟩|⟨_,h3,k,ek⟩
 ·exact text_test c _ w hLd h4 hr.1 (by have:=sgnB_size hsg;omega)
 ·cases hL:c.f1 with
  |  nil => rw [hL] at hl;simp at hl
  |  cons k r =>
   rcases h12 with h1|h2
   ·have e:foldT 1 0 ⟨#[]⟩ c.f1=writeC c:=by
     rw [writeC_and h1,hL,foldT,List.map_cons,joinT_cons,foldT_and r _ _ (by omega)]
     unfold stepT
     rw [if_neg (by decide),if_neg (by omega),if_neg (by omega),nil_app,kidT_fact (by decide)]
    have h_:=text_k1 c A cap w hLd h1 hln hC hF hs
    rw [e,hL] at h_
    exact h_
   ·have e:foldT 2 0 ⟨#[]⟩ c.f1=writeC c:=by
     rw [writeC_or h2,hL,foldT,List.map_cons,joinT_cons,foldT_or r _ _ (by omega)]
     unfold stepT
     rw [if_neg (by decide),if_neg (by omega),if_neg (by omega),nil_app,kidT_or]
    have h_:=text_k2 c A cap w hLd h2 hln hC hF hs
    rw [e,hL] at h_
    exact h_
 ·have e:foldT 3 0 ⟨#[]⟩ c.f1=writeC c:=by
   rw [writeC_not h3 ek,ek,foldT,foldT,joinT_cons,tailT_cons,tailT_nil]
   unfold stepT
   rw [if_pos rfl,kidT_fact (by decide)]
   apply jt_ext;simp
  have h_:=text_k3 c A cap w hLd h3 (by rw [ek];simp) hC hF hs
  rw [e] at h_
  exact h_

def doorwardref17_Text.f (a0_0:Int) (l0_1:List CN) (a0_2:Int) (a0_3:Int) (a0_4:ByteArray) (a0_5:Int):Option ByteArray:=if fitsC ⟨a0_0,l0_1,a0_2,a0_3,a0_4,a0_5⟩=true∧rngC ⟨a0_0,l0_1,a0_2,a0_3,a0_4,a0_5⟩=true∧nodesC ⟨a0_0,l0_1,a0_2,a0_3,a0_4,a0_5⟩≤1000000 then some (writeC ⟨a0_0,l0_1,a0_2,a0_3,a0_4,a0_5⟩) else none
theorem doorwardref17_Text.calls (a0_0:Int) (A0_1:Option Addr) (c0_1:Nat) (l0_1:List (S28)) (a0_2:Int) (a0_3:Int) (a0_4:ByteArray) (a0_5:Int) (r:ByteArray) (w:World) (hr0_1:Kd.C k28 w A0_1 l0_1.length l0_1) (hc0_1:l0_1.length≤c0_1) (hLd:LaidAt w) (h:doorwardref17_Text.f a0_0 l0_1 a0_2 a0_3 a0_4 a0_5=some r) :
  Calls Tryz.prog 14 #[.agg #[.int .i64 a0_0,.slice A0_1 l0_1.length c0_1,.int .i64 a0_2,.int .u64 a0_3,.string a0_4,.int .u64 a0_5]] w fun e w' => e=.returned (.string r)∧Below w.heap.size w w':=by
 unfold doorwardref17_Text.f at h
 split at h
 ·rename_i hs
  have e:=Option.some.inj h
  rw [← e]
  exact text_any ⟨a0_0,l0_1,a0_2,a0_3,a0_4,a0_5⟩ hs.1 hs.2.1 hs.2.2 A0_1 c0_1 w hr0_1 hLd
 ·cases h

end Go.Proofs.YtdfjjimmnbijmaaGreatDoor.ZQ

-- Written for this claim by myprint.py over the kit's print (functions of this session supplied)
import Derived.Test.YtdfjjimmnbijmaaGreatDoorZQ0
import Derived.Test.YtdfjjimmnbijmaaGreatDoorZQ1
import Derived.Test.YtdfjjimmnbijmaaGreatDoorZQ3
import Derived.Test.YtdfjjimmnbijmaaGreatDoorZQ4
import Derived.Test.YtdfjjimmnbijmaaGreatDoorZQ6
import Derived.Test.YtdfjjimmnbijmaaGreatDoorZQ7
namespace Go.Proofs.YtdfjjimmnbijmaaGreatDoor.ZQ
open Go.RowKit Go.Proofs.YtdfjjimmnbijmaaGreatDoorW.PrintWords Go.Proofs.YtdfjjimmnbijmaaGreatDoorW.PrintLast Go.Proofs.YtdfjjimmnbijmaaGreatDoorW.PrintMore Go.Proofs.YtdfjjimmnbijmaaGreatDoor.Base
attribute [local go_sem] max2_int min2_int max_two min_two max_three min_three max_four min_four   -- for this text's walks alone
set_option linter.unusedVariables false
set_option linter.unusedSimpArgs false

/-! ### lex_Lex: function 29 -/

theorem joins_wr {a b y z:ByteArray} {i j:Int} (hi:mn (a.size:Int) 900=i) (hy:y=a.extract 0 (i:Int).toNat) (hj:mn (b.size:Int) 900=j) (hz:z=b.extract 0 (j:Int).toNat):wrap64 (wrap64 ((y.size:Int)+1)+(z.size:Int))=(y.size:Int)+1+(z.size:Int):=by
 have h1:i≤900:=by rw [← hi];unfold mn;split<;>omega
 have h2:j≤900:=by rw [← hj];unfold mn;split<;>omega
 have h3:y.size≤900:=by subst hy;simp;omega
 have h4:z.size≤900:=by subst hz;simp;omega
 unfold wrap64;omega
/-! ### the closure that puts a token behind the others -/
def tokCells (l:List S74):List Value:=l.flatMap fun t => [.int .i64 t.f0,.string t.f1,.int .i64 t.f2]
theorem tokCells_snoc (l:List S74) (t:S74):tokCells (l++[t])=tokCells l++[.int .i64 t.f0,.string t.f1,.int .i64 t.f2]:=by simp [tokCells]
theorem tokCells_len (l:List S74):(tokCells l).length=l.length * 3:=by
 induction l with
 |  nil => rfl
 |  cons t l ih =>
  have e:tokCells (t :: l)=[.int .i64 t.f0,.string t.f1,.int .i64 t.f2]++tokCells l:=by simp [tokCells]
  rw [e,List.length_append,ih];simp;omega
/-- The cutter's variables, in three blocks of their own, and the row of tokens so far. -/
structure LexInv (w0 w:World) (s:ByteArray) (p:Nat) (v:Value) (toks:List S74):Prop where
 cS:w.heap[w0.heap.size]?=some (.cells #[.string s] 9 (0,0))
 cO:w.heap[w0.heap.size+1]?=some (.cells #[v] 58 (0,0))
 cA:w.heap[w0.heap.size+2]?=some (.cells #[.int .i64 p] 3 (0,0))
 row:w.ownsRow (w0.heap.size+3) 74 3 v toks.length (tokCells toks)
 below:Below w0.heap.size w0 w
theorem LexInv.size {w0 w:World} {s:ByteArray} {p:Nat} {v:Value} {toks:List S74} (h:LexInv w0 w s p v toks):w0.heap.size+3≤w.heap.size:=by
 have:=(Array.getElem?_eq_some_iff.1 h.cA).1
 omega
theorem lxCell {w:World} {b:Nat} {v:Value} {t:TypeId} (h:w.heap[b]?=some (.cells #[v] t (0,0))):w.cell? ⟨b,0,none⟩=some v∧w.frozen? ⟨b,0,none⟩=false:=by
 constructor
 ·simp [World.cell?,h]
 ·simp [World.frozen?,h]
theorem lex_cell {w:World} {o:Obj} {b:Nat} {v:Value} {t:TypeId} (h:w.heap[b]?=some (.cells #[v] t (0,0))) (hb:b<w.heap.size):(w.alloc o).drew.cell? ⟨b,0,none⟩=some v :=
 (lxCell (w:=(w.alloc o).drew) (t:=t) ((Below.heap_alloc w o b hb).trans h)).1
theorem lex_far {w w1:World} {o:Obj} {row:Option Nat} {b:Nat} {x:Option Obj} (h:w.heap[b]?=x) (hg:((w.alloc o).drew).grownBy w1 row) (hb:b<w.heap.size) (hne:row ≠ some b):w1.heap[b]?=x:=by
 rw [hg.block b (by simp;omega) (Ne.symm hne)]
 rw [← h]
 exact Below.heap_alloc w o b hb
theorem infoTok:(Tryz.prog.info? 74).map (fun i => (i.zero,i.size,i.bytes))=some (some (.agg #[.int .i64 0,.string ⟨#[]⟩,.int .i64 0]),3,32):=by kernel_rfl
set_option maxRecDepth 100000 in
set_option maxHeartbeats 3200000 in
theorem add_any (w0 w:World) (s:ByteArray) (p n:Nat) (kind:Int) (v:Value) (toks:List S74) (h:LexInv w0 w s p v toks) (hn:p+n≤s.size) (hs:s.size≤1000000) (ht:toks.length≤1000000) :
  Calls Tryz.prog 45 #[.int .i64 kind,.int .i64 n,.pointer (some ⟨w0.heap.size+1,0,none⟩),.pointer (some ⟨w0.heap.size,0,none⟩),.pointer (some ⟨w0.heap.size+2,0,none⟩)] w fun e w' =>
   ∃ v',e=.returned (.tuple #[])∧LexInv w0 w' s (p+n) v' (toks++[⟨kind,s.extract p (p+n),p⟩]):=by
 obtain ⟨i0,hi0,hz0,hz1,hz2⟩:=info_parts infoTok
 have hsz:=h.size
 obtain ⟨hcS,_⟩:=lxCell h.cS
 obtain ⟨hcO,hfO⟩:=lxCell h.cO
 obtain ⟨hcA,hfA⟩:=lxCell h.cA
 have hrow:=h.row
 have hvB:∀ k,v.ownBlock=some k→w0.heap.size+3≤k:=fun k hk => own_base hrow k hk
 have p1:(0:Int)≤(p:Int):=by omega
 have p2:(p:Int)≤(p:Int)+(n:Int):=by omega
 have p3:(p:Int)+(n:Int)≤(s.size:Int):=by omega
 have p4:(0:Int)≤(n:Int):=by omega
 have hw:IntKind.i64.wrap ((p:Int)+(n:Int))=(p:Int)+(n:Int):=by rw [IntKind.wrap_i64];omega
 have hT:((p:Int)+(n:Int)).toNat=p+n:=by omega
 go_enter Tryz.func45,Tryz.ntmps45
 go_wp2_with fail
 have n1:v.ownBlock ≠ some (w0.heap.size+1):=fun e => by have:=hvB _ e;omega
 have n0:v.ownBlock ≠ some w0.heap.size:=fun e => by have:=hvB _ e;omega
 have n2:v.ownBlock ≠ some (w0.heap.size+2):=fun e => by have:=hvB _ e;omega
 have hb:=h.below
 have b1:toks.length+1≤maxLen:=by simp only [maxLen];omega
 have b2:(toks.length+1) * 32≤140737488355328:=by omega
 have BB:=Aside0.mk hb
 have ROW:=Aside0.mk hrow
 have CO:=Aside0.mk h.cO
 have CS:=Aside0.mk h.cS
 have CA:=Aside0.mk h.cA
 have HVB:=Aside0.mk hvB
 clear hb hrow h hvB ht
 refine start_ (n:=13) (S:=fun w' => w'.cell? ⟨w0.heap.size+1,0,none⟩=some v∧w'.cell? ⟨w0.heap.size,0,none⟩=some (.string s)∧w'.cell? ⟨w0.heap.size+2,0,none⟩=some (.int .i64 p)) (ds:=[12]) #[false,false,false,false,false,false,false,false,false,false,false,false,false] (by kernel_rfl) rfl rfl ⟨hcO,hcS,hcA⟩ (fun hHeld => ?_)
 refine pure_ (i:=1) (N:=some 8) (v:=?_) (a':=?_) #[false,true,false,false,false,false,false,false,false,false,false,false,false] rfl rfl (by kernel_rfl) (fun _ _ _ h => h) (Or.inl ⟨by rfl,?_⟩) ?_ ?_
 rotate_left
 ·intro w'
  go_simp
  with_reducible rfl
 rotate_left
 ·simp only [Act.put,List.setIfInBounds_toArray,List.set_cons_zero,List.set_cons_succ,i64_w,i32_w]
  rfl
 refine pure_ (i:=5) (N:=some 12) (v:=?_) (a':=?_) #[false,true,false,false,false,true,false,false,false,false,false,false,false] rfl rfl (by kernel_rfl) (fun _ _ _ h => h) (Or.inl ⟨by rfl,?_⟩) ?_ ?_
 rotate_left
 ·intro w'
  go_simp
  with_reducible rfl
 rotate_left
 ·simp only [Act.put,List.setIfInBounds_toArray,List.set_cons_zero,List.set_cons_succ,i64_w,i32_w]
  rfl
 refine take_ (i:=0) (N:=some 7) (v:=?_) (a':=?_) #[true,true,false,false,false,true,false,false,false,false,false,false,false] rfl rfl (by kernel_rfl) (fun _ _ _ h => h) (Or.inl ⟨by rfl,?_⟩) hHeld ?_ ?_
 rotate_left
 ·rintro w' ⟨s0,s1,s2⟩
  go_simp
  with_reducible rfl
 rotate_left
 ·simp only [Act.put,List.setIfInBounds_toArray,List.set_cons_zero,List.set_cons_succ,i64_w,i32_w]
  rfl
 refine take_ (i:=2) (N:=some 9) (v:=?_) (a':=?_) #[true,true,true,false,false,true,false,false,false,false,false,false,false] rfl rfl (by kernel_rfl) (fun _ _ _ h => h) (Or.inl ⟨by rfl,?_⟩) hHeld ?_ ?_
 rotate_left
 ·rintro w' ⟨s0,s1,s2⟩
  go_simp
  with_reducible rfl
 rotate_left
 ·simp only [Act.put,List.setIfInBounds_toArray,List.set_cons_zero,List.set_cons_succ,i64_w,i32_w]
  rfl
 refine take_ (i:=3) (N:=some 10) (v:=?_) (a':=?_) #[true,true,true,true,false,true,false,false,false,false,false,false,false] rfl rfl (by kernel_rfl) (fun _ _ _ h => h) (Or.inl ⟨by rfl,?_⟩) hHeld ?_ ?_
 rotate_left
 ·rintro w' ⟨s0,s1,s2⟩
  go_simp
  with_reducible rfl
 rotate_left
 ·simp only [Act.put,List.setIfInBounds_toArray,List.set_cons_zero,List.set_cons_succ,i64_w,i32_w]
  rfl
 refine take_ (i:=4) (N:=some 11) (v:=?_) (a':=?_) #[true,true,true,true,true,true,false,false,false,false,false,false,false] rfl rfl (by kernel_rfl) (fun _ _ _ h => h) (Or.inl ⟨by rfl,?_⟩) hHeld ?_ ?_
 rotate_left
 ·rintro w' ⟨s0,s1,s2⟩
  go_simp
  with_reducible rfl
 rotate_left
 ·simp only [Act.put,List.setIfInBounds_toArray,List.set_cons_zero,List.set_cons_succ,i64_w,i32_w]
  rfl
 refine pure_ (i:=6) (N:=some 13) (v:=?_) (a':=?_) #[true,true,true,true,true,true,true,false,false,false,false,false,false] rfl rfl (by kernel_rfl) (fun _ _ _ h => h) (Or.inl ⟨by rfl,?_⟩) ?_ ?_
 rotate_left
 ·intro w'
  go_simp
  with_reducible rfl
 rotate_left
 ·simp only [Act.put,List.setIfInBounds_toArray,List.set_cons_zero,List.set_cons_succ,i64_w,i32_w]
  rfl
 refine pure_ (i:=7) (N:=some 14) (v:=?_) (a':=?_) #[true,true,true,true,true,true,true,true,false,false,false,false,false] rfl rfl (by kernel_rfl) (fun _ _ _ h => h) (Or.inl ⟨by rfl,?_⟩) ?_ ?_
 rotate_left
 ·intro w'
  go_simp
  with_reducible rfl
 rotate_left
 ·simp only [Act.put,List.setIfInBounds_toArray,List.set_cons_zero,List.set_cons_succ,i64_w,i32_w]
  rfl
 refine take_ (i:=8) (N:=some 15) (v:=?_) (a':=?_) #[true,true,true,true,true,true,true,true,true,false,false,false,false] rfl rfl (by kernel_rfl) (fun _ _ _ h => h) (Or.inl ⟨by rfl,?_⟩) hHeld ?_ ?_
 rotate_left
 ·rintro w' ⟨s0,s1,s2⟩
  go_simp
  with_reducible rfl
 rotate_left
 ·simp only [Act.put,List.setIfInBounds_toArray,List.set_cons_zero,List.set_cons_succ,i64_w,i32_w]
  rfl
 refine pure_ (i:=9) (N:=some 16) (v:=?_) (a':=?_) #[true,true,true,true,true,true,true,true,true,true,false,false,false] rfl rfl (by kernel_rfl) (fun _ _ _ h => h) (Or.inl ⟨by rfl,?_⟩) ?_ ?_
 rotate_left
 ·intro w'
  go_simp
  with_reducible rfl
 rotate_left
 ·simp only [Act.put,List.setIfInBounds_toArray,List.set_cons_zero,List.set_cons_succ,i64_w,i32_w]
  rfl
 refine one_ (i:=10) (N:=some 17) #[true,true,true,true,true,true,true,true,true,true,true,false,false] rfl rfl (by kernel_rfl) (by decide) (fun K hK => ?_)
 refine value_ (w1:=?_) (v:=?_) (by rfl) rfl ?_ ?_
 rotate_left 2
 ·go_simp
  constructor
  ·rfl
  ·rfl
 refine hK.out _ _ ⟨(lex_cell CO.out (by omega)),(lex_cell CS.out (by omega)),(lex_cell CA.out (by omega))⟩ (fun hHeld => ?_)
 clear hK K
 refine norm_ (a':=?_) ?_ ?_
 rotate_left
 ·show Act.put _ (some 17) _=_
  simp only [Act.put,List.setIfInBounds_toArray,List.set_cons_zero,List.set_cons_succ,i64_w,i32_w]
  rfl
 refine one_ (i:=11) (N:=some 18) #[true,true,true,true,true,true,true,true,true,true,true,true,false] rfl rfl (by kernel_rfl) (by decide) (fun K hK => ?_)
 refine step_append_lies _ (by rfl) _ _ _ (by rfl) (w0.heap.size+3) 74 i0 _ 3 32 Tryz.underlying58 hi0 hz0 hz1 hz2 rfl (by omega) v toks.length (tokCells toks) (by rfl) ((ROW.out.alloc _).drew) ⟨w.heap.size,0,none⟩ 1 1 [.int .i64 kind,.string (s.extract p (p+n)),.int .i64 p] (by rfl) (by rfl) (World.news_of_block (cs:=#[.int .i64 kind,.string (s.extract p (p+n)),.int .i64 p]) (t:=74) (fr:=(0,0)) (heap_alloc_new w _)) (by simp [Value.oneCell']) (by omega) b1 b2 (by simp;omega) (w.heap.size+1) (by simp) ?_
 intro gg cap w1 hown1 hgrow hat hlt
 have hb1:=Aside0.mk (lex_far CO.out hgrow (by omega) n1)
 have hb0:=Aside0.mk (lex_far CS.out hgrow (by omega) n0)
 have hb2:=Aside0.mk (lex_far CA.out hgrow (by omega) n2)
 obtain ⟨hst,hfz⟩:=lxCell hb1.out
 obtain ⟨hst0,_⟩:=lxCell hb0.out
 obtain ⟨hst2,hfz2⟩:=lxCell hb2.out
 refine hK.out _ _ ⟨hst,hst0,hst2⟩ (fun hHeld => ?_)
 clear hK K
 refine norm_ (a':=?_) ?_ ?_
 rotate_left
 ·show Act.put _ (some 18) _=_
  simp only [Act.put,List.setIfInBounds_toArray,List.set_cons_zero,List.set_cons_succ,i64_w,i32_w]
  rfl
 refine last_ (i:=12) (N:=none) #[true,true,true,true,true,true,true,true,true,true,true,true,true] rfl rfl (by kernel_rfl) (by decide) (fun K hK => ?_)
 refine skip_ (w1:=?_) (by rfl) rfl ?_ ?_
 rotate_left
 ·go_simp
  rfl
 refine hK.out _ _ ?_
 clear hK K
 refine done_ (by kernel_rfl) ?_
 have gne:gg ≠ w0.heap.size∧gg ≠ w0.heap.size+1∧gg ≠ w0.heap.size+2:=by
  rcases hat with e|e
  ·exact ⟨fun q => n0 (q ▸ e),fun q => n1 (q ▸ e),fun q => n2 (q ▸ e)⟩
  ·exact ⟨by omega,by omega,by omega⟩
 have hst3:(w1.setCell ⟨w0.heap.size+1,0,none⟩ (.slice (some ⟨gg,0,none⟩) (toks.length+1) cap)).cell? ⟨w0.heap.size+2,0,none⟩=some (.int .i64 p):=by rw [World.cell?_setCell_far _ _ _ _ (by simp)];exact hst2
 have hfz3:(w1.setCell ⟨w0.heap.size+1,0,none⟩ (.slice (some ⟨gg,0,none⟩) (toks.length+1) cap)).frozen? ⟨w0.heap.size+2,0,none⟩=false:=by rw [World.frozen?_setCell];exact hfz2
 have OWN:=Aside0.mk hown1
 have GROW:=Aside0.mk hgrow
 clear hown1 hgrow hat hlt hst hst0 hst2 hfz hfz2
 go_outline
 go_wp2_with fail
 go_end0
 refine ⟨.slice (some ⟨gg,0,none⟩) (toks.length+1) cap,rfl,⟨?_,?_,?_,?_,?_⟩⟩
 ·rw [heap_setCell_other _ _ _ _ (by simp),heap_setCell_other _ _ _ _ (by simp)];exact hb0.out
 ·rw [heap_setCell_other _ _ _ _ (by simp),heap_setCell_same _ _ _ _ _ _ hb1.out];rfl
 ·rw [heap_setCell_same (cs:=#[.int .i64 p]) (t:=3) (hg:=by rw [heap_setCell_other _ _ _ _ (by simp)];exact hb2.out)];rw [← Int.natCast_add];rfl
 ·rw [tokCells_snoc,List.length_append]
  exact own_setCell (own_setCell OWN.out (by intro e;injection e with e;exact gne.2.1 e.symm) _) (by intro e;injection e with e;exact gne.2.2 e.symm) _
 ·exact (((BB.out.alloc (by omega) _).drew.grown GROW.out (by simp;omega) (fun k hk => by have:=HVB.out k hk;omega)).setCell (by simp) _).setCell (by simp) _
def letS (c:Int):Bool:=(decide (97≤c) && decide (c≤122)) || c==95
def eitS (c:Int):Bool:=letS c || dS c
def notNl (c:Int):Bool:=!(c==10)
theorem letS_f (c:Int):lex_letter.f c=some (letS c):=by
 unfold lex_letter.f letS
 by_cases h:c ≥ 97
 ·rw [if_pos h]
  by_cases h2:c≤122
  ·rw [if_pos h2];simp [h,h2]
  ·rw [if_neg h2];simp [h2]
 ·rw [if_neg h];simp [h]
theorem eitS_f (c:Int):lex_either.f c=some (eitS c):=by
 unfold lex_either.f eitS
 rw [letS_f]
 cases h:letS c
 ·simp [dS_f]
 ·simp
theorem lex2_any (c:Int) (w:World):Calls Tryz.prog 47 #[.int .u8 c] w fun e w' => e=.returned (.bool (notNl c))∧Drawn0 w w':=by
 go_enter Tryz.func47,Tryz.ntmps47
 go_wp2_with fail
 all_goals go_ret
 all_goals exact ⟨by simp_all [notNl,bne],Drawn0.refl _⟩
/-- What stands at a place: its length, and its kind (none: it is passed over); none: nothing that may stand there. -/
def stepL (s:ByteArray) (p:Nat):Option (Nat × Option Int) :=
 if bt s p=32 ∨ bt s p=9 ∨ bt s p=13 then some (1,none)
 else if bt s p=35 then some (runS notNl s (s.size - p) p,none)
 else if bt s p=10 then some (1,some 4)
 else if letS (bt s p) then some (runS eitS s (s.size - p) p,some 1)
 else if dS (bt s p) then (if (numS (s.extract p (p+runS eitS s (s.size - p) p))).isSome then some (runS eitS s (s.size - p) p,some 2) else none)
 else if (signFrom (s.extract p s.size) signsL).size=0 then none else some ((signFrom (s.extract p s.size) signsL).size,some 3)
def lexG (s:ByteArray):Nat→Nat→Except Nat (List S74)
 |  0,_ => .ok []
 |  d+1,p =>
  if p<s.size then
   match stepL s p with
   |  none => .error p
   |  some (n,none) => lexG s d (p+n)
   |  some (n,some k) => match lexG s d (p+n) with
    |  .error e => .error e
    |  .ok l => .ok (⟨k,s.extract p (p+n),p⟩ :: l)
  else .ok []
def lexR (s:ByteArray):Except Nat (List S74)→List S74 × Int × Int
 |  .ok l => (l++[⟨0,s.extract s.size s.size,s.size⟩],0,0)
 |  .error p => ([],60,p)
def lexS (s:ByteArray):List S74 × Int × Int:=if 2000<s.size then ([],2,0) else lexR s (lexG s s.size 0)
/-- What has been read ahead of a row. -/
def ahead (l:List S74):Except Nat (List S74)→Except Nat (List S74)
 |  .ok m => .ok (l++m)
 |  .error e => .error e
theorem stepL_pos {s:ByteArray} {p n:Nat} {k:Option Int} (hp:p<s.size) (h:stepL s p=some (n,k)):1≤n∧p+n≤s.size:=by
 have run1:∀ q:Int→Bool,q (bt s p)=true→1≤runS q s (s.size - p) p∧p+runS q s (s.size - p) p≤s.size:=by
  intro q hq
  have h1:=runS_le q s (s.size - p) p
  refine ⟨?_,by omega⟩
  obtain ⟨m,hm⟩:∃ m,s.size - p=m+1:=⟨s.size - p - 1,by omega⟩
  rw [hm,runS,if_pos hq]
  omega
 have hsg:∀ (l:List ByteArray) (t:ByteArray),(signFrom t l).size≤t.size:=by
  intro l t
  induction l with
  |  nil => exact Nat.zero_le _
  |  cons x l ih =>
   rw [signFrom]
   split
   ·rename_i hx
    unfold preS at hx
    simp only [Bool.and_eq_true,decide_eq_true_eq] at hx
    exact hx.1
   ·exact ih
 unfold stepL at h
 split at h
 ·cases h;omega
 split at h
 ·rename_i h2;cases h;exact run1 notNl (by rw [h2];rfl)
 split at h
 ·cases h;omega
 split at h
 ·rename_i h4;cases h;exact run1 eitS (by simp [eitS,h4])
 split at h
 ·rename_i h5
  split at h
  ·cases h;exact run1 eitS (by simp [eitS,h5])
  ·cases h
 split at h
 ·cases h
 ·rename_i h6
  cases h
  have:=hsg signsL (s.extract p s.size)
  simp at this
  omega
theorem lexG_fuel (s:ByteArray):∀ d d' p,s.size - p≤d→s.size - p≤d'→lexG s d p=lexG s d' p
 |  0,0,_,_,_ => rfl
 |  0,d'+1,p,h,_ => by rw [lexG,lexG,if_neg (by omega)]
 |  d+1,0,p,_,h => by rw [lexG,lexG,if_neg (by omega)]
 |  d+1,d'+1,p,h1,h2 => by
  rw [lexG,lexG]
  by_cases hp:p<s.size
  ·rw [if_pos hp,if_pos hp]
   cases hs:stepL s p with
   |  none => rfl
   |  some x =>
    obtain ⟨n,k⟩:=x
    have:=stepL_pos hp hs
    cases k with
    |  none => exact lexG_fuel s d d' (p+n) (by omega) (by omega)
    |  some k => simp only [lexG_fuel s d d' (p+n) (by omega) (by omega)]
  ·rw [if_neg hp,if_neg hp]
def LX (s:ByteArray) (p:Nat):Except Nat (List S74):=lexG s (s.size - p) p
theorem LX_end (s:ByteArray) {p:Nat} (h:s.size≤p):LX s p=.ok []:=by
 unfold LX;rw [show s.size - p=0 by omega];rfl
theorem LX_step (s:ByteArray) {p:Nat} (h:p<s.size):LX s p=match stepL s p with
   |  none => .error p
   |  some (n,none) => LX s (p+n)
   |  some (n,some k) => match LX s (p+n) with
    |  .error e => .error e
    |  .ok l => .ok (⟨k,s.extract p (p+n),p⟩ :: l):=by
 obtain ⟨m,hm⟩:∃ m,s.size - p=m+1:=⟨s.size - p - 1,by omega⟩
 unfold LX
 rw [hm,lexG,if_pos h]
 cases hs:stepL s p with
 |  none => rfl
 |  some x =>
  obtain ⟨n,k⟩:=x
  have:=stepL_pos h hs
  have e:=lexG_fuel s m (s.size - (p+n)) (p+n) (by omega) (by omega)
  cases k with
  |  none => exact e
  |  some k => simp only [e]
theorem ahead_step {s:ByteArray} {toks:List S74} {p n:Nat} {k:Int} (h:p<s.size) (hs:stepL s p=some (n,some k)):ahead toks (LX s p)=ahead (toks++[⟨k,s.extract p (p+n),p⟩]) (LX s (p+n)):=by
 rw [LX_step s h,hs]
 simp only
 cases LX s (p+n)<;>simp [ahead]
theorem ahead_pass {s:ByteArray} {toks:List S74} {p n:Nat} (h:p<s.size) (hs:stepL s p=some (n,none)):ahead toks (LX s p)=ahead toks (LX s (p+n)):=by
 rw [LX_step s h,hs]
theorem ahead_none {s:ByteArray} {toks:List S74} {p:Nat} (h:p<s.size) (hs:stepL s p=none):ahead toks (LX s p)=.error p:=by
 rw [LX_step s h,hs];rfl
theorem lexS_LX (s:ByteArray) (h:¬ 2000<s.size):lexS s=lexR s (ahead [] (LX s 0)):=by
 unfold lexS LX
 rw [if_neg h,Nat.sub_zero]
 cases lexG s s.size 0<;>rfl
theorem lexInv_pass {w0 w:World} {s:ByteArray} {p:Nat} {v:Value} {toks:List S74} (h:LexInv w0 w s p v toks) (q:Nat):LexInv w0 (w.setCell ⟨w0.heap.size+2,0,none⟩ (.int .i64 q)) s q v toks:=by
 have hsz:=h.size
 refine ⟨?_,?_,?_,?_,h.below.setCell (by simp) _⟩
 ·rw [heap_setCell_other _ _ _ _ (by simp)];exact h.cS
 ·rw [heap_setCell_other _ _ _ _ (by simp)];exact h.cO
 ·rw [heap_setCell_same _ _ _ _ _ _ h.cA];rfl
 ·exact own_setCell h.row (by intro e;have:=own_base h.row _ e.symm;simp at this) _
theorem lexInv_drewN {w0 w:World} {s:ByteArray} {p:Nat} {v:Value} {toks:List S74} (h:LexInv w0 w s p v toks) (n:Nat):LexInv w0 (w.drewN n) s p v toks:=⟨h.cS,h.cO,h.cA,h.row,pw_below_drewN h.below n⟩
theorem lexInv_drew {w0 w:World} {s:ByteArray} {p:Nat} {v:Value} {toks:List S74} (h:LexInv w0 w s p v toks):LexInv w0 w.drew s p v toks:=⟨h.cS,h.cO,h.cA,h.row.drew,h.below.drew⟩
theorem lexInv_below {w0 w w1:World} {s:ByteArray} {p:Nat} {v:Value} {toks:List S74} (h:LexInv w0 w s p v toks) (hb:Below w.heap.size w w1):LexInv w0 w1 s p v toks:=by
 have hsz:=h.size
 exact ⟨(hb.block _ (by omega)).trans h.cS,(hb.block _ (by omega)).trans h.cO,(hb.block _ (by omega)).trans h.cA,h.row.kept (grown_of_below hb none) (by cases v.ownBlock<;>simp),h.below.trans (hb.mono (by omega))⟩
theorem tok_R {w:World} {base:Nat} {v:Value} {toks:List S74} (h:w.ownsRow base 74 3 v toks.length (tokCells toks)):Kd.R k74 74 w base (fun _ => True) v toks:=by
 refine ⟨fun _ _ => trivial,tokCells toks,h,tokCells_len toks,fun j p hj => ?_⟩
 have e:((tokCells toks).drop (j * 3)).take 3=[.int .i64 p.f0,.string p.f1,.int .i64 p.f2]:=by
  clear h
  induction toks generalizing j with
  |  nil => simp at hj
  |  cons t l ih =>
   have ec:tokCells (t :: l)=[.int .i64 t.f0,.string t.f1,.int .i64 t.f2]++tokCells l:=by simp [tokCells]
   cases j with
   |  zero => simp at hj;subst hj;simp [ec]
   |  succ j =>
    rw [ec,show (j+1) * 3=3+j * 3 by omega,← List.drop_drop]
    exact ih j (by simpa using hj)
 exact e ▸ k74_mkM _ _ _ _
def curP (b:Nat) (w:World):Nat:=match w.cell? ⟨b+2,0,none⟩ with|some (.int _ i) => i.toNat|_ => 0
theorem curP_of {w0 w:World} {s:ByteArray} {p:Nat} {v:Value} {toks:List S74} (h:LexInv w0 w s p v toks):curP w0.heap.size w=p:=by
 unfold curP
 rw [(lxCell h.cA).1]
 simp
theorem lexInv_start (w:World) (s:ByteArray):LexInv w (((w.alloc (.cells #[.string s] 9 (0,0))).alloc (.cells #[.slice none 0 0] 58 (0,0))).alloc (.cells #[.int .i64 (0:Nat)] 3 (0,0))) s 0 (.slice none 0 0) []:=by
 refine ⟨?_,?_,?_,World.ownsRow_nil _ _ _ _,(((Below.refl _ _).alloc (Nat.le_refl _) _).alloc (by simp) _).alloc (by simp;omega) _⟩
 ·rw [Below.heap_alloc _ _ _ (by simp;omega),Below.heap_alloc _ _ _ (by simp)];exact heap_alloc_new w _
 ·rw [Below.heap_alloc _ _ _ (by simp)]
  have:=heap_alloc_new (w.alloc (.cells #[.string s] 9 (0,0))) (.cells #[.slice none 0 0] 58 (0,0))
  simpa using this
 ·have:=heap_alloc_new ((w.alloc (.cells #[.string s] 9 (0,0))).alloc (.cells #[.slice none 0 0] 58 (0,0))) (.cells #[.int .i64 (0:Nat)] 3 (0,0))
  simpa using this
theorem meas {w w2 wr:World} {s:ByteArray} {p q:Nat} {v v':Value} {toks toks':List S74} (h1:LexInv w wr s p v toks) (h2:LexInv w w2 s q v' toks') (h:p<q) (h':q≤s.size):s.size - curP w.heap.size w2<s.size - curP w.heap.size wr:=by
 rw [curP_of h1,curP_of h2];omega
set_option maxRecDepth 100000 in
set_option maxHeartbeats 16000000 in
theorem lex_any (s:ByteArray) (w:World) (hLd:LaidAt w) :
  Calls Tryz.prog 29 #[.string s] w fun e w' =>∃v0_:Value,e=.returned (.tuple #[v0_,.int .i64 (lexS s).2.1,.int .i64 (lexS s).2.2])∧Kd.R k74 74 w' w.heap.size (fun _ => True) v0_ (lexS s).1∧Below w.heap.size w w':=by
 have HLD:=Aside0.mk hLd
 clear hLd
 by_cases hlong:2000<s.size
 ·have hS:lexS s=([],2,0):=by unfold lexS;rw [if_pos hlong]
  rw [hS]
  have c0:decide (2000<(s.size:Int))=true:=decide_eq_true (by omega)
  go_enter Tryz.func29,Tryz.ntmps29
  go_wp2_with fail
  go_ret3
  exact ⟨_,rfl,Kd.R_nil _ _ _ _ _,(Below.refl _ _).alloc (Nat.le_refl _) _⟩
 have c0:decide (2000<(s.size:Int))=false:=decide_eq_false (by omega)
 obtain ⟨R,hR⟩:∃ R,R=lexS s:=⟨_,rfl⟩
 rw [← hR]
 have HR:=Aside0.mk (hR.trans (lexS_LX s hlong))
 clear hR
 go_enter Tryz.func29,Tryz.ntmps29
 go_wp2_with fail
 go_loopw [] (fun wr =>∃(p:Nat) (v:Value) (toks:List S74),LexInv w wr s p v toks∧Aside0 (p≤s.size)∧Aside0 (toks.length≤p)∧Aside0 (ahead [] (LX s 0)=ahead toks (LX s p))) (fun wr => s.size - curP w.heap.size wr)
 case atStart => exact ⟨0,.slice none 0 0,[],lexInv_start w s,⟨Nat.zero_le _⟩,⟨Nat.le_refl _⟩,⟨rfl⟩⟩
 case round =>
  obtain ⟨p,v,toks,hI,hp,htl,hA⟩:=hrel
  have hpp:=hp.out
  have hsz:=hI.size
  have hcS:=(lxCell hI.cS).1
  have hcO:=(lxCell hI.cO).1
  have hcA:wr.cell? ⟨w.heap.size+1+1,0,none⟩=some (.int .i64 p):=(lxCell hI.cA).1
  have hfA:wr.frozen? ⟨w.heap.size+1+1,0,none⟩=false:=(lxCell hI.cA).2
  have INV:=Aside0.mk hI
  clear hI
  by_cases hlt:p<s.size
  ·have c1:decide ((p:Int)<(s.size:Int))=true:=decide_eq_true (by omega)
   have p1:(0≤(p:Int))=True:=eq_true (by omega)
   have q1:((p:Int)<(s.size:Int))=True:=eq_true (by omega)
   have hx:((s[p]'hlt).toNat:Int)=bt s (p:Int):=by have:=bt_at s (p:Int) (by simpa using hlt);simpa using this
   by_cases b1:bt s p=32 ∨ bt s p=9 ∨ bt s p=13
   ·have hst:stepL s p=some (1,none):=by unfold stepL;rw [if_pos b1]
    have hA2:=Aside0.mk (hA.out.trans (ahead_pass hlt hst))
    have HX:=Aside0.mk (show p+1≤s.size by omega)
    rcases b1 with b1|b1|b1
    all_goals rw [b1] at hx
    all_goals clear hst
    all_goals go_wp2_with fail
    all_goals go_roundw
    case rel => exact ⟨p+1,v,toks,lexInv_pass INV.out (p+1),HX,⟨by have:=htl.out;omega⟩,hA2⟩
    case measure => exact meas INV.out (lexInv_pass INV.out (p+1)) (by omega) (by omega)
    case rel => exact ⟨p+1,v,toks,lexInv_pass INV.out (p+1),HX,⟨by have:=htl.out;omega⟩,hA2⟩
    case measure => exact meas INV.out (lexInv_pass INV.out (p+1)) (by omega) (by omega)
    case rel => exact ⟨p+1,v,toks,lexInv_pass INV.out (p+1),HX,⟨by have:=htl.out;omega⟩,hA2⟩
    case measure => exact meas INV.out (lexInv_pass INV.out (p+1)) (by omega) (by omega)
   have d1:(bt s (p:Int)==32)=false:=by simp;omega
   have d2:(bt s (p:Int)==9)=false:=by simp;omega
   have d3:(bt s (p:Int)==13)=false:=by simp;omega
   have hlp:=runS_le
   by_cases b2:bt s p=35
   ·have hst:stepL s p=some (runS notNl s (s.size - p) p,none):=by unfold stepL;rw [if_neg b1,if_pos b2]
    obtain ⟨hn1,hn2⟩:=stepL_pos hlt hst
    have hA2:=Aside0.mk (hA.out.trans (ahead_pass hlt hst))
    have RUN:=Aside0.mk (fun W => run_any 47 notNl W (fun args W => enters_ Tryz.func47 (by kernel_rfl) rfl args W) (fun c W' _ _ _ => lex2_any c W') s (by omega) p hp.out)
    clear hst hlp
    generalize runS notNl s (s.size - p) p=n at hn1 hn2 hA2 RUN
    have hw:IntKind.i64.wrap ((p:Int)+(n:Int))=(p:Int)+(n:Int):=by rw [IntKind.wrap_i64];omega
    rw [b2] at hx
    go_wp2_with fail
    refine start_ (n:=6) (S:=fun w' => w'.cell? ⟨w.heap.size+1+1,0,none⟩=some (.int .i64 p)∧w'.cell? ⟨w.heap.size,0,none⟩=some (.string s)∧w'.frozen? ⟨w.heap.size+1+1,0,none⟩=false) (ds:=[5]) #[false,false,false,false,false,false] (by kernel_rfl) rfl rfl ⟨hcA,hcS,hfA⟩ (fun hHeld => ?_)
    refine take_ (i:=0) (N:=some 51) (v:=?_) (a':=?_) #[true,false,false,false,false,false] rfl rfl (by kernel_rfl) (fun _ _ _ h => h) (Or.inl ⟨by rfl,?_⟩) hHeld ?_ ?_
    rotate_left
    ·rintro w' ⟨s0,s1,s2⟩
     go_simp
     with_reducible rfl
    rotate_left
    ·simp only [Act.put,List.setIfInBounds_toArray,List.set_cons_zero,List.set_cons_succ,i64_w,i32_w]
     rfl
    refine take_ (i:=1) (N:=some 52) (v:=?_) (a':=?_) #[true,true,false,false,false,false] rfl rfl (by kernel_rfl) (fun _ _ _ h => h) (Or.inl ⟨by rfl,?_⟩) hHeld ?_ ?_
    rotate_left
    ·rintro w' ⟨s0,s1,s2⟩
     go_simp
     with_reducible rfl
    rotate_left
    ·simp only [Act.put,List.setIfInBounds_toArray,List.set_cons_zero,List.set_cons_succ,i64_w,i32_w]
     rfl
    refine take_ (i:=2) (N:=some 53) (v:=?_) (a':=?_) #[true,true,true,false,false,false] rfl rfl (by kernel_rfl) (fun _ _ _ h => h) (Or.inl ⟨by rfl,?_⟩) hHeld ?_ ?_
    rotate_left
    ·rintro w' ⟨s0,s1,s2⟩
     go_simp
     with_reducible rfl
    rotate_left
    ·simp only [Act.put,List.setIfInBounds_toArray,List.set_cons_zero,List.set_cons_succ,i64_w,i32_w]
     rfl
    refine one_ (i:=3) (N:=some 54) #[true,true,true,true,false,false] rfl rfl (by kernel_rfl) (by decide) (fun K hK => ?_)
    refine goes_ Tryz.func46 (by kernel_rfl) rfl #[.string s,.int .i64 p,.func (.func 47) #[] #[]] (by rfl) rfl rfl (by simp only [List.map_toArray,List.map_cons,List.map_nil];rfl) ?_
    with_reducible refine ((RUN.out _)).mono ?_
    rintro e w3 ⟨rfl,⟨nd,rfl⟩⟩
    refine ⟨_,rfl,?_⟩
    refine hK.out _ _ ⟨hcA,hcS,hfA⟩ (fun hHeld => ?_)
    clear hK K
    refine norm_ (a':=?_) ?_ ?_
    rotate_left
    ·show Act.put _ (some 54) _=_
     simp only [Act.put,List.setIfInBounds_toArray,List.set_cons_zero,List.set_cons_succ,i64_w,i32_w]
     rfl
    refine pure_ (i:=4) (N:=some 55) (v:=?_) (a':=?_) #[true,true,true,true,true,false] rfl rfl (by kernel_rfl) (fun _ _ _ h => h) (Or.inl ⟨by rfl,?_⟩) ?_ ?_
    rotate_left
    ·intro w'
     go_simp
     with_reducible rfl
    rotate_left
    ·simp only [Act.put,List.setIfInBounds_toArray,List.set_cons_zero,List.set_cons_succ,i64_w,i32_w]
     rfl
    refine last_ (i:=5) (N:=none) #[true,true,true,true,true,true] rfl rfl (by kernel_rfl) (by decide) (fun K hK => ?_)
    refine skip_ (w1:=?_) (by rfl) rfl ?_ ?_
    rotate_left
    ·go_simp
     rfl
    refine hK.out _ _ ?_
    clear hK K
    refine done_ (by kernel_rfl) ?_
    go_wp2_with fail
    exact ⟨⟨p+n,v,toks,lexInv_pass (lexInv_drewN INV.out _) (p+n),⟨hn2⟩,⟨by have:=htl.out;omega⟩,hA2⟩,meas INV.out (lexInv_pass (lexInv_drewN INV.out _) (p+n)) (by omega) hn2⟩
   have d4:(bt s (p:Int)==35)=false:=by simp;omega
   by_cases b3:bt s p=10
   ·have hst:stepL s p=some (1,some 4):=by unfold stepL;rw [if_neg b1,if_neg b2,if_pos b3]
    have hA2:=Aside0.mk (hA.out.trans (ahead_step hlt hst))
    have ADD:=Aside0.mk (show ∀ W,LexInv w W s p v toks→Calls Tryz.prog 45 #[.int .i64 4,.int .i64 1,.pointer (some ⟨w.heap.size+1,0,none⟩),.pointer (some ⟨w.heap.size,0,none⟩),.pointer (some ⟨w.heap.size+1+1,0,none⟩)] W (fun e w' =>∃v',e=.returned (.tuple #[])∧LexInv w w' s (p+1) v' (toks++[⟨4,s.extract p (p+1),p⟩])) from fun W hW => add_any w W s p 1 4 v toks hW (by omega) (by omega) (by have:=htl.out;omega))
    clear hst hlp
    rw [b3] at hx
    go_wp2_with ((with_reducible refine (ADD.out _ INV.out).mono ?_);rintro e w' ⟨v',rfl,hI2⟩)
    exact ⟨⟨p+1,v',_,hI2,⟨by omega⟩,⟨by have:=htl.out;simp;omega⟩,hA2⟩,meas INV.out hI2 (by omega) (by omega)⟩
   have d5:(bt s (p:Int)==10)=false:=by simp;omega
   have hLW:∀ W,LexInv w W s p v toks→LaidAt W:=fun W hW => LaidAt.of HLD.out hW.below
   have HLW:=Aside0.mk hLW
   have hLet:=letS_f (bt s p)
   have RUN:=Aside0.mk (show ∀ W,LexInv w W s p v toks→Calls Tryz.prog 46 #[.string s,.int .i64 p,.func (.func 49) #[] #[]] W fun e w' => e=.returned (.int .i64 (runS eitS s (s.size - p) p))∧Drawn0 W w' from fun W hW =>
    run_any 49 eitS W (fun args W => enters_ Tryz.func49 (by kernel_rfl) rfl args W) (fun c W' _ _ hd => lex_either.calls c _ W' (by obtain ⟨m,rfl⟩:=hd;exact LaidAt.drewN (hLW W hW)) (eitS_f c)) s (by omega) p hp.out)
   have HB:=Aside0.mk (bt_range s p)
   by_cases b4:letS (bt s p)=true
   ·have hst:stepL s p=some (runS eitS s (s.size - p) p,some 1):=by unfold stepL;rw [if_neg b1,if_neg b2,if_neg b3,if_pos b4]
    obtain ⟨hn1,hn2⟩:=stepL_pos hlt hst
    have hA2:=Aside0.mk (hA.out.trans (ahead_step hlt hst))
    rw [b4] at hLet
    have HLET:=Aside0.mk hLet
    clear hst hlp hLet hLW
    generalize runS eitS s (s.size - p) p=n at hn1 hn2 hA2 RUN
    have ADD:=Aside0.mk (show ∀ W,LexInv w W s p v toks→Calls Tryz.prog 45 #[.int .i64 1,.int .i64 n,.pointer (some ⟨w.heap.size+1,0,none⟩),.pointer (some ⟨w.heap.size,0,none⟩),.pointer (some ⟨w.heap.size+1+1,0,none⟩)] W (fun e w' =>∃v',e=.returned (.tuple #[])∧LexInv w w' s (p+n) v' (toks++[⟨1,s.extract p (p+n),p⟩])) from fun W hW => add_any w W s p n 1 v toks hW (by omega) (by omega) (by have:=htl.out;omega))
    go_wp2_with (first|((with_reducible refine (lex_letter.calls _ _ _ ?hl HLET.out).mono ?_);(case hl => exact HLW.out _ INV.out);rintro e w' ⟨rfl,⟨nd,rfl⟩⟩)|((with_reducible refine (RUN.out _ ?hl).mono ?_);(case hl => exact lexInv_drewN INV.out _);rintro e w' ⟨rfl,⟨nd2,rfl⟩⟩)|((with_reducible refine (ADD.out _ ?hl).mono ?_);(case hl => first|exact lexInv_drewN INV.out _|exact lexInv_drewN (lexInv_drewN INV.out _) _);rintro e w' ⟨v',rfl,hI2⟩))
    exact ⟨⟨p+n,v',_,hI2,⟨hn2⟩,⟨by have:=htl.out;simp;omega⟩,hA2⟩,meas INV.out hI2 (by omega) hn2⟩
   have b4f:letS (bt s p)=false:=by simpa using b4
   rw [b4f] at hLet
   have HLET:=Aside0.mk hLet
   have hDig:=dS_f (bt s p)
   by_cases b5:dS (bt s p)=true
   ·rw [b5] at hDig
    have HDIG:=Aside0.mk hDig
    have hrl:=hlp eitS s (s.size - p) p
    have NUM:=Aside0.mk (fun W (hW:LaidAt W) => num_any (s.extract p (p+runS eitS s (s.size - p) p)) (by simp;omega) W hW)
    cases hnum:numS (s.extract p (p+runS eitS s (s.size - p) p)) with
    |  some u =>
     have hst:stepL s p=some (runS eitS s (s.size - p) p,some 2):=by unfold stepL;rw [if_neg b1,if_neg b2,if_neg b3,if_neg b4,if_pos b5,hnum];rfl
     obtain ⟨hn1,hn2⟩:=stepL_pos hlt hst
     have hA2:=Aside0.mk (hA.out.trans (ahead_step hlt hst))
     rw [hnum] at NUM
     simp only [numR] at NUM
     clear hst hlp hLet hLW hDig hnum hrl
     generalize runS eitS s (s.size - p) p=n at hn1 hn2 hA2 RUN NUM
     have hw:IntKind.i64.wrap ((p:Int)+(n:Int))=(p:Int)+(n:Int):=by rw [IntKind.wrap_i64];omega
     have hT:((p:Int)+(n:Int)).toNat=p+n:=by omega
     have p2:(p:Int)≤(p:Int)+(n:Int):=by omega
     have p3:(p:Int)+(n:Int)≤(s.size:Int):=by omega
     have ADD:=Aside0.mk (show ∀ W,LexInv w W s p v toks→Calls Tryz.prog 45 #[.int .i64 2,.int .i64 n,.pointer (some ⟨w.heap.size+1,0,none⟩),.pointer (some ⟨w.heap.size,0,none⟩),.pointer (some ⟨w.heap.size+1+1,0,none⟩)] W (fun e w' =>∃v',e=.returned (.tuple #[])∧LexInv w w' s (p+n) v' (toks++[⟨2,s.extract p (p+n),p⟩])) from fun W hW => add_any w W s p n 2 v toks hW (by omega) (by omega) (by have:=htl.out;omega))
     go_wp2_with (first|((with_reducible refine (lex_letter.calls _ _ _ ?hl HLET.out).mono ?_);(case hl => exact HLW.out _ INV.out);rintro e w' ⟨rfl,⟨nd,rfl⟩⟩)|((with_reducible refine (lex_digit.calls _ _ _ ?hl HDIG.out).mono ?_);(case hl => exact HLW.out _ (lexInv_drewN INV.out _));rintro e w' ⟨rfl,⟨nd1,rfl⟩⟩)|((with_reducible refine (RUN.out _ ?hl).mono ?_);(case hl => exact lexInv_drewN INV.out _);rintro e w' ⟨rfl,⟨nd2,rfl⟩⟩)|((with_reducible refine (NUM.out _ ?hl).mono ?_);(case hl => exact HLW.out _ (lexInv_drewN INV.out _));rintro e w' ⟨rfl,hb⟩;have INV3:=Aside0.mk (lexInv_below (lexInv_drewN INV.out _) hb);clear hb;have hcS3:=(lxCell INV3.out.cS).1;have hcO3:=(lxCell INV3.out.cO).1;have hcA3:w'.cell? ⟨w.heap.size+1+1,0,none⟩=some (.int .i64 p):=(lxCell INV3.out.cA).1)|((with_reducible refine (ADD.out _ ?hl).mono ?_);(case hl => exact INV3.out);rintro e w' ⟨v',rfl,hI2⟩))
     exact ⟨⟨p+n,v',_,hI2,⟨hn2⟩,⟨by have:=htl.out;simp;omega⟩,hA2⟩,meas INV.out hI2 (by omega) hn2⟩
    |  none =>
     have hst:stepL s p=none:=by unfold stepL;rw [if_neg b1,if_neg b2,if_neg b3,if_neg b4,if_pos b5,hnum];rfl
     have hA2:=Aside0.mk (hA.out.trans (ahead_none (toks:=toks) hlt hst))
     rw [hnum] at NUM
     simp only [numR] at NUM
     have hn2:p+runS eitS s (s.size - p) p≤s.size:=by omega
     clear hst hlp hLet hLW hDig hnum hrl
     generalize runS eitS s (s.size - p) p=n at hn2 RUN NUM
     have hw:IntKind.i64.wrap ((p:Int)+(n:Int))=(p:Int)+(n:Int):=by rw [IntKind.wrap_i64];omega
     have hT:((p:Int)+(n:Int)).toNat=p+n:=by omega
     have p2:(p:Int)≤(p:Int)+(n:Int):=by omega
     have p3:(p:Int)+(n:Int)≤(s.size:Int):=by omega
     go_wp2_with (first|((with_reducible refine (lex_letter.calls _ _ _ ?hl HLET.out).mono ?_);(case hl => exact HLW.out _ INV.out);rintro e w' ⟨rfl,⟨nd,rfl⟩⟩)|((with_reducible refine (lex_digit.calls _ _ _ ?hl HDIG.out).mono ?_);(case hl => exact HLW.out _ (lexInv_drewN INV.out _));rintro e w' ⟨rfl,⟨nd1,rfl⟩⟩)|((with_reducible refine (RUN.out _ ?hl).mono ?_);(case hl => exact lexInv_drewN INV.out _);rintro e w' ⟨rfl,⟨nd2,rfl⟩⟩)|((with_reducible refine (NUM.out _ ?hl).mono ?_);(case hl => exact HLW.out _ (lexInv_drewN INV.out _));rintro e w' ⟨rfl,hb⟩;have INV3:=Aside0.mk (lexInv_below (lexInv_drewN INV.out _) hb);clear hb;have hcS3:=(lxCell INV3.out.cS).1;have hcO3:=(lxCell INV3.out.cO).1;have hcA3:w'.cell? ⟨w.heap.size+1+1,0,none⟩=some (.int .i64 p):=(lxCell INV3.out.cA).1))
     refine start_ (n:=4) (S:=fun w' => w'.cell? ⟨w.heap.size+1+1,0,none⟩=some (.int .i64 p)) (ds:=[]) #[false,false,false,false] (by kernel_rfl) rfl rfl (hcA3) (fun hHeld => ?_)
     refine pure_ (i:=1) (N:=some 2) (v:=?_) (a':=?_) #[false,true,false,false] rfl rfl (by kernel_rfl) (fun _ _ _ h => h) (Or.inl ⟨by rfl,?_⟩) ?_ ?_
     rotate_left
     ·intro w'
      go_simp
      with_reducible rfl
     rotate_left
     ·simp only [Act.put,List.setIfInBounds_toArray,List.set_cons_zero,List.set_cons_succ,i64_w,i32_w]
      rfl
     refine pure_ (i:=2) (N:=some 3) (v:=?_) (a':=?_) #[false,true,true,false] rfl rfl (by kernel_rfl) (fun _ _ _ h => h) (Or.inl ⟨by rfl,?_⟩) ?_ ?_
     rotate_left
     ·intro w'
      go_simp
      with_reducible rfl
     rotate_left
     ·simp only [Act.put,List.setIfInBounds_toArray,List.set_cons_zero,List.set_cons_succ,i64_w,i32_w]
      rfl
     refine take_ (i:=0) (N:=some 87) (v:=?_) (a':=?_) #[true,true,true,false] rfl rfl (by kernel_rfl) (fun _ _ _ h => h) (Or.inl ⟨by rfl,?_⟩) hHeld ?_ ?_
     rotate_left
     ·intro w' s0
      go_simp
      with_reducible rfl
     rotate_left
     ·simp only [Act.put,List.setIfInBounds_toArray,List.set_cons_zero,List.set_cons_succ,i64_w,i32_w]
      rfl
     refine pure_ (i:=3) (N:=some 4) (v:=?_) (a':=?_) #[true,true,true,true] rfl rfl (by kernel_rfl) (fun _ _ _ h => h) (Or.inl ⟨by rfl,?_⟩) ?_ ?_
     rotate_left
     ·intro w'
      go_simp
      with_reducible rfl
     rotate_left
     ·simp only [Act.put,List.setIfInBounds_toArray,List.set_cons_zero,List.set_cons_succ,i64_w,i32_w]
      rfl
     refine done_ (by kernel_rfl) ?_
     go_wp2_with fail
     go_ret3
     rw [HR.out,hA2.out]
     exact ⟨_,rfl,Kd.R_nil _ _ _ _ _,INV3.out.below.drew⟩
   have b5f:dS (bt s p)=false:=by simpa using b5
   rw [b5f] at hDig
   have HDIG:=Aside0.mk hDig
   have SIGN:=Aside0.mk (show ∀ W,LaidAt W→Calls Tryz.prog 52 #[.string (s.extract p s.size)] W fun e w' => e=.returned (.string (signFrom (s.extract p s.size) signsL))∧Below W.heap.size W w' from fun W hW => sign_any _ W hW)
   have hsp:stepL s p=if (signFrom (s.extract p s.size) signsL).size=0 then none else some ((signFrom (s.extract p s.size) signsL).size,some 3):=by unfold stepL;rw [if_neg b1,if_neg b2,if_neg b3,if_neg b4,if_neg b5]
   have e0:(signFrom (s.extract p s.size) signsL).toList.isEmpty=decide ((signFrom (s.extract p s.size) signsL).size=0):=by
    rw [← decide_eq_emptyBytes]
    congr 1
    rw [eq_iff_iff]
    constructor
    ·intro h;rw [h];rfl
    ·intro h;rw [Lib.size_eq] at h;apply ByteArray.ext;exact Array.eq_empty_of_size_eq_zero h
   have p2:(p:Int)≤(s.size:Int):=by omega
   clear hlp hLet hLW hDig
   by_cases hz:(signFrom (s.extract p s.size) signsL).size=0
   ·rw [if_pos hz] at hsp
    have hA2:=Aside0.mk (hA.out.trans (ahead_none (toks:=toks) hlt hsp))
    have hemp:=e0.trans (decide_eq_true hz)
    clear hsp e0 hz
    generalize signFrom (s.extract p s.size) signsL=x at hemp SIGN
    go_wp2_with (first|((with_reducible refine (lex_letter.calls _ _ _ ?hl HLET.out).mono ?_);(case hl => exact HLW.out _ INV.out);rintro e w' ⟨rfl,⟨nd,rfl⟩⟩)|((with_reducible refine (lex_digit.calls _ _ _ ?hl HDIG.out).mono ?_);(case hl => exact HLW.out _ (lexInv_drewN INV.out _));rintro e w' ⟨rfl,⟨nd1,rfl⟩⟩)|((with_reducible refine (SIGN.out _ ?hl).mono ?_);(case hl => exact HLW.out _ (lexInv_drewN INV.out _));rintro e w' ⟨rfl,hb⟩;have INV3:=Aside0.mk (lexInv_below (lexInv_drewN INV.out _) hb);clear hb;have hcS3:=(lxCell INV3.out.cS).1;have hcO3:=(lxCell INV3.out.cO).1;have hcA3:w'.cell? ⟨w.heap.size+1+1,0,none⟩=some (.int .i64 p):=(lxCell INV3.out.cA).1))
    refine start_ (n:=4) (S:=fun w' => w'.cell? ⟨w.heap.size+1+1,0,none⟩=some (.int .i64 p)) (ds:=[]) #[false,false,false,false] (by kernel_rfl) rfl rfl (hcA3) (fun hHeld => ?_)
    refine pure_ (i:=1) (N:=some 2) (v:=?_) (a':=?_) #[false,true,false,false] rfl rfl (by kernel_rfl) (fun _ _ _ h => h) (Or.inl ⟨by rfl,?_⟩) ?_ ?_
    rotate_left
    ·intro w'
     go_simp
     with_reducible rfl
    rotate_left
    ·simp only [Act.put,List.setIfInBounds_toArray,List.set_cons_zero,List.set_cons_succ,i64_w,i32_w]
     rfl
    refine pure_ (i:=2) (N:=some 3) (v:=?_) (a':=?_) #[false,true,true,false] rfl rfl (by kernel_rfl) (fun _ _ _ h => h) (Or.inl ⟨by rfl,?_⟩) ?_ ?_
    rotate_left
    ·intro w'
     go_simp
     with_reducible rfl
    rotate_left
    ·simp only [Act.put,List.setIfInBounds_toArray,List.set_cons_zero,List.set_cons_succ,i64_w,i32_w]
     rfl
    refine take_ (i:=0) (N:=some 30) (v:=?_) (a':=?_) #[true,true,true,false] rfl rfl (by kernel_rfl) (fun _ _ _ h => h) (Or.inl ⟨by rfl,?_⟩) hHeld ?_ ?_
    rotate_left
    ·intro w' s0
     go_simp
     with_reducible rfl
    rotate_left
    ·simp only [Act.put,List.setIfInBounds_toArray,List.set_cons_zero,List.set_cons_succ,i64_w,i32_w]
     rfl
    refine pure_ (i:=3) (N:=some 4) (v:=?_) (a':=?_) #[true,true,true,true] rfl rfl (by kernel_rfl) (fun _ _ _ h => h) (Or.inl ⟨by rfl,?_⟩) ?_ ?_
    rotate_left
    ·intro w'
     go_simp
     with_reducible rfl
    rotate_left
    ·simp only [Act.put,List.setIfInBounds_toArray,List.set_cons_zero,List.set_cons_succ,i64_w,i32_w]
     rfl
    refine done_ (by kernel_rfl) ?_
    go_wp2_with fail
    go_ret3
    rw [HR.out,hA2.out]
    exact ⟨_,rfl,Kd.R_nil _ _ _ _ _,INV3.out.below.drew⟩
   ·rw [if_neg hz] at hsp
    obtain ⟨hn1,hn2⟩:=stepL_pos hlt hsp
    have hA2:=Aside0.mk (hA.out.trans (ahead_step hlt hsp))
    have hemp:=e0.trans (decide_eq_false hz)
    clear hsp e0 hz
    generalize signFrom (s.extract p s.size) signsL=x at hemp SIGN hn1 hn2 hA2
    have ADD:=Aside0.mk (show ∀ W,LexInv w W s p v toks→Calls Tryz.prog 45 #[.int .i64 3,.int .i64 x.size,.pointer (some ⟨w.heap.size+1,0,none⟩),.pointer (some ⟨w.heap.size,0,none⟩),.pointer (some ⟨w.heap.size+1+1,0,none⟩)] W (fun e w' =>∃v',e=.returned (.tuple #[])∧LexInv w w' s (p+x.size) v' (toks++[⟨3,s.extract p (p+x.size),p⟩])) from fun W hW => add_any w W s p x.size 3 v toks hW (by omega) (by omega) (by have:=htl.out;omega))
    go_wp2_with (first|((with_reducible refine (lex_letter.calls _ _ _ ?hl HLET.out).mono ?_);(case hl => exact HLW.out _ INV.out);rintro e w' ⟨rfl,⟨nd,rfl⟩⟩)|((with_reducible refine (lex_digit.calls _ _ _ ?hl HDIG.out).mono ?_);(case hl => exact HLW.out _ (lexInv_drewN INV.out _));rintro e w' ⟨rfl,⟨nd1,rfl⟩⟩)|((with_reducible refine (SIGN.out _ ?hl).mono ?_);(case hl => exact HLW.out _ (lexInv_drewN INV.out _));rintro e w' ⟨rfl,hb⟩;have INV3:=Aside0.mk (lexInv_below (lexInv_drewN INV.out _) hb);clear hb;have hcS3:=(lxCell INV3.out.cS).1;have hcO3:=(lxCell INV3.out.cO).1;have hcA3:w'.cell? ⟨w.heap.size+1+1,0,none⟩=some (.int .i64 p):=(lxCell INV3.out.cA).1)|((with_reducible refine (ADD.out _ ?hl).mono ?_);(case hl => exact INV3.out);rintro e w' ⟨v',rfl,hI2⟩))
    exact ⟨⟨p+x.size,v',_,hI2,⟨hn2⟩,⟨by have:=htl.out;simp;omega⟩,hA2⟩,meas INV.out hI2 (by omega) hn2⟩
  ·have c1:decide ((p:Int)<(s.size:Int))=false:=decide_eq_false (by omega)
   have hps:p=s.size:=by omega
   have hA2:=Aside0.mk (show lexR s (ahead [] (LX s 0))=(toks++[⟨0,s.extract p (p+0),p⟩],0,0) by rw [hA.out,LX_end s (by omega)];simp [ahead,lexR,hps])
   have ADD:=Aside0.mk (show ∀ W,LexInv w W s p v toks→Calls Tryz.prog 45 #[.int .i64 0,.int .i64 0,.pointer (some ⟨w.heap.size+1,0,none⟩),.pointer (some ⟨w.heap.size,0,none⟩),.pointer (some ⟨w.heap.size+1+1,0,none⟩)] W (fun e w' =>∃v',e=.returned (.tuple #[])∧LexInv w w' s (p+0) v' (toks++[⟨0,s.extract p (p+0),p⟩])) from fun W hW => add_any w W s p 0 0 v toks hW (by omega) (by omega) (by have:=htl.out;omega))
   clear hps
   go_wp2_with ((with_reducible refine (ADD.out _ INV.out).mono ?_);rintro e w' ⟨v',rfl,hI2⟩;have hcO2:=(lxCell hI2.cO).1)
   go_ret3
   rw [HR.out,hA2.out]
   exact ⟨v',rfl,tok_R (own_weaken hI2.row (by omega)),hI2.below⟩

def lex_Lex.f (a0:ByteArray):Option (List S74 × Int × Int):=some (lexS a0)
theorem lex_Lex.calls (a0:ByteArray) (r1:List (S74)) (r2:Int) (r3:Int) (w:World) (hLd:LaidAt w) (h:lex_Lex.f a0=some (r1,r2,r3)) :
  Calls Tryz.prog 29 #[.string a0] w fun e w' =>∃v0_:Value,e=.returned (.tuple #[v0_,.int .i64 r2,.int .i64 r3])∧Kd.R k74 74 w' w.heap.size (fun _ => True) v0_ r1∧Below w.heap.size w w':=by
 have e:=Option.some.inj h
 refine (lex_any a0 w hLd).mono fun e' w' h1 => ?_
 rw [e] at h1
 exact h1

/-! ### parse_Reserved: function 60 -/
def parse_Reserved.f (k:Nat) (a0:ByteArray):Option (Bool):=(slices_Contains_string_string.f k (([(⟨#[105,102]⟩:ByteArray),(⟨#[97,110,100]⟩:ByteArray),(⟨#[111,114]⟩:ByteArray),(⟨#[110,111,116]⟩:ByteArray)]:List ByteArray)) a0).bind fun t127 => (some t127)
theorem parse_Reserved.mono:∀ a0 k,LeO (parse_Reserved.f k a0) (parse_Reserved.f (k+1) a0):=by
 intro a0 k
 unfold parse_Reserved.f
 repeat' first
   |  (with_reducible exact slices_Contains_string_string.mono _ _ _)
   |  (with_reducible exact LeO.refl _)
   |  (with_reducible exact LeO.none _)
   |  (with_reducible refine LeO.ite ?_ ?_)
   |  (with_reducible refine LeO.bind ?_ (fun _ => ?_))
   |  exact slices_Contains_string_string.mono _ _ _
   |  exact LeO.none _
   |  refine LeO.ite ?_ ?_
   |  refine LeO.bind ?_ (fun _ => ?_)
set_option maxHeartbeats 8000000 in
set_option maxRecDepth 100000 in
theorem parse_Reserved.calls (k:Nat) (a0:ByteArray) (r:Bool) (w:World) (hLd:LaidAt w) (h:parse_Reserved.f k a0=some r) :
  Calls Tryz.prog 60 #[.string a0] w fun e w' => e=.returned (.bool r)∧Below w.heap.size w w':=by
 have HLD:=Aside0.mk hLd
 clear hLd
 have HB:=Aside0.mk (Below.refl w.heap.size w)
 have H:((slices_Contains_string_string.f k (([(⟨#[105,102]⟩:ByteArray),(⟨#[97,110,100]⟩:ByteArray),(⟨#[111,114]⟩:ByteArray),(⟨#[110,111,116]⟩:ByteArray)]:List ByteArray)) a0).bind fun t127 => (some t127))=some r:=h
 clear h
 obtain ⟨y124,hy124⟩:∃ y_:List ByteArray,y_=(([(⟨#[105,102]⟩:ByteArray),(⟨#[97,110,100]⟩:ByteArray),(⟨#[111,114]⟩:ByteArray),(⟨#[110,111,116]⟩:ByteArray)]:List ByteArray)):=⟨_,rfl⟩
 replace H:((slices_Contains_string_string.f k y124 a0).bind fun t127 => (some t127))=some r:=by first|(rw [hy124];with_reducible exact H)|(have H2_:=(Option.bind_some _ _).symm.trans H;rw [hy124];with_reducible exact H2_)|(have H2_:=(Option.bind_some _ _).symm.trans H;with_reducible exact H2_)|with_reducible exact H|(rw [hy124];exact H)|exact H
 have Ny124:=Aside0.mk hy124
 clear hy124
 replace H:=Option.bind_eq_some_iff.mp H
 obtain ⟨t127,A20,H⟩:=H
 replace H:(some t127)=some r:=H
 have A2:=Aside0.mk A20
 clear A20
 obtain rfl:=Option.some.inj H
 go_enter Tryz.func60,Tryz.ntmps60
 go_wp2_with (first|((with_reducible refine gate_dst (N:=3) rfl ?_);refine Kd.R_lit Kd.string _ 9 ?hg (N:=3) ?hd (xs:=([(⟨#[105,102]⟩:ByteArray),(⟨#[97,110,100]⟩:ByteArray),(⟨#[111,114]⟩:ByteArray),(⟨#[110,111,116]⟩:ByteArray)]:List ByteArray)) (inner:=[.string (⟨#[105,102]⟩:ByteArray),.string (⟨#[97,110,100]⟩:ByteArray),.string (⟨#[111,114]⟩:ByteArray),.string (⟨#[110,111,116]⟩:ByteArray)]) (ok:=fun _ => True) (okp:=fun _ => True) ?hr ?hp (fun _ hk => hk) trivial (Below.refl _ _) (Nat.le_refl _) (by simp) ?_;(case hd => rfl);(case hg => rfl);(case hr => first|(go_simp;done)|(go_simp;rfl));(case hp => exact (Reps.one (show Kd.M Kd.string _ _ _ (⟨#[105,102]⟩:ByteArray) [.string (⟨#[105,102]⟩:ByteArray)] from rfl) (Reps.one (show Kd.M Kd.string _ _ _ (⟨#[97,110,100]⟩:ByteArray) [.string (⟨#[97,110,100]⟩:ByteArray)] from rfl) (Reps.one (show Kd.M Kd.string _ _ _ (⟨#[111,114]⟩:ByteArray) [.string (⟨#[111,114]⟩:ByteArray)] from rfl) (Reps.one (show Kd.M Kd.string _ _ _ (⟨#[110,111,116]⟩:ByteArray) [.string (⟨#[110,111,116]⟩:ByteArray)] from rfl) (Reps.none _ _))))));intro v125 w3 ho4 hb hg_ hnew_;clear hg_ hnew_;(first|rw [← Ny124.out] at ho4|(simp only [Int.reduceToNat] at ho4;rw [← Ny124.out] at ho4));have n0_:=Aside0.mk (Kd.R_lower ho4 (below_size (by repeat (with_reducible first|exact HB.out|apply below_alloc|apply pw_below_drewN|apply below_drew1))));have n1_:=Aside0.mk (below_step (by repeat (with_reducible first|exact HB.out|apply below_alloc|apply pw_below_drewN|apply below_drew1)) hb);clear HB;have HO126:=n0_;have HB:=n1_;clear n0_ n1_;clear hb ho4;obtain ⟨Ao5,co5,eo5⟩:=Kd.R_slice HO126.out;subst eo5)|((with_reducible refine gate_callee (f:=80) rfl ?_);refine goesL_ (some 5) rfl rfl Tryz.func80 (by kernel_rfl) rfl #[.slice Ao5 y124.length co5,.string a0] rfl (by (try simp only [List.map_toArray,List.map_cons,List.map_nil]);first|done|rfl|(simp only [List.length_drop,List.length_take];rfl)) ?_;(with_reducible refine (slices_Contains_string_string.calls k _ _ y124 a0 t127 _ ?side1 ?side2 ?side3 A2.out).mono ?_);(case side1 => repeat (first|exact (Kd.R_reads' HO126.out).2.2|(with_reducible refine Kd.C_alloc ?_ _)|(with_reducible refine Kd.C_drewN ?_ _)|(with_reducible refine Kd.C_drew ?_)));(case side2 => exact (Kd.R_reads' HO126.out).2.1);(case side3 => exact LaidAt.of HLD.out (by repeat (with_reducible first|exact HB.out|apply below_alloc|apply pw_below_drewN|apply below_drew1)));rintro e w' ⟨rfl,⟨nd,rfl⟩⟩;refine ⟨_,rfl,?_⟩))
 go_ret
 exact ⟨by first|rfl|(simp [errW_none,errW_some]<;>rfl)|(simp [*,errW_none,errW_some]<;>rfl),by repeat (with_reducible first|exact HB.out|apply below_alloc|apply pw_below_drewN|apply below_drew1)⟩

/-! ### show_word: function 32 -/
def show_word.f (k:Nat) (a0:ByteArray):Option (Bool):=(lex_Lex.f a0).bind fun bt128 => (if bt128.2.1=0 then (if (bt128.1.length:Int)=2 then (if 0<(bt128.1.length:Int) then (if ((rd_T74 bt128.1 0).f0)=1 then (if ((rd_T74 bt128.1 0).f1).toList=a0.toList then ((parse_Reserved.f k a0).bind fun t135 => (some (!t135))) else (some false)) else (some false)) else (none)) else (some false)) else (some false))
theorem show_word.mono:∀ a0 k,LeO (show_word.f k a0) (show_word.f (k+1) a0):=by
 intro a0 k
 unfold show_word.f
 repeat' first
   |  (with_reducible exact parse_Reserved.mono _ _)
   |  (with_reducible exact LeO.refl _)
   |  (with_reducible exact LeO.none _)
   |  (with_reducible refine LeO.ite ?_ ?_)
   |  (with_reducible refine LeO.bind ?_ (fun _ => ?_))
   |  exact parse_Reserved.mono _ _
   |  exact LeO.none _
   |  refine LeO.ite ?_ ?_
   |  refine LeO.bind ?_ (fun _ => ?_)
set_option maxHeartbeats 8000000 in
set_option maxRecDepth 100000 in
theorem show_word.calls (k:Nat) (a0:ByteArray) (r:Bool) (w:World) (hLd:LaidAt w) (h:show_word.f k a0=some r) :
  Calls Tryz.prog 32 #[.string a0] w fun e w' => e=.returned (.bool r)∧Below w.heap.size w w':=by
 have HLD:=Aside0.mk hLd
 clear hLd
 have HB:=Aside0.mk (Below.refl w.heap.size w)
 have H:((lex_Lex.f a0).bind fun bt128 => (if bt128.2.1=0 then (if (bt128.1.length:Int)=2 then (if 0<(bt128.1.length:Int) then (if ((rd_T74 bt128.1 0).f0)=1 then (if ((rd_T74 bt128.1 0).f1).toList=a0.toList then ((parse_Reserved.f k a0).bind fun t135 => (some (!t135))) else (some false)) else (some false)) else (none)) else (some false)) else (some false)))=some r:=h
 clear h
 replace H:=Option.bind_eq_some_iff.mp H
 obtain ⟨⟨t128,t129,t130⟩,A20,H⟩:=H
 replace H:(if t129=0 then (if (t128.length:Int)=2 then (if 0<(t128.length:Int) then (if ((rd_T74 t128 0).f0)=1 then (if ((rd_T74 t128 0).f1).toList=a0.toList then ((parse_Reserved.f k a0).bind fun t135 => (some (!t135))) else (some false)) else (some false)) else (none)) else (some false)) else (some false))=some r:=H
 have A2:=Aside0.mk A20
 clear A20
 by_cases c3:t129=0
 ·rw [if_pos c3] at H
  have c3b0:(t129==0)=true:=beq_iff_eq.mpr c3
  have c3b1:(t129 != 0)=false:=bne_eq_false_iff_eq.mpr c3
  clear c3
  by_cases c4:(t128.length:Int)=2
  ·rw [if_pos c4] at H
   have c4b0:((t128.length:Int)==2)=true:=beq_iff_eq.mpr c4
   have c4b1:((t128.length:Int) != 2)=false:=bne_eq_false_iff_eq.mpr c4
   clear c4
   by_cases c5:0<(t128.length:Int)
   ·rw [if_pos c5] at H
    have c5b0:decide (0<(t128.length:Int))=true:=decide_eq_true c5
    have c5b1:decide (0<t128.length)=true:=decide_eq_true (by omega)
    clear c5
    by_cases c6:((rd_T74 t128 0).f0)=1
    ·rw [if_pos c6] at H
     have c6b0:(((rd_T74 t128 0).f0)==1)=true:=beq_iff_eq.mpr c6
     have c6b1:(((rd_T74 t128 0).f0) != 1)=false:=bne_eq_false_iff_eq.mpr c6
     clear c6
     by_cases c7:((rd_T74 t128 0).f1).toList=a0.toList
     ·rw [if_pos c7] at H
      have c7b0:(((rd_T74 t128 0).f1).toList==a0.toList)=true:=beq_iff_eq.mpr c7
      have c7b1:(((rd_T74 t128 0).f1).toList != a0.toList)=false:=bne_eq_false_iff_eq.mpr c7
      clear c7
      replace H:=Option.bind_eq_some_iff.mp H
      obtain ⟨t135,A80,H⟩:=H
      replace H:(some (!t135))=some r:=H
      have A8:=Aside0.mk A80
      clear A80
      obtain rfl:=Option.some.inj H
      go_enter Tryz.func32,Tryz.ntmps32
      go_wp2_with (first|((with_reducible refine gate_callee (f:=29) rfl ?_);refine goesL_ (some 8) rfl rfl Tryz.func29 (by kernel_rfl) rfl #[.string a0] rfl (by (try simp only [List.map_toArray,List.map_cons,List.map_nil]);first|done|rfl|(simp only [List.length_drop,List.length_take];rfl)) ?_;(with_reducible refine (lex_Lex.calls a0 t128 t129 t130 _ ?side1 A2.out).mono ?_);(case side1 => exact LaidAt.of HLD.out (by repeat (with_reducible first|exact HB.out|apply below_alloc|apply pw_below_drewN|apply below_drew1)));rintro e w9 ⟨v131,rfl,ho0,hb⟩;refine ⟨_,rfl,?_⟩;have n0_:=Aside0.mk (Kd.R_lower ho0 (below_size (by repeat (with_reducible first|exact HB.out|apply below_alloc|apply pw_below_drewN|apply below_drew1))));have n1_:=Aside0.mk (below_step (by repeat (with_reducible first|exact HB.out|apply below_alloc|apply pw_below_drewN|apply below_drew1)) hb);clear HB;have HO132:=n0_;have HB:=n1_;clear n0_ n1_;(try clear hb);(try clear hb2);(try clear hk);(try clear hi);(try clear ho0);obtain ⟨Ao10,co10,eo10⟩:=Kd.R_slice HO132.out;subst eo10;have p133:0≤(0:Int):=(by omega);have q133:0<(t128.length:Int):=of_decide_eq_true (by first|(with_reducible assumption)|assumption);obtain ⟨ad133,e133,hx133_0,hx133_1,hx133_2⟩:=at_T74 (Kd.R_reads' HO132.out).2.2 0 p133 q133;cases e133;have qi133:(0<t128.length)=True:=eq_true (by omega);(try rw [show ((0:Int)).toNat=0 from rfl] at hx133_0);(try rw [show 0 * 3=0 from rfl] at hx133_0);(try rw [Addr.add_zero'] at hx133_0);(try rw [show ((0:Int)).toNat=0 from rfl] at hx133_1);(try rw [show 0 * 3=0 from rfl] at hx133_1);(try rw [Addr.add_zero'] at hx133_1);(try rw [show ((0:Int)).toNat=0 from rfl] at hx133_2);(try rw [show 0 * 3=0 from rfl] at hx133_2);(try rw [Addr.add_zero'] at hx133_2);replace p133:=eq_true p133;replace q133:=eq_true q133;have p134:0≤(0:Int):=(by omega);have q134:0<(t128.length:Int):=of_decide_eq_true (by first|(with_reducible assumption)|assumption);obtain ⟨ad134,e134,hx134_0,hx134_1,hx134_2⟩:=at_T74 (Kd.R_reads' HO132.out).2.2 0 p134 q134;obtain rfl:ad133=ad134:=(by injection e134);have qi134:(0<t128.length)=True:=eq_true (by omega);(try rw [show ((0:Int)).toNat=0 from rfl] at hx134_0);(try rw [show 0 * 3=0 from rfl] at hx134_0);(try rw [Addr.add_zero'] at hx134_0);(try rw [show ((0:Int)).toNat=0 from rfl] at hx134_1);(try rw [show 0 * 3=0 from rfl] at hx134_1);(try rw [Addr.add_zero'] at hx134_1);(try rw [show ((0:Int)).toNat=0 from rfl] at hx134_2);(try rw [show 0 * 3=0 from rfl] at hx134_2);(try rw [Addr.add_zero'] at hx134_2);replace p134:=eq_true p134;replace q134:=eq_true q134)|(go_at_call 60;(with_reducible refine (parse_Reserved.calls k a0 t135 _ ?side1 A8.out).mono ?_);(case side1 => exact LaidAt.of HLD.out (by repeat (with_reducible first|exact HB.out|apply below_alloc|apply pw_below_drewN|apply below_drew1)));rintro e w11 ⟨rfl,hb⟩;have n0_:=Aside0.mk (Kd.R_below (by (with_reducible repeat (first|apply Kd.R_alloc|apply Kd.R_drewN|apply Kd.R_drew));exact HO132.out) hb);have n1_:=Aside0.mk (below_step (by repeat (with_reducible first|exact HB.out|apply below_alloc|apply pw_below_drewN|apply below_drew1)) hb);clear HO132;clear HB;have HO132:=n0_;have HB:=n1_;clear n0_ n1_;(try clear hb);(try clear hb2);(try clear hk);(try clear hi)))
      go_ret
      exact ⟨by first|rfl|(simp [errW_none,errW_some]<;>rfl)|(simp [*,errW_none,errW_some]<;>rfl),by repeat (with_reducible first|exact HB.out|apply below_alloc|apply pw_below_drewN|apply below_drew1)⟩
     ·rw [if_neg c7] at H
      have c7b0:(((rd_T74 t128 0).f1).toList==a0.toList)=false:=beq_eq_false_iff_ne.mpr c7
      have c7b1:(((rd_T74 t128 0).f1).toList != a0.toList)=true:=bne_iff_ne.mpr c7
      obtain rfl:=Option.some.inj H
      go_enter Tryz.func32,Tryz.ntmps32
      go_wp2_with (first|((with_reducible refine gate_callee (f:=29) rfl ?_);refine goesL_ (some 8) rfl rfl Tryz.func29 (by kernel_rfl) rfl #[.string a0] rfl (by (try simp only [List.map_toArray,List.map_cons,List.map_nil]);first|done|rfl|(simp only [List.length_drop,List.length_take];rfl)) ?_;(with_reducible refine (lex_Lex.calls a0 t128 t129 t130 _ ?side1 A2.out).mono ?_);(case side1 => exact LaidAt.of HLD.out (by repeat (with_reducible first|exact HB.out|apply below_alloc|apply pw_below_drewN|apply below_drew1)));rintro e w12 ⟨v131,rfl,ho0,hb⟩;refine ⟨_,rfl,?_⟩;have n0_:=Aside0.mk (Kd.R_lower ho0 (below_size (by repeat (with_reducible first|exact HB.out|apply below_alloc|apply pw_below_drewN|apply below_drew1))));have n1_:=Aside0.mk (below_step (by repeat (with_reducible first|exact HB.out|apply below_alloc|apply pw_below_drewN|apply below_drew1)) hb);clear HB;have HO132:=n0_;have HB:=n1_;clear n0_ n1_;(try clear hb);(try clear hb2);(try clear hk);(try clear hi);(try clear ho0);obtain ⟨Ao13,co13,eo13⟩:=Kd.R_slice HO132.out;subst eo13;have p133:0≤(0:Int):=(by omega);have q133:0<(t128.length:Int):=of_decide_eq_true (by first|(with_reducible assumption)|assumption);obtain ⟨ad133,e133,hx133_0,hx133_1,hx133_2⟩:=at_T74 (Kd.R_reads' HO132.out).2.2 0 p133 q133;cases e133;have qi133:(0<t128.length)=True:=eq_true (by omega);(try rw [show ((0:Int)).toNat=0 from rfl] at hx133_0);(try rw [show 0 * 3=0 from rfl] at hx133_0);(try rw [Addr.add_zero'] at hx133_0);(try rw [show ((0:Int)).toNat=0 from rfl] at hx133_1);(try rw [show 0 * 3=0 from rfl] at hx133_1);(try rw [Addr.add_zero'] at hx133_1);(try rw [show ((0:Int)).toNat=0 from rfl] at hx133_2);(try rw [show 0 * 3=0 from rfl] at hx133_2);(try rw [Addr.add_zero'] at hx133_2);replace p133:=eq_true p133;replace q133:=eq_true q133;have p134:0≤(0:Int):=(by omega);have q134:0<(t128.length:Int):=of_decide_eq_true (by first|(with_reducible assumption)|assumption);obtain ⟨ad134,e134,hx134_0,hx134_1,hx134_2⟩:=at_T74 (Kd.R_reads' HO132.out).2.2 0 p134 q134;obtain rfl:ad133=ad134:=(by injection e134);have qi134:(0<t128.length)=True:=eq_true (by omega);(try rw [show ((0:Int)).toNat=0 from rfl] at hx134_0);(try rw [show 0 * 3=0 from rfl] at hx134_0);(try rw [Addr.add_zero'] at hx134_0);(try rw [show ((0:Int)).toNat=0 from rfl] at hx134_1);(try rw [show 0 * 3=0 from rfl] at hx134_1);(try rw [Addr.add_zero'] at hx134_1);(try rw [show ((0:Int)).toNat=0 from rfl] at hx134_2);(try rw [show 0 * 3=0 from rfl] at hx134_2);(try rw [Addr.add_zero'] at hx134_2);replace p134:=eq_true p134;replace q134:=eq_true q134))
      go_ret
      exact ⟨by first|rfl|(simp [errW_none,errW_some]<;>rfl)|(simp [*,errW_none,errW_some]<;>rfl),by repeat (with_reducible first|exact HB.out|apply below_alloc|apply pw_below_drewN|apply below_drew1)⟩
    ·rw [if_neg c6] at H
     have c6b0:(((rd_T74 t128 0).f0)==1)=false:=beq_eq_false_iff_ne.mpr c6
     have c6b1:(((rd_T74 t128 0).f0) != 1)=true:=bne_iff_ne.mpr c6
     obtain rfl:=Option.some.inj H
     go_enter Tryz.func32,Tryz.ntmps32
     go_wp2_with (first|((with_reducible refine gate_callee (f:=29) rfl ?_);refine goesL_ (some 8) rfl rfl Tryz.func29 (by kernel_rfl) rfl #[.string a0] rfl (by (try simp only [List.map_toArray,List.map_cons,List.map_nil]);first|done|rfl|(simp only [List.length_drop,List.length_take];rfl)) ?_;(with_reducible refine (lex_Lex.calls a0 t128 t129 t130 _ ?side1 A2.out).mono ?_);(case side1 => exact LaidAt.of HLD.out (by repeat (with_reducible first|exact HB.out|apply below_alloc|apply pw_below_drewN|apply below_drew1)));rintro e w14 ⟨v131,rfl,ho0,hb⟩;refine ⟨_,rfl,?_⟩;have n0_:=Aside0.mk (Kd.R_lower ho0 (below_size (by repeat (with_reducible first|exact HB.out|apply below_alloc|apply pw_below_drewN|apply below_drew1))));have n1_:=Aside0.mk (below_step (by repeat (with_reducible first|exact HB.out|apply below_alloc|apply pw_below_drewN|apply below_drew1)) hb);clear HB;have HO132:=n0_;have HB:=n1_;clear n0_ n1_;(try clear hb);(try clear hb2);(try clear hk);(try clear hi);(try clear ho0);obtain ⟨Ao15,co15,eo15⟩:=Kd.R_slice HO132.out;subst eo15;have p133:0≤(0:Int):=(by omega);have q133:0<(t128.length:Int):=of_decide_eq_true (by first|(with_reducible assumption)|assumption);obtain ⟨ad133,e133,hx133_0,hx133_1,hx133_2⟩:=at_T74 (Kd.R_reads' HO132.out).2.2 0 p133 q133;cases e133;have qi133:(0<t128.length)=True:=eq_true (by omega);(try rw [show ((0:Int)).toNat=0 from rfl] at hx133_0);(try rw [show 0 * 3=0 from rfl] at hx133_0);(try rw [Addr.add_zero'] at hx133_0);(try rw [show ((0:Int)).toNat=0 from rfl] at hx133_1);(try rw [show 0 * 3=0 from rfl] at hx133_1);(try rw [Addr.add_zero'] at hx133_1);(try rw [show ((0:Int)).toNat=0 from rfl] at hx133_2);(try rw [show 0 * 3=0 from rfl] at hx133_2);(try rw [Addr.add_zero'] at hx133_2);replace p133:=eq_true p133;replace q133:=eq_true q133))
     go_ret
     exact ⟨by first|rfl|(simp [errW_none,errW_some]<;>rfl)|(simp [*,errW_none,errW_some]<;>rfl),by repeat (with_reducible first|exact HB.out|apply below_alloc|apply pw_below_drewN|apply below_drew1)⟩
   ·rw [if_neg c5] at H
    exact absurd H (by simp)
  ·rw [if_neg c4] at H
   have c4b0:((t128.length:Int)==2)=false:=beq_eq_false_iff_ne.mpr c4
   have c4b1:((t128.length:Int) != 2)=true:=bne_iff_ne.mpr c4
   obtain rfl:=Option.some.inj H
   go_enter Tryz.func32,Tryz.ntmps32
   go_wp2_with (first|((with_reducible refine gate_callee (f:=29) rfl ?_);refine goesL_ (some 8) rfl rfl Tryz.func29 (by kernel_rfl) rfl #[.string a0] rfl (by (try simp only [List.map_toArray,List.map_cons,List.map_nil]);first|done|rfl|(simp only [List.length_drop,List.length_take];rfl)) ?_;(with_reducible refine (lex_Lex.calls a0 t128 t129 t130 _ ?side1 A2.out).mono ?_);(case side1 => exact LaidAt.of HLD.out (by repeat (with_reducible first|exact HB.out|apply below_alloc|apply pw_below_drewN|apply below_drew1)));rintro e w16 ⟨v131,rfl,ho0,hb⟩;refine ⟨_,rfl,?_⟩;have n0_:=Aside0.mk (Kd.R_lower ho0 (below_size (by repeat (with_reducible first|exact HB.out|apply below_alloc|apply pw_below_drewN|apply below_drew1))));have n1_:=Aside0.mk (below_step (by repeat (with_reducible first|exact HB.out|apply below_alloc|apply pw_below_drewN|apply below_drew1)) hb);clear HB;have HO132:=n0_;have HB:=n1_;clear n0_ n1_;(try clear hb);(try clear hb2);(try clear hk);(try clear hi);(try clear ho0);obtain ⟨Ao17,co17,eo17⟩:=Kd.R_slice HO132.out;subst eo17))
   go_ret
   exact ⟨by first|rfl|(simp [errW_none,errW_some]<;>rfl)|(simp [*,errW_none,errW_some]<;>rfl),by repeat (with_reducible first|exact HB.out|apply below_alloc|apply pw_below_drewN|apply below_drew1)⟩
 ·rw [if_neg c3] at H
  have c3b0:(t129==0)=false:=beq_eq_false_iff_ne.mpr c3
  have c3b1:(t129 != 0)=true:=bne_iff_ne.mpr c3
  obtain rfl:=Option.some.inj H
  go_enter Tryz.func32,Tryz.ntmps32
  go_wp2_with (first|((with_reducible refine gate_callee (f:=29) rfl ?_);refine goesL_ (some 8) rfl rfl Tryz.func29 (by kernel_rfl) rfl #[.string a0] rfl (by (try simp only [List.map_toArray,List.map_cons,List.map_nil]);first|done|rfl|(simp only [List.length_drop,List.length_take];rfl)) ?_;(with_reducible refine (lex_Lex.calls a0 t128 t129 t130 _ ?side1 A2.out).mono ?_);(case side1 => exact LaidAt.of HLD.out (by repeat (with_reducible first|exact HB.out|apply below_alloc|apply pw_below_drewN|apply below_drew1)));rintro e w18 ⟨v131,rfl,ho0,hb⟩;refine ⟨_,rfl,?_⟩;have n0_:=Aside0.mk (Kd.R_lower ho0 (below_size (by repeat (with_reducible first|exact HB.out|apply below_alloc|apply pw_below_drewN|apply below_drew1))));have n1_:=Aside0.mk (below_step (by repeat (with_reducible first|exact HB.out|apply below_alloc|apply pw_below_drewN|apply below_drew1)) hb);clear HB;have HO132:=n0_;have HB:=n1_;clear n0_ n1_;(try clear hb);(try clear hb2);(try clear hk);(try clear hi);(try clear ho0)))
  go_ret
  exact ⟨by first|rfl|(simp [errW_none,errW_some]<;>rfl)|(simp [*,errW_none,errW_some]<;>rfl),by repeat (with_reducible first|exact HB.out|apply below_alloc|apply pw_below_drewN|apply below_drew1)⟩

/-! ### show_action: function 34 -/
def show_action.f (a0:ByteArray) (a1:Int):Option (ByteArray):=if a1=0 then (some a0) else ((show_number.f a1).bind fun t136 => ((show_join.f (⟨#[32]⟩:ByteArray) (([a0,t136]:List ByteArray))).bind fun t140 => (some t140)))
set_option maxHeartbeats 8000000 in
set_option maxRecDepth 100000 in
theorem show_action.calls (a0:ByteArray) (a1:Int) (r:ByteArray) (w:World) (hLd:LaidAt w) (h:show_action.f a0 a1=some r) :
  Calls Tryz.prog 34 #[.string a0,.int .u64 a1] w fun e w' => e=.returned (.string r)∧Below w.heap.size w w':=by
 have HLD:=Aside0.mk hLd
 clear hLd
 have HB:=Aside0.mk (Below.refl w.heap.size w)
 have H:(if a1=0 then (some a0) else ((show_number.f a1).bind fun t136 => ((show_join.f (⟨#[32]⟩:ByteArray) (([a0,t136]:List ByteArray))).bind fun t140 => (some t140))))=some r:=h
 clear h
 by_cases c3:a1=0
 ·rw [if_pos c3] at H
  have c3b0:(a1==0)=true:=beq_iff_eq.mpr c3
  have c3b1:(a1 != 0)=false:=bne_eq_false_iff_eq.mpr c3
  clear c3
  obtain rfl:=Option.some.inj H
  go_enter Tryz.func34,Tryz.ntmps34
  go_wp2
  go_ret
  exact ⟨by first|rfl|(simp [errW_none,errW_some]<;>rfl)|(simp [*,errW_none,errW_some]<;>rfl),by repeat (with_reducible first|exact HB.out|apply below_alloc|apply pw_below_drewN|apply below_drew1)⟩
 ·rw [if_neg c3] at H
  have c3b0:(a1==0)=false:=beq_eq_false_iff_ne.mpr c3
  have c3b1:(a1 != 0)=true:=bne_iff_ne.mpr c3
  replace H:=Option.bind_eq_some_iff.mp H
  obtain ⟨t136,A40,H⟩:=H
  replace H:((show_join.f (⟨#[32]⟩:ByteArray) (([a0,t136]:List ByteArray))).bind fun t140 => (some t140))=some r:=H
  have A4:=Aside0.mk A40
  clear A40
  obtain ⟨y137,hy137⟩:∃ y_:List ByteArray,y_=(([a0,t136]:List ByteArray)):=⟨_,rfl⟩
  replace H:((show_join.f (⟨#[32]⟩:ByteArray) y137).bind fun t140 => (some t140))=some r:=by first|(rw [hy137];with_reducible exact H)|(have H2_:=(Option.bind_some _ _).symm.trans H;rw [hy137];with_reducible exact H2_)|(have H2_:=(Option.bind_some _ _).symm.trans H;with_reducible exact H2_)|with_reducible exact H|(rw [hy137];exact H)|exact H
  have Ny137:=Aside0.mk hy137
  clear hy137
  replace H:=Option.bind_eq_some_iff.mp H
  obtain ⟨t140,A50,H⟩:=H
  replace H:(some t140)=some r:=H
  have A5:=Aside0.mk A50
  clear A50
  obtain rfl:=Option.some.inj H
  go_enter Tryz.func34,Tryz.ntmps34
  go_wp2_with (first|((with_reducible refine gate_callee (f:=40) rfl ?_);refine goesL_ (some 10) rfl rfl Tryz.func40 (by kernel_rfl) rfl #[.int .u64 a1] rfl (by (try simp only [List.map_toArray,List.map_cons,List.map_nil]);first|done|rfl|(simp only [List.length_drop,List.length_take];rfl)) ?_;(with_reducible refine (show_number.calls a1 t136 _ ?side1 A4.out).mono ?_);(case side1 => exact LaidAt.of HLD.out (by repeat (with_reducible first|exact HB.out|apply below_alloc|apply pw_below_drewN|apply below_drew1)));rintro e w6 ⟨rfl,hb⟩;refine ⟨_,rfl,?_⟩;have n0_:=Aside0.mk (below_step (by repeat (with_reducible first|exact HB.out|apply below_alloc|apply pw_below_drewN|apply below_drew1)) hb);clear HB;have HB:=n0_;clear n0_;(try clear hb);(try clear hb2);(try clear hk);(try clear hi))|((with_reducible refine gate_dst (N:=11) rfl ?_);refine Kd.R_lit Kd.string _ 9 ?hg (N:=11) ?hd (xs:=([a0,t136]:List ByteArray)) (inner:=[.string a0,.string t136]) (ok:=fun _ => True) (okp:=fun _ => True) ?hr ?hp (fun _ hk => hk) trivial (Below.refl _ _) (Nat.le_refl _) (by simp) ?_;(case hd => rfl);(case hg => rfl);(case hr => first|(go_simp;done)|(go_simp;rfl));(case hp => exact (Reps.one (show Kd.M Kd.string _ _ _ a0 [.string a0] from rfl) (Reps.one (show Kd.M Kd.string _ _ _ t136 [.string t136] from rfl) (Reps.none _ _))));intro v138 w7 ho8 hb hg_ hnew_;clear hg_ hnew_;(first|rw [← Ny137.out] at ho8|(simp only [Int.reduceToNat] at ho8;rw [← Ny137.out] at ho8));have n0_:=Aside0.mk (Kd.R_lower ho8 (below_size (by repeat (with_reducible first|exact HB.out|apply below_alloc|apply pw_below_drewN|apply below_drew1))));have n1_:=Aside0.mk (below_step (by repeat (with_reducible first|exact HB.out|apply below_alloc|apply pw_below_drewN|apply below_drew1)) hb);clear HB;have HO139:=n0_;have HB:=n1_;clear n0_ n1_;clear hb ho8;obtain ⟨Ao9,co9,eo9⟩:=Kd.R_slice HO139.out;subst eo9)|((with_reducible refine gate_callee (f:=33) rfl ?_);refine goesL_ (some 12) rfl rfl Tryz.func33 (by kernel_rfl) rfl #[.string (⟨#[32]⟩:ByteArray),.slice Ao9 y137.length co9] rfl (by (try simp only [List.map_toArray,List.map_cons,List.map_nil]);first|done|rfl|(simp only [List.length_drop,List.length_take];rfl)) ?_;(with_reducible refine (show_join.calls (⟨#[32]⟩:ByteArray) _ _ y137 t140 _ ?side1 ?side2 ?side3 A5.out).mono ?_);(case side1 => repeat (first|exact (Kd.R_reads' HO139.out).2.2|(with_reducible refine Kd.C_alloc ?_ _)|(with_reducible refine Kd.C_drewN ?_ _)|(with_reducible refine Kd.C_drew ?_)));(case side2 => exact (Kd.R_reads' HO139.out).2.1);(case side3 => exact LaidAt.of HLD.out (by repeat (with_reducible first|exact HB.out|apply below_alloc|apply pw_below_drewN|apply below_drew1)));rintro e w10 ⟨rfl,hb⟩;refine ⟨_,rfl,?_⟩;have n0_:=Aside0.mk (Kd.R_below (by (with_reducible repeat (first|apply Kd.R_alloc|apply Kd.R_drewN|apply Kd.R_drew));exact HO139.out) hb);have n1_:=Aside0.mk (below_step (by repeat (with_reducible first|exact HB.out|apply below_alloc|apply pw_below_drewN|apply below_drew1)) hb);clear HO139;clear HB;have HO139:=n0_;have HB:=n1_;clear n0_ n1_;(try clear hb);(try clear hb2);(try clear hk);(try clear hi)))
  go_ret
  exact ⟨by first|rfl|(simp [errW_none,errW_some]<;>rfl)|(simp [*,errW_none,errW_some]<;>rfl),by repeat (with_reducible first|exact HB.out|apply below_alloc|apply pw_below_drewN|apply below_drew1)⟩

end Go.Proofs.YtdfjjimmnbijmaaGreatDoor.ZQ

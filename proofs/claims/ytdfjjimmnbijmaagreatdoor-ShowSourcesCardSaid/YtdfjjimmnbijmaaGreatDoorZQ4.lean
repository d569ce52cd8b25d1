-- Written for this claim by myprint.py over the kit's print (functions of this session supplied)
import Derived.Test.YtdfjjimmnbijmaaGreatDoorZQ0
import Derived.Test.YtdfjjimmnbijmaaGreatDoorZQ3
namespace Go.Proofs.YtdfjjimmnbijmaaGreatDoor.ZQ
open Go.RowKit Go.Proofs.YtdfjjimmnbijmaaGreatDoorW.PrintWords Go.Proofs.YtdfjjimmnbijmaaGreatDoorW.PrintLast Go.Proofs.YtdfjjimmnbijmaaGreatDoorW.PrintMore Go.Proofs.YtdfjjimmnbijmaaGreatDoor.Base
attribute [local go_sem] max2_int min2_int max_two min_two max_three min_three max_four min_four   -- for this text's walks alone
set_option linter.unusedVariables false
set_option linter.unusedSimpArgs false

/-! ### strconv_FormatUint: function 44 -/
theorem tab_alloc {w : World} {o : Obj} (h : LaidAt w) : Lib.TabIs Tryz.prog (w.alloc o) "internal/strconv.uint64pow10" .u64 Lib.pow10Tab := by
 obtain ⟨g,h1,h2,h3⟩:=(LaidAt.alloc (o:=o) h).pow
 exact h3
set_option maxHeartbeats 6400000 in
set_option maxRecDepth 100000 in
open Go.Sort Go.Lib in
theorem fu10_any (u:Nat) (hu64:u<18446744073709551616) (w:World) (hLd:LaidAt w) :
  Calls Tryz.prog 74 #[.int .u64 u,.int .i64 10] w fun e w' => e=.returned (.string ⟨(Lib.decDigits u).toArray⟩)∧Below w.heap.size w w':=by
 by_cases hs:u<100
 ·have c0:decide ((u:Int)<100)=true:=decide_eq_true (by omega)
  have cw:IntKind.i64.wrap (u:Int)=(u:Int):=by rw [IntKind.wrap_i64];omega
  clear hLd
  go_enter Tryz.func74,Tryz.ntmps74
  go_wp2_with (go_at_call 90;(try rw [cw]);refine (Tryz.internal_strconv_small u hs _).mono ?_;rintro e w' ⟨rfl,rfl⟩)
  go_ret
  exact ⟨rfl,Below.refl _ _⟩
 ·have hu1:1≤u:=by omega
  have c0:decide ((u:Int)<100)=false:=decide_eq_false (by omega)
  have hnd20:Lib.nDigits u≤20:=by have:=Lib.numDigits_eq u hu1 hu64;split at this<;>omega
  have hal:Tryz.prog.arrayLen 112=24:=by kernel_rfl
  have hsl:∀ W,(Instr.sliceAt 112 (.pointer (some ⟨w.heap.size,0,none⟩)) none (some (.int .i64 (Lib.nDigits u:Int))) none).run Tryz.prog W=.ok (.slice (some ⟨w.heap.size,0,none⟩) (Lib.nDigits u) 24) W:=fun W => by
   rw [run_sliceAt_array_h W 112 ⟨w.heap.size,0,none⟩ (by kernel_rfl) .i64 (Lib.nDigits u:Int) (by omega) (by rw [hal];omega)]
   rw [hal]
   go_simp
  have hH0:=Lib.holds_zero0 w 112 (Lib.nDigits u) (by omega)
  have hfmt:=Tryz.internal_strconv_formatBase10 w.heap.size 0 24 u (Array.replicate (Lib.nDigits u) 0) (w.alloc (.cells Lib.zeros24 112)) hH0 (by rw [Array.size_replicate];exact Lib.lt_pow_nDigits u) hu64 (by rw [Array.size_replicate];omega)
  rw [Array.size_replicate] at hfmt
  have HH0:=Lib.hid hH0
  have htab:=tab_alloc (o:=.cells Lib.zeros24 112) hLd
  clear hH0 hal hLd
  go_enter Tryz.func74,Tryz.ntmps74
  go_wp2_with (first
   |  (go_at_call 91;refine (Tryz.internal_strconv_numDigits u hu1 hu64 _ htab).mono ?_;rintro e w' ⟨rfl,rfl⟩))
  go_at_call 92
  refine hfmt.mono ?_
  rintro e w' ⟨rfl,k,v',dk,rfl,hF⟩
  have hcv:(convert 103 9 (.slice (some ⟨w.heap.size,0,none⟩) (Lib.nDigits u) 24)).run Tryz.prog ((putRow (fun (b:UInt8) => Value.int .u8 (b.toNat:Int)) (w.alloc (.cells Lib.zeros24 112)) w.heap.size 0 dk).drewN k)=.ok (.string ⟨(Lib.decDigits u).toArray⟩) ((putRow (fun (b:UInt8) => Value.int .u8 (b.toNat:Int)) (w.alloc (.cells Lib.zeros24 112)) w.heap.size 0 dk).drewN k):=by
   have h:=run_convert_bytes_back (P:=Tryz.prog) ((putRow (fun (b:UInt8) => Value.int .u8 (b.toNat:Int)) (w.alloc (.cells Lib.zeros24 112)) w.heap.size 0 dk).drewN k) 103 9 5 ⟨w.heap.size,0,none⟩ 24 (Lib.decDigits u) Tryz.underlying103 Tryz.underlying5 Tryz.underlying9 (fun j hj => by
    rw [Lib.row_is_numeral hF j hj,Lib.add_plain,World.cell?_drewN]
    exact cell?_putRow (fun (b:UInt8) => Value.int .u8 (b.toNat:Int)) _ w.heap.size 0 _ dk HH0.out (by rw [hF.size,Array.size_replicate]) j (by rw [hF.size];rw [Lib.decDigits_length] at hj;exact hj))
   rw [Lib.decDigits_length] at h
   exact h
  obtain ⟨os,eo⟩:=Lib.fin_at w (.cells Lib.zeros24 112) dk k 0
  have hnx2:Below w.heap.size w ((putRow (fun (b:UInt8) => Value.int .u8 (b.toNat:Int)) (w.alloc (.cells Lib.zeros24 112)) w.heap.size 0 dk).drewN k):=by rw [eo];exact Lib.below_grow w.heap.size w (Nat.le_refl _) k os
  generalize (putRow (fun (b:UInt8) => Value.int .u8 (b.toNat:Int)) (w.alloc (.cells Lib.zeros24 112)) w.heap.size 0 dk).drewN k=W2 at hcv hnx2 ⊢
  clear eo HH0 hfmt hF
  go_wp2
  go_ret
  exact ⟨rfl,hnx2⟩
def hxH (d:Nat):UInt8:=if d<10 then UInt8.ofNat (48+d) else UInt8.ofNat (87+d)
def hexH (u:Nat):List UInt8:=if h:u<16 then [hxH u] else hexH (u / 16)++[hxH (u % 16)]
  termination_by u
  decreasing_by omega
def mkH (l:List UInt8):ByteArray:=⟨l.toArray⟩
set_option maxHeartbeats 3200000 in
set_option maxRecDepth 100000 in
theorem pow2_16 (w:World):Calls Tryz.prog 109 #[.int .i64 16] w fun e w' => e=.returned (.bool true)∧w'=w:=by
 have hb:bits .and .i64 16 15=0:=by decide
 go_enter Tryz.func109,Tryz.ntmps109
 go_wp2
 go_ret
 exact ⟨rfl,rfl⟩
set_option maxHeartbeats 3200000 in
set_option maxRecDepth 100000 in
theorem tz64_16 (w:World) (hLd:LaidAt w):Calls Tryz.prog 126 #[.int .u64 16] w fun e w' => e=.returned (.int .i64 4)∧w'=w:=by
 obtain ⟨g,hg,_,htab⟩:=hLd.db
 obtain rfl:g=6:=Option.some.inj (hg.symm.trans (by kernel_rfl))
 have hcell:w.cell? ⟨6,15,none⟩=some (.int .u8 4):=by
  rw [htab.cell hg 15 (by decide)];rfl
 have hb:bits .and .u64 16 18446744073709551600=16:=by decide
 have hn:IntKind.u64.wrap (-16)=18446744073709551600:=by rw [IntKind.wrap_u64];decide
 have hm:IntKind.u64.wrap 4573923408821661840=4573923408821661840:=by rw [IntKind.wrap_u64];decide
 clear htab hg hLd
 go_enter Tryz.func126,Tryz.ntmps126
 go_wp2
 go_ret
 exact ⟨rfl,rfl⟩
set_option maxHeartbeats 3200000 in
set_option maxRecDepth 100000 in
theorem tz_16 (w:World) (hLd:LaidAt w):Calls Tryz.prog 110 #[.int .u64 16] w fun e w' => e=.returned (.int .i64 4)∧w'=w:=by
 go_enter Tryz.func110,Tryz.ntmps110
 go_wp2_with (go_at_call 126;refine (tz64_16 _ hLd).mono ?_;rintro e w' ⟨rfl,rfl⟩)
 go_ret
 exact ⟨rfl,rfl⟩
theorem and15 (u:Nat) (h:u<18446744073709551616):bits .and .u64 (u:Int) 15=(u:Int) % 16:=by
 have h:=bits_and_u64_nat u 15 h (by omega)
 have e:u &&& 15=u % 16:=Nat.and_two_pow_sub_one_eq_mod u 4
 rw [e,Int.natCast_emod] at h
 exact h
theorem hx_dig:∀ d:Fin 16,(⟨#[48,49,50,51,52,53,54,55,56,57,97,98,99,100,101,102,103,104,105,106,107,108,109,110,111,112,113,114,115,116,117,118,119,120,121,122]⟩:ByteArray)[d.val]'(Nat.lt_of_lt_of_le d.isLt (by decide))=hxH d.val:=by decide
/-- The row's cells from a place on are a text. -/
def SufH (w:World) (b:Nat) (l:List UInt8):Prop:=∃ cs:Array Value,w.heap[b]?=some (.cells cs 129 (0,0))∧cs.size=65∧l.length≤65∧∀ (j:Nat) (c:UInt8),l[j]?=some c→cs[65 - l.length+j]?=some (.int .u8 c.toNat)
theorem sufH_start (w:World):SufH (w.alloc (.cells Tryz.zeroCells129 129)) w.heap.size [] :=
 ⟨_,heap_alloc_new w _,by kernel_rfl,by simp,fun j c h => by simp at h⟩
theorem sufH_cell {w:World} {b:Nat} {l:List UInt8} (h:SufH w b l) (i:Nat) (hi:i<65):∃ v,w.cell? ⟨b,i,none⟩=some v:=by
 obtain ⟨cs,h1,h2,h3,h4⟩:=h
 exact ⟨cs[i]'(by omega),by rw [blk_cell h1 i];exact Array.getElem?_eq_getElem _⟩
theorem sufH_frozen {w:World} {b:Nat} {l:List UInt8} (h:SufH w b l) (i:Nat):w.frozen? ⟨b,i,none⟩=false:=by
 obtain ⟨cs,h1,_⟩:=h
 exact blk_frozen h1 i
theorem sufH_put {w:World} {b:Nat} {l:List UInt8} (h:SufH w b l) (c:UInt8) (hl:l.length<65):SufH (w.setCell ⟨b,64 - l.length,none⟩ (.int .u8 c.toNat)) b (c :: l):=by
 obtain ⟨cs,h1,h2,h3,h4⟩:=h
 refine ⟨cs.set! (64 - l.length) (.int .u8 c.toNat),heap_setCell_same _ _ _ _ _ _ h1,by simp [h2],by simp only [List.length_cons];omega,?_⟩
 intro j d hj
 have e:65 - (c :: l).length=64 - l.length:=by simp only [List.length_cons];omega
 rw [e]
 cases j with
 |  zero =>
  simp only [List.getElem?_cons_zero,Option.some.injEq] at hj
  subst hj
  simp only [Array.set!_eq_setIfInBounds,Nat.add_zero]
  rw [Array.getElem?_setIfInBounds_self_of_lt (by omega)]
 |  succ j =>
  simp only [List.getElem?_cons_succ] at hj
  have h5:=h4 j d hj
  rw [show 65 - l.length+j=64 - l.length+(j+1) by omega] at h5
  simp only [Array.set!_eq_setIfInBounds]
  rw [Array.getElem?_setIfInBounds_ne (by omega)]
  exact h5
theorem hexH_len:∀ (k u:Nat),u<16 ^ (k+1)→(hexH u).length≤k+1
 |  0,u,h => by
  rw [hexH,dif_pos (by simpa using h)];simp
 |  k+1,u,h => by
  by_cases h1:u<16
  ·rw [hexH,dif_pos h1];simp
  ·rw [hexH,dif_neg h1]
   have:=hexH_len k (u / 16) (by rw [Nat.pow_succ] at h;omega)
   simp;omega
set_option maxHeartbeats 6400000 in
set_option maxRecDepth 100000 in
theorem fb16_any (u0:Nat) (hu64:u0<18446744073709551616) (w:World) (hLd:LaidAt w) :
  Calls Tryz.prog 93 #[.slice none 0 0,.int .u64 u0,.int .i64 16,.bool false,.bool false] w fun e w' => e=.returned (.tuple #[.slice none 0 0,.string (mkH (hexH u0))])∧Below w.heap.size w w':=by
 have HLD:=Aside0.mk hLd
 clear hLd
 have hlen0:=hexH_len 15 u0 (by rw [show 16 ^ (15+1)=18446744073709551616 by decide];exact hu64)
 obtain ⟨R,hR⟩:∃ R,R=hexH u0:=⟨_,rfl⟩
 rw [← hR] at hlen0 ⊢
 have HR:=Aside0.mk hR
 clear hR
 go_enter Tryz.func93,Tryz.ntmps93
 go_name_bytes_deep 40 PM hPM
 clear hPM
 go_name_bytes_deep 30 DG hDG
 have hidx:∀ (d:Nat),d<16→∀ W:World,(Instr.index 9 (.string DG) (.int .u64 (d:Int))).run Tryz.prog W=.ok (.int .u8 ((hxH d).toNat:Int)) W:=by
  intro d hd W
  have hsz:DG.size=36:=by rw [← hDG];rfl
  have hg:∀ h:d<DG.size,DG[d]'h=hxH d:=by
   intro h
   subst hDG
   exact hx_dig ⟨d,hd⟩
  clear hDG
  go_simp
  intro h
  omega
 have HIDX:=Aside0.mk hidx
 clear hidx hDG
 go_wp2_with (first|(go_at_call 109;refine (pow2_16 _).mono ?_;rintro e w' ⟨rfl,rfl⟩)|(go_at_call 110;refine (tz_16 _ ?hl).mono ?_;(case hl => exact LaidAt.alloc HLD.out);rintro e w' ⟨rfl,rfl⟩))
 go_loopw [1,13] (fun v1 v13 wr =>∃(u i:Nat) (l:List UInt8),v1=.int .u64 u∧v13=.int .i64 i∧Aside0 (SufH wr w.heap.size l)∧Aside0 (i=65 - l.length)∧Aside0 (u<18446744073709551616)∧Aside0 (R=hexH u++l)∧Aside0 (Below w.heap.size w wr)) (fun v1 _ _ => (intOf v1).toNat)
 case atStart => exact ⟨u0,65,[],rfl,rfl,⟨sufH_start w⟩,⟨rfl⟩,⟨hu64⟩,⟨by rw [HR.out,List.append_nil]⟩,⟨(Below.refl _ _).alloc (Nat.le_refl _) _⟩⟩
 case round =>
  obtain ⟨u,i,l,rfl,rfl,hS,hi,hu,hR,hB⟩:=hrel
  have hi':=hi.out
  have hu':=hu.out
  have hRl:=congrArg List.length hR.out
  rw [List.length_append] at hRl
  have hlp:1≤(hexH u).length:=by rw [hexH];split<;>simp
  have hi49:1≤i∧i≤65∧l.length<65:=by omega
  clear hRl hlp
  by_cases hlt:16≤u
  ·have c1:decide ((u:Int) ≥ 16)=true:=decide_eq_true (by omega)
   have hx:∀ W:World,(Instr.index 9 (.string DG) (.int .u64 ((u:Int) % 16))).run Tryz.prog W=.ok (.int .u8 ((hxH (u % 16)).toNat:Int)) W:=by have h_:=HIDX.out (u % 16) (by omega);rw [Int.natCast_emod] at h_;exact h_
   have ha:=and15 u hu'
   obtain ⟨v,hv⟩:=sufH_cell hS.out (i - 1) (by omega)
   have hz:=sufH_frozen hS.out (i - 1)
   have hlt':=Aside0.mk hlt
   obtain ⟨n,rfl⟩:∃ n,i=n+1:=⟨i - 1,by omega⟩
   simp only [Nat.add_sub_cancel] at hv hz
   have hn:n<65:=by omega
   have b1:(0≤(n:Int))=True:=eq_true (by omega)
   have b2:((n:Int)<65)=True:=eq_true (by omega)
   have hsh:(u:Int) / 16=((u / 16:Nat):Int):=by omega
   have hsr:∀ W:World,(binOp .shr 22 (.int .u64 (u:Int)) (.int .u64 4)).run Tryz.prog W=.ok (.int .u64 ((u / 16:Nat):Int)) W:=fun W => by
    rw [binOp_shr,shift_shr_u64 (x:=(u:Int)) (yk:=.u64) (y:=4) (by decide) (by decide)]
    have e:(u:Int) / 2 ^ (4:Int).toNat=((u / 16:Nat):Int):=by rw [show (2:Int) ^ (4:Int).toNat=16 from rfl];omega
    rw [e];rfl
   clear hlen0 hu64 hi49 hi' hu' hlt hsh
   go_wp2_with fail
   go_roundw
   case measure => simp only [intOf];have:=hlt'.out;omega
   case rel =>
    refine ⟨u / 16,n,hxH (u % 16) :: l,by rw [Int.natCast_ediv];rfl,rfl,?_,⟨by have:=hi.out;simp only [List.length_cons];omega⟩,⟨by have:=hu.out;omega⟩,⟨?_⟩,⟨hB.out.setCell (Nat.le_refl _) _⟩⟩
    ·have h1:=sufH_put hS.out (hxH (u % 16)) (by have:=hi.out;omega)
     rw [show 64 - l.length=n by have:=hi.out;omega] at h1
     exact ⟨h1⟩
    ·have h1:=hR.out
     rw [hexH,dif_neg (by have:=hlt'.out;omega)] at h1
     rw [h1,List.append_assoc];rfl
  ·have c1:decide ((u:Int) ≥ 16)=false:=decide_eq_false (by omega)
   have hx:=HIDX.out u (by omega)
   obtain ⟨n,rfl⟩:∃ n,i=n+1:=⟨i - 1,by omega⟩
   obtain ⟨v,hv⟩:=sufH_cell hS.out n (by omega)
   have hz:=sufH_frozen hS.out n
   have hn:n<65:=by omega
   have b1:(0≤(n:Int))=True:=eq_true (by omega)
   have b2:((n:Int)<65)=True:=eq_true (by omega)
   have hRR:R=hxH u :: l:=by
    have h1:=hR.out
    rw [hexH,dif_pos (by omega)] at h1
    exact h1
   have h1:=sufH_put hS.out (hxH u) (by omega)
   rw [show 64 - l.length=n by omega] at h1
   have hln:l.length+1=65 - n:=by omega
   have hal:Tryz.prog.arrayLen 129=65:=by kernel_rfl
   have hsl:∀ W,(Instr.sliceAt 129 (.pointer (some ⟨w.heap.size,0,none⟩)) (some (.int .i64 (n:Int))) none none).run Tryz.prog W=.ok (.slice (some ⟨w.heap.size,n,none⟩) (65 - n) (65 - n)) W:=fun W => by
    rw [run_sliceAt_array_l W 129 ⟨w.heap.size,0,none⟩ (by kernel_rfl) .i64 (n:Int) (by omega) (by rw [hal];omega)]
    rw [hal]
    go_simp
    omega
   have hcv:(convert 103 9 (.slice (some ⟨w.heap.size,n,none⟩) (65 - n) (65 - n))).run Tryz.prog (wr.setCell ⟨w.heap.size,n,none⟩ (.int .u8 (hxH u).toNat))=.ok (.string (mkH R)) (wr.setCell ⟨w.heap.size,n,none⟩ (.int .u8 (hxH u).toNat)):=by
    have h:=run_convert_bytes_back (P:=Tryz.prog) (World.setCell wr ⟨w.heap.size,n,none⟩ (.int .u8 (hxH u).toNat)) 103 9 5 ⟨w.heap.size,n,none⟩ (65 - n) (hxH u :: l) Tryz.underlying103 Tryz.underlying5 Tryz.underlying9 (fun j hj => by
     obtain ⟨cs,k1,k2,k3,k4⟩:=h1
     rw [Lib.add_plain,blk_cell k1,← k4 j _ (List.getElem?_eq_getElem hj)]
     simp only [List.length_cons]
     rw [show 65 - (l.length+1)=n by omega])
    rw [List.length_cons,hln,← hRR] at h
    exact h
   have HB:=Aside0.mk (hB.out.setCell (hp:=Nat.le_refl _) (.int .u8 (hxH u).toNat):Below w.heap.size w (wr.setCell ⟨w.heap.size,n,none⟩ (.int .u8 (hxH u).toNat)))
   clear hlen0 hu64 hi49 hi' hu' hlt h1 hRR hal hln
   go_wp2_with fail
   go_ret2
   exact ⟨rfl,HB.out⟩
set_option maxHeartbeats 3200000 in
set_option maxRecDepth 100000 in
theorem fu16_any (u:Nat) (hu64:u<18446744073709551616) (w:World) (hLd:LaidAt w) :
  Calls Tryz.prog 74 #[.int .u64 u,.int .i64 16] w fun e w' => e=.returned (.string (mkH (hexH u)))∧Below w.heap.size w w':=by
 have HLD:=Aside0.mk hLd
 clear hLd
 go_enter Tryz.func74,Tryz.ntmps74
 go_wp2_with (go_at_call 93;refine (fb16_any u hu64 _ HLD.out).mono ?_;rintro e w' ⟨rfl,hb⟩)
 go_ret
 exact ⟨rfl,hb⟩
def fuS (b:Int) (u:Nat):ByteArray:=if b=10 then ⟨(Lib.decDigits u).toArray⟩ else mkH (hexH u)
set_option maxHeartbeats 3200000 in
set_option maxRecDepth 100000 in
theorem fup_any (b:Int) (hb:b=10 ∨ b=16) (u:Nat) (hu64:u<18446744073709551616) (w:World) (hLd:LaidAt w) :
  Calls Tryz.prog 44 #[.int .u64 u,.int .i64 b] w fun e w' => e=.returned (.string (fuS b u))∧Below w.heap.size w w':=by
 have h:Calls Tryz.prog 74 #[.int .u64 u,.int .i64 b] w fun e w' => e=.returned (.string (fuS b u))∧Below w.heap.size w w':=by
  rcases hb with rfl|rfl
  ·exact fu10_any u hu64 w hLd
  ·exact fu16_any u hu64 w hLd
 generalize fuS b u=r at h
 have H:=Aside0.mk h
 clear h hLd
 go_enter Tryz.func44,Tryz.ntmps44
 go_wp2_with (go_at_call 74;refine H.out.mono ?_;rintro e w' ⟨rfl,hb⟩)
 go_ret
 exact ⟨rfl,hb⟩

def strconv_FormatUint.f (a0 a1:Int):Option ByteArray:=if (0≤a0∧a0<18446744073709551616)∧(a1=10 ∨ a1=16) then some (fuS a1 a0.toNat) else none
theorem strconv_FormatUint.calls (a0:Int) (a1:Int) (r:ByteArray) (w:World) (hLd:LaidAt w) (h:strconv_FormatUint.f a0 a1=some r) :
  Calls Tryz.prog 44 #[.int .u64 a0,.int .i64 a1] w fun e w' => e=.returned (.string r)∧Below w.heap.size w w':=by
 unfold strconv_FormatUint.f at h
 split at h
 ·rename_i hs
  have e:=Option.some.inj h
  obtain ⟨u,rfl⟩:∃ u:Nat,a0=u:=⟨a0.toNat,by omega⟩
  rw [← e,Int.toNat_natCast]
  exact fup_any a1 hs.2 u (by omega) w hLd
 ·cases h

/-! ### show_number: function 40 -/
def show_number.f (a0:Int):Option (ByteArray):=(strconv_FormatUint.f a0 10).bind fun t114 => (some t114)
set_option maxHeartbeats 8000000 in
set_option maxRecDepth 100000 in
theorem show_number.calls (a0:Int) (r:ByteArray) (w:World) (hLd:LaidAt w) (h:show_number.f a0=some r) :
  Calls Tryz.prog 40 #[.int .u64 a0] w fun e w' => e=.returned (.string r)∧Below w.heap.size w w':=by
 have HLD:=Aside0.mk hLd
 clear hLd
 have HB:=Aside0.mk (Below.refl w.heap.size w)
 have H:((strconv_FormatUint.f a0 10).bind fun t114 => (some t114))=some r:=h
 clear h
 replace H:=Option.bind_eq_some_iff.mp H
 obtain ⟨t114,A20,H⟩:=H
 replace H:(some t114)=some r:=H
 have A2:=Aside0.mk A20
 clear A20
 obtain rfl:=Option.some.inj H
 go_enter Tryz.func40,Tryz.ntmps40
 go_wp2_with (first|((with_reducible refine gate_callee (f:=44) rfl ?_);refine goesL_ (some 4) rfl rfl Tryz.func44 (by kernel_rfl) rfl #[.int .u64 a0,.int .i64 10] rfl (by (try simp only [List.map_toArray,List.map_cons,List.map_nil]);first|done|rfl|(simp only [List.length_drop,List.length_take];rfl)) ?_;(with_reducible refine (strconv_FormatUint.calls a0 10 t114 _ ?side1 A2.out).mono ?_);(case side1 => exact LaidAt.of HLD.out (by repeat (with_reducible first|exact HB.out|apply below_alloc|apply pw_below_drewN|apply below_drew1)));rintro e w3 ⟨rfl,hb⟩;refine ⟨_,rfl,?_⟩;have n0_:=Aside0.mk (below_step (by repeat (with_reducible first|exact HB.out|apply below_alloc|apply pw_below_drewN|apply below_drew1)) hb);clear HB;have HB:=n0_;clear n0_;(try clear hb);(try clear hb2);(try clear hk);(try clear hi)))
 go_ret
 exact ⟨by first|rfl|(simp [errW_none,errW_some]<;>rfl)|(simp [*,errW_none,errW_some]<;>rfl),by repeat (with_reducible first|exact HB.out|apply below_alloc|apply pw_below_drewN|apply below_drew1)⟩

end Go.Proofs.YtdfjjimmnbijmaaGreatDoor.ZQ

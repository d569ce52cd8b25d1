-- Written for this claim by myprint.py over the kit's print (functions of this session supplied)
import Derived.Test.YtdfjjimmnbijmaaGreatDoorWT1
import Derived.Test.YtdfjjimmnbijmaaGreatDoorProg
import Derived.Test.YtdfjjimmnbijmaaGreatDoorBase
import Derived.Test.YtdfjjimmnbijmaaGreatDoorPu16
import Derived.BigCall
import Derived.BigGuard
import Derived.Lib.Walk
import Derived.Lib.ItoaMem
import Derived.Lib.ItoaLen
import Derived.Lib.AppendIntMem
import Derived.Lib.Hide
import Derived.Laws.Bits64b
import Derived.Lib.BitFns
import Derived.Below
import Derived.Deep.Draws
import Derived.Deep.AppendLies
import Derived.Maps.AppendAt
import Derived.OwnWalk
import Derived.Laws.BytesArg
import Derived.Laws.MakeOwn
import Derived.Laws.OwnMore
import Derived.Deep.OwnRows
import Derived.Tactics
import Derived.Lib.ConvBytes
import Derived.Laws.Slices
import Derived.WalkKit
import Derived.KernelRfl
import Derived.RowKit3
import Derived.Deep.LoopGhost
import Derived.Deep.QuietTactic
import Derived.BigQuiet
import Derived.WideLaws
import Derived.Deep.DeepCutAuto
import Derived.Deep.CutBlock
import Derived.Deep.RegionHeld3
import Derived.Laws.Rows
import Derived.Lib.AppendStr
import Derived.ArgAppend
import Derived.Laws.IdiomCopy
import Derived.OrdersHeld
import Derived.Laws.BitsLemmas
import Derived.RowKit
namespace Go.Proofs.YtdfjjimmnbijmaaGreatDoor.ZQ
open Go.RowKit Go.Proofs.YtdfjjimmnbijmaaGreatDoorW.PrintWords Go.Proofs.YtdfjjimmnbijmaaGreatDoorW.PrintLast Go.Proofs.YtdfjjimmnbijmaaGreatDoorW.PrintMore Go.Proofs.YtdfjjimmnbijmaaGreatDoor.Base
attribute [local go_sem] max2_int min2_int max_two min_two max_three min_three max_four min_four   -- for this text's walks alone
set_option linter.unusedVariables false
set_option linter.unusedSimpArgs false



def errW:Option Int→Value
 |  none => .nilIface
 |  some c => .iface 0 (.int .i64 c)
theorem errW_none:errW none=.nilIface:=rfl
theorem errW_some (c:Int):errW (some c)=.iface 0 (.int .i64 c):=rfl

theorem info9:(Tryz.prog.info? 9).map (fun i => (i.zero,i.size,i.bytes))=some (some (.string ⟨#[]⟩),1,16):=by kernel_rfl
/-! #### struct type 28, nested in itself -/
structure S28 where
 f0:Int
 f1:(List S28)
 f2:Int
 f3:Int
 f4:ByteArray
 f5:Int
def z28:S28:=⟨(0:Int),([]:List S28),(0:Int),(0:Int),(⟨#[]⟩:ByteArray),(0:Int)⟩
def F28 (d:Kd S28):Kd S28:=Kd.iso (Kd.pair (Kd.int .i64) (Kd.pair (Kd.slice 28 d) (Kd.pair (Kd.int .i64) (Kd.pair (Kd.int .u64) (Kd.pair Kd.string (Kd.int .u64)))))) (fun x:S28 => (x.f0,x.f1,x.f2,x.f3,x.f4,x.f5))
theorem mono28:Kd.Mono F28:=Kd.mono_iso _ (Kd.mono_pair (Kd.mono_const _) (Kd.mono_pair (Kd.mono_slice 28 Kd.mono_id) (Kd.mono_pair (Kd.mono_const _) (Kd.mono_pair (Kd.mono_const _) (Kd.mono_pair (Kd.mono_const _) (Kd.mono_const _))))))
theorem sub28:Kd.Sub F28 [28]:=Kd.sub_iso _ (Kd.sub_pair (Kd.sub_const _ (by decide)) (Kd.sub_pair (Kd.sub_slice 28 (by decide) Kd.sub_id) (Kd.sub_pair (Kd.sub_const _ (by decide)) (Kd.sub_pair (Kd.sub_const _ (by decide)) (Kd.sub_pair (Kd.sub_const _ (by decide)) (Kd.sub_const _ (by decide)))))))
theorem sz28:∀ n,(Kd.upto F28 6 [28] n).sz=6:=Kd.upto_sz (fun _ => rfl)
def k28:Kd S28:=Kd.fix F28 6 [28] sz28 (Kd.upto_E sub28)
theorem k28_heap:Kd.Heap k28:=Kd.heap_fix (fun _ h_ => Kd.heap_iso _ (Kd.heap_pair (Kd.heap_int .i64) (Kd.heap_pair (Kd.heap_slice 28 h_) (Kd.heap_pair (Kd.heap_int .i64) (Kd.heap_pair (Kd.heap_int .u64) (Kd.heap_pair Kd.heap_string (Kd.heap_int .u64)))))))
theorem k28_open {w:World} {x:S28} {cs:List Value} (h:k28.K w x cs):∃ A1 c1,cs=[.int .i64 x.f0,.slice A1 x.f1.length c1,.int .i64 x.f2,.int .u64 x.f3,.string x.f4,.int .u64 x.f5]∧x.f1.length≤c1∧k28.C w A1 x.f1.length x.f1:=by
 obtain ⟨n,h⟩:=h
 cases n with
 |  zero => exact h.elim
 |  succ n =>
  obtain ⟨_,_,rfl,rfl,⟨_,_,rfl,⟨A1,c1,rfl,l1,g1⟩,⟨_,_,rfl,rfl,⟨_,_,rfl,rfl,⟨_,_,rfl,rfl,rfl⟩⟩⟩⟩⟩:=h
  exact ⟨A1,c1,rfl,l1,Kd.fix_C g1⟩
theorem k28_openM {w:World} {base:Nat} {ok:Nat→Prop} {x:S28} {cs:List Value} (h:k28.M w base ok x cs):∃ v1,cs=[.int .i64 x.f0,v1,.int .i64 x.f2,.int .u64 x.f3,.string x.f4,.int .u64 x.f5]∧k28.R 28 w base ok v1 x.f1:=by
 obtain ⟨n,h⟩:=h
 cases n with
 |  zero => exact h.elim
 |  succ n =>
  obtain ⟨_,_,rfl,rfl,⟨_,_,rfl,⟨v1,rfl,g1⟩,⟨_,_,rfl,rfl,⟨_,_,rfl,rfl,⟨_,_,rfl,rfl,rfl⟩⟩⟩⟩⟩:=h
  exact ⟨v1,rfl,Kd.fix_R g1⟩
theorem k28_mk (w:World) (x:S28) {A1:Option Addr} {c1:Nat} (l1:x.f1.length≤c1) (g1:k28.C w A1 x.f1.length x.f1):k28.K w x [.int .i64 x.f0,.slice A1 x.f1.length c1,.int .i64 x.f2,.int .u64 x.f3,.string x.f4,.int .u64 x.f5]:=by
 obtain ⟨n1,q1⟩:=Kd.fix_C_back mono28 g1
 have r1:=Kd.upto_C_le mono28 sz28 (show n1≤n1 by omega) q1
 exact ⟨n1+1,⟨[.int .i64 x.f0],[.slice A1 x.f1.length c1,.int .i64 x.f2,.int .u64 x.f3,.string x.f4,.int .u64 x.f5],rfl,rfl,⟨[.slice A1 x.f1.length c1],[.int .i64 x.f2,.int .u64 x.f3,.string x.f4,.int .u64 x.f5],rfl,⟨A1,c1,rfl,l1,r1⟩,⟨[.int .i64 x.f2],[.int .u64 x.f3,.string x.f4,.int .u64 x.f5],rfl,rfl,⟨[.int .u64 x.f3],[.string x.f4,.int .u64 x.f5],rfl,rfl,⟨[.string x.f4],[.int .u64 x.f5],rfl,rfl,rfl⟩⟩⟩⟩⟩⟩
theorem k28_mkM (w:World) (base:Nat) (ok:Nat→Prop) (x:S28) {v1:Value} (g1:k28.R 28 w base ok v1 x.f1):k28.M w base ok x [.int .i64 x.f0,v1,.int .i64 x.f2,.int .u64 x.f3,.string x.f4,.int .u64 x.f5]:=by
 obtain ⟨n1,q1⟩:=Kd.fix_R_back mono28 g1
 have r1:=Kd.upto_R_le mono28 sz28 (show n1≤n1 by omega) q1
 exact ⟨n1+1,⟨[.int .i64 x.f0],[v1,.int .i64 x.f2,.int .u64 x.f3,.string x.f4,.int .u64 x.f5],rfl,rfl,⟨[v1],[.int .i64 x.f2,.int .u64 x.f3,.string x.f4,.int .u64 x.f5],rfl,⟨v1,rfl,r1⟩,⟨[.int .i64 x.f2],[.int .u64 x.f3,.string x.f4,.int .u64 x.f5],rfl,rfl,⟨[.int .u64 x.f3],[.string x.f4,.int .u64 x.f5],rfl,rfl,⟨[.string x.f4],[.int .u64 x.f5],rfl,rfl,rfl⟩⟩⟩⟩⟩⟩
theorem k28_openF {W:World} {ok:Nat→Prop} {x:S28} {cs:List Value} (h:Kd.FK k28 W ok x cs):∃ A1 c1,cs=[.int .i64 x.f0,.slice A1 x.f1.length c1,.int .i64 x.f2,.int .u64 x.f3,.string x.f4,.int .u64 x.f5]∧x.f1.length≤c1∧Kd.F k28 W ok A1 x.f1.length x.f1:=by
 obtain ⟨A1,c1,rfl,l1,_⟩:=k28_open (Kd.FK_now h)
 exact ⟨A1,c1,rfl,l1,(fun W' hW => by obtain ⟨A1_,c1_,he,l1_,g1_⟩:=k28_open (h W' hW);injection (Option.some.inj (show some (Value.slice A1 x.f1.length c1)=some (Value.slice A1_ x.f1.length c1_) from congrArg (fun l => l[1]?) he)) with ha_ _ _;rw [ha_];exact g1_)⟩
theorem k28_mkF (W:World) (ok:Nat→Prop) (x:S28) {A1:Option Addr} {c1:Nat} (l1:x.f1.length≤c1) (g1:Kd.F k28 W ok A1 x.f1.length x.f1):Kd.FK k28 W ok x [.int .i64 x.f0,.slice A1 x.f1.length c1,.int .i64 x.f2,.int .u64 x.f3,.string x.f4,.int .u64 x.f5]:=fun W2 hW => k28_mk W2 x l1 (g1 W2 hW)
def rd_T28 (xs:List S28) (i:Int):S28:=xs.getD i.toNat z28
theorem at_T28 {w:World} {A:Option Addr} {n:Nat} {xs:List S28} (h:Kd.C k28 w A n xs) (i:Int) (h0:0≤i) (h1:i<n):∃ ad A1 c1,A=some ad∧w.cell? (ad.add (i.toNat * 6))=some (.int .i64 (rd_T28 xs i).f0)∧w.cell? ⟨(ad.add (i.toNat * 6)).block,(ad.add (i.toNat * 6)).off+1,none⟩=some (.slice A1 (rd_T28 xs i).f1.length c1)∧w.cell? ⟨(ad.add (i.toNat * 6)).block,(ad.add (i.toNat * 6)).off+2,none⟩=some (.int .i64 (rd_T28 xs i).f2)∧w.cell? ⟨(ad.add (i.toNat * 6)).block,(ad.add (i.toNat * 6)).off+3,none⟩=some (.int .u64 (rd_T28 xs i).f3)∧w.cell? ⟨(ad.add (i.toNat * 6)).block,(ad.add (i.toNat * 6)).off+4,none⟩=some (.string (rd_T28 xs i).f4)∧w.cell? ⟨(ad.add (i.toNat * 6)).block,(ad.add (i.toNat * 6)).off+5,none⟩=some (.int .u64 (rd_T28 xs i).f5)∧(rd_T28 xs i).f1.length≤c1∧k28.C w A1 (rd_T28 xs i).f1.length (rd_T28 xs i).f1:=by
 obtain ⟨ad,c,e,_,hK,hc0⟩:=Kd.C_get h z28 i h0 h1
 have hc:∀ j u,c[j]?=some u→w.cell? (ad.add (i.toNat * 6+j))=some u:=hc0
 obtain ⟨A1,c1,rfl,l1,g1⟩:=k28_open hK
 exact ⟨ad,A1,c1,e,hc 0 _ rfl,by rw [← add_field _ _ 1 (by omega)];exact hc 1 _ rfl,by rw [← add_field _ _ 2 (by omega)];exact hc 2 _ rfl,by rw [← add_field _ _ 3 (by omega)];exact hc 3 _ rfl,by rw [← add_field _ _ 4 (by omega)];exact hc 4 _ rfl,by rw [← add_field _ _ 5 (by omega)];exact hc 5 _ rfl,l1,g1⟩

def rd_L5 (xs:List (List ByteArray)) (i:Int):(List ByteArray):=xs.getD i.toNat ([]:List ByteArray)
theorem at_L5 {w:World} {A:Option Addr} {n:Nat} {xs:List (List ByteArray)} (h:Kd.C (Kd.slice 9 Kd.string) w A n xs) (i:Int) (h0:0≤i) (h1:i<n):∃ ad A0 c0,A=some ad∧w.cell? (ad.add i.toNat)=some (.slice A0 (rd_L5 xs i).length c0)∧(rd_L5 xs i).length≤c0∧Kd.string.C w A0 (rd_L5 xs i).length (rd_L5 xs i):=by
 obtain ⟨ad,c,e,_,hK,hc0⟩:=Kd.C_get h ([]:List ByteArray) i h0 h1
 have hc:∀ j u,c[j]?=some u→w.cell? (ad.add (i.toNat * 1+j))=some u:=hc0
 obtain ⟨A0,c0,rfl,l0,g0⟩:=hK
 exact ⟨ad,A0,c0,e,by have hq:=hc 0 _ rfl;rwa [Nat.mul_one,Nat.add_zero] at hq,l0,g0⟩

/-! #### struct type 74 -/
structure S74 where
 f0:Int
 f1:ByteArray
 f2:Int
def z74:S74:=⟨(0:Int),(⟨#[]⟩:ByteArray),(0:Int)⟩
def k74:Kd S74:=Kd.iso (Kd.pair (Kd.int .i64) (Kd.pair Kd.string (Kd.int .i64))) (fun x:S74 => (x.f0,x.f1,x.f2))
theorem k74_heap:Kd.Heap k74:=Kd.heap_iso _ (Kd.heap_pair (Kd.heap_int .i64) (Kd.heap_pair Kd.heap_string (Kd.heap_int .i64)))
theorem k74_open {w:World} {x:S74} {cs:List Value} (h:k74.K w x cs):cs=[.int .i64 x.f0,.string x.f1,.int .i64 x.f2]:=by
 obtain ⟨_,_,rfl,rfl,⟨_,_,rfl,rfl,rfl⟩⟩:=h
 exact rfl
theorem k74_openM {w:World} {base:Nat} {ok:Nat→Prop} {x:S74} {cs:List Value} (h:k74.M w base ok x cs):cs=[.int .i64 x.f0,.string x.f1,.int .i64 x.f2]:=by
 obtain ⟨_,_,rfl,rfl,⟨_,_,rfl,rfl,rfl⟩⟩:=h
 exact rfl
theorem k74_mk (w:World) (x:S74) :k74.K w x [.int .i64 x.f0,.string x.f1,.int .i64 x.f2]:=⟨[.int .i64 x.f0],[.string x.f1,.int .i64 x.f2],rfl,rfl,⟨[.string x.f1],[.int .i64 x.f2],rfl,rfl,rfl⟩⟩
theorem k74_mkM (w:World) (base:Nat) (ok:Nat→Prop) (x:S74) :k74.M w base ok x [.int .i64 x.f0,.string x.f1,.int .i64 x.f2]:=⟨[.int .i64 x.f0],[.string x.f1,.int .i64 x.f2],rfl,rfl,⟨[.string x.f1],[.int .i64 x.f2],rfl,rfl,rfl⟩⟩
theorem k74_mkF (W:World) (ok:Nat→Prop) (x:S74):Kd.FK k74 W ok x [.int .i64 x.f0,.string x.f1,.int .i64 x.f2]:=fun W2 _ => k74_mk W2 x
def rd_T74 (xs:List S74) (i:Int):S74:=xs.getD i.toNat z74
theorem at_T74 {w:World} {A:Option Addr} {n:Nat} {xs:List S74} (h:Kd.C k74 w A n xs) (i:Int) (h0:0≤i) (h1:i<n):∃ ad ,A=some ad∧w.cell? (ad.add (i.toNat * 3))=some (.int .i64 (rd_T74 xs i).f0)∧w.cell? ⟨(ad.add (i.toNat * 3)).block,(ad.add (i.toNat * 3)).off+1,none⟩=some (.string (rd_T74 xs i).f1)∧w.cell? ⟨(ad.add (i.toNat * 3)).block,(ad.add (i.toNat * 3)).off+2,none⟩=some (.int .i64 (rd_T74 xs i).f2):=by
 obtain ⟨ad,c,e,_,hK,hc0⟩:=Kd.C_get h z74 i h0 h1
 have hc:∀ j u,c[j]?=some u→w.cell? (ad.add (i.toNat * 3+j))=some u:=hc0
 obtain rfl:=k74_open hK
 exact ⟨ad,e,hc 0 _ rfl,by rw [← add_field _ _ 1 (by omega)];exact hc 1 _ rfl,by rw [← add_field _ _ 2 (by omega)];exact hc 2 _ rfl⟩

def rd_L7 (xs:List (List S74)) (i:Int):(List S74):=xs.getD i.toNat ([]:List S74)
theorem at_L7 {w:World} {A:Option Addr} {n:Nat} {xs:List (List S74)} (h:Kd.C (Kd.slice 74 k74) w A n xs) (i:Int) (h0:0≤i) (h1:i<n):∃ ad A0 c0,A=some ad∧w.cell? (ad.add i.toNat)=some (.slice A0 (rd_L7 xs i).length c0)∧(rd_L7 xs i).length≤c0∧k74.C w A0 (rd_L7 xs i).length (rd_L7 xs i):=by
 obtain ⟨ad,c,e,_,hK,hc0⟩:=Kd.C_get h ([]:List S74) i h0 h1
 have hc:∀ j u,c[j]?=some u→w.cell? (ad.add (i.toNat * 1+j))=some u:=hc0
 obtain ⟨A0,c0,rfl,l0,g0⟩:=hK
 exact ⟨ad,A0,c0,e,by have hq:=hc 0 _ rfl;rwa [Nat.mul_one,Nat.add_zero] at hq,l0,g0⟩

/-! #### struct type 47 -/
structure S47 where
 f0:ByteArray
 f1:Int
 f2:(List ByteArray)
 f3:S28
def z47:S47:=⟨(⟨#[]⟩:ByteArray),(0:Int),([]:List ByteArray),z28⟩
def k47:Kd S47:=Kd.iso (Kd.pair Kd.string (Kd.pair (Kd.int .u64) (Kd.pair (Kd.slice 9 Kd.string) k28))) (fun x:S47 => (x.f0,x.f1,x.f2,x.f3))
theorem k47_heap:Kd.Heap k47:=Kd.heap_iso _ (Kd.heap_pair Kd.heap_string (Kd.heap_pair (Kd.heap_int .u64) (Kd.heap_pair (Kd.heap_slice 9 Kd.heap_string) k28_heap)))
theorem k47_open {w:World} {x:S47} {cs:List Value} (h:k47.K w x cs):∃ A2 c2 A4 c4,cs=[.string x.f0,.int .u64 x.f1,.slice A2 x.f2.length c2,.int .i64 x.f3.f0,.slice A4 x.f3.f1.length c4,.int .i64 x.f3.f2,.int .u64 x.f3.f3,.string x.f3.f4,.int .u64 x.f3.f5]∧x.f2.length≤c2∧Kd.string.C w A2 x.f2.length x.f2∧x.f3.f1.length≤c4∧k28.C w A4 x.f3.f1.length x.f3.f1:=by
 obtain ⟨_,_,rfl,rfl,⟨_,_,rfl,rfl,⟨_,_,rfl,⟨A2,c2,rfl,l2,g2⟩,s3⟩⟩⟩:=h
 obtain ⟨A4,c4,rfl,l4,g4⟩:=k28_open s3
 exact ⟨A2,c2,A4,c4,rfl,l2,g2,l4,g4⟩
theorem k47_openM {w:World} {base:Nat} {ok:Nat→Prop} {x:S47} {cs:List Value} (h:k47.M w base ok x cs):∃ v2 v4,cs=[.string x.f0,.int .u64 x.f1,v2,.int .i64 x.f3.f0,v4,.int .i64 x.f3.f2,.int .u64 x.f3.f3,.string x.f3.f4,.int .u64 x.f3.f5]∧Kd.string.R 9 w base ok v2 x.f2∧k28.R 28 w base ok v4 x.f3.f1:=by
 obtain ⟨_,_,rfl,rfl,⟨_,_,rfl,rfl,⟨_,_,rfl,⟨v2,rfl,g2⟩,s3⟩⟩⟩:=h
 obtain ⟨v4,rfl,g4⟩:=k28_openM s3
 exact ⟨v2,v4,rfl,g2,g4⟩
theorem k47_mk (w:World) (x:S47) {A2:Option Addr} {c2:Nat} (l2:x.f2.length≤c2) (g2:Kd.string.C w A2 x.f2.length x.f2) {A4:Option Addr} {c4:Nat} (l4:x.f3.f1.length≤c4) (g4:k28.C w A4 x.f3.f1.length x.f3.f1):k47.K w x [.string x.f0,.int .u64 x.f1,.slice A2 x.f2.length c2,.int .i64 x.f3.f0,.slice A4 x.f3.f1.length c4,.int .i64 x.f3.f2,.int .u64 x.f3.f3,.string x.f3.f4,.int .u64 x.f3.f5]:=⟨[.string x.f0],[.int .u64 x.f1,.slice A2 x.f2.length c2,.int .i64 x.f3.f0,.slice A4 x.f3.f1.length c4,.int .i64 x.f3.f2,.int .u64 x.f3.f3,.string x.f3.f4,.int .u64 x.f3.f5],rfl,rfl,⟨[.int .u64 x.f1],[.slice A2 x.f2.length c2,.int .i64 x.f3.f0,.slice A4 x.f3.f1.length c4,.int .i64 x.f3.f2,.int .u64 x.f3.f3,.string x.f3.f4,.int .u64 x.f3.f5],rfl,rfl,⟨[.slice A2 x.f2.length c2],[.int .i64 x.f3.f0,.slice A4 x.f3.f1.length c4,.int .i64 x.f3.f2,.int .u64 x.f3.f3,.string x.f3.f4,.int .u64 x.f3.f5],rfl,⟨A2,c2,rfl,l2,g2⟩,(k28_mk w x.f3 l4 g4)⟩⟩⟩
theorem k47_mkM (w:World) (base:Nat) (ok:Nat→Prop) (x:S47) {v2:Value} (g2:Kd.string.R 9 w base ok v2 x.f2) {v4:Value} (g4:k28.R 28 w base ok v4 x.f3.f1):k47.M w base ok x [.string x.f0,.int .u64 x.f1,v2,.int .i64 x.f3.f0,v4,.int .i64 x.f3.f2,.int .u64 x.f3.f3,.string x.f3.f4,.int .u64 x.f3.f5]:=⟨[.string x.f0],[.int .u64 x.f1,v2,.int .i64 x.f3.f0,v4,.int .i64 x.f3.f2,.int .u64 x.f3.f3,.string x.f3.f4,.int .u64 x.f3.f5],rfl,rfl,⟨[.int .u64 x.f1],[v2,.int .i64 x.f3.f0,v4,.int .i64 x.f3.f2,.int .u64 x.f3.f3,.string x.f3.f4,.int .u64 x.f3.f5],rfl,rfl,⟨[v2],[.int .i64 x.f3.f0,v4,.int .i64 x.f3.f2,.int .u64 x.f3.f3,.string x.f3.f4,.int .u64 x.f3.f5],rfl,⟨v2,rfl,g2⟩,(k28_mkM w base ok x.f3 g4)⟩⟩⟩
theorem k47_openF {W:World} {ok:Nat→Prop} {x:S47} {cs:List Value} (h:Kd.FK k47 W ok x cs):∃ A2 c2 A4 c4,cs=[.string x.f0,.int .u64 x.f1,.slice A2 x.f2.length c2,.int .i64 x.f3.f0,.slice A4 x.f3.f1.length c4,.int .i64 x.f3.f2,.int .u64 x.f3.f3,.string x.f3.f4,.int .u64 x.f3.f5]∧x.f2.length≤c2∧Kd.F Kd.string W ok A2 x.f2.length x.f2∧x.f3.f1.length≤c4∧Kd.F k28 W ok A4 x.f3.f1.length x.f3.f1:=by
 obtain ⟨A2,c2,A4,c4,rfl,l2,_,l4,_⟩:=k47_open (Kd.FK_now h)
 exact ⟨A2,c2,A4,c4,rfl,l2,(fun W' hW => by obtain ⟨A2_,c2_,A4_,c4_,he,l2_,g2_,l4_,g4_⟩:=k47_open (h W' hW);injection (Option.some.inj (show some (Value.slice A2 x.f2.length c2)=some (Value.slice A2_ x.f2.length c2_) from congrArg (fun l => l[2]?) he)) with ha_ _ _;rw [ha_];exact g2_),l4,(fun W' hW => by obtain ⟨A2_,c2_,A4_,c4_,he,l2_,g2_,l4_,g4_⟩:=k47_open (h W' hW);injection (Option.some.inj (show some (Value.slice A4 x.f3.f1.length c4)=some (Value.slice A4_ x.f3.f1.length c4_) from congrArg (fun l => l[4]?) he)) with ha_ _ _;rw [ha_];exact g4_)⟩
theorem k47_mkF (W:World) (ok:Nat→Prop) (x:S47) {A2:Option Addr} {c2:Nat} (l2:x.f2.length≤c2) (g2:Kd.F Kd.string W ok A2 x.f2.length x.f2) {A4:Option Addr} {c4:Nat} (l4:x.f3.f1.length≤c4) (g4:Kd.F k28 W ok A4 x.f3.f1.length x.f3.f1):Kd.FK k47 W ok x [.string x.f0,.int .u64 x.f1,.slice A2 x.f2.length c2,.int .i64 x.f3.f0,.slice A4 x.f3.f1.length c4,.int .i64 x.f3.f2,.int .u64 x.f3.f3,.string x.f3.f4,.int .u64 x.f3.f5]:=fun W2 hW => k47_mk W2 x l2 (g2 W2 hW) l4 (g4 W2 hW)
def rd_T47 (xs:List S47) (i:Int):S47:=xs.getD i.toNat z47
theorem at_T47 {w:World} {A:Option Addr} {n:Nat} {xs:List S47} (h:Kd.C k47 w A n xs) (i:Int) (h0:0≤i) (h1:i<n):∃ ad A2 c2 A4 c4,A=some ad∧w.cell? (ad.add (i.toNat * 9))=some (.string (rd_T47 xs i).f0)∧w.cell? ⟨(ad.add (i.toNat * 9)).block,(ad.add (i.toNat * 9)).off+1,none⟩=some (.int .u64 (rd_T47 xs i).f1)∧w.cell? ⟨(ad.add (i.toNat * 9)).block,(ad.add (i.toNat * 9)).off+2,none⟩=some (.slice A2 (rd_T47 xs i).f2.length c2)∧w.cell? ⟨(ad.add (i.toNat * 9)).block,(ad.add (i.toNat * 9)).off+3,none⟩=some (.int .i64 (rd_T47 xs i).f3.f0)∧w.cell? ⟨(ad.add (i.toNat * 9)).block,(ad.add (i.toNat * 9)).off+4,none⟩=some (.slice A4 (rd_T47 xs i).f3.f1.length c4)∧w.cell? ⟨(ad.add (i.toNat * 9)).block,(ad.add (i.toNat * 9)).off+5,none⟩=some (.int .i64 (rd_T47 xs i).f3.f2)∧w.cell? ⟨(ad.add (i.toNat * 9)).block,(ad.add (i.toNat * 9)).off+6,none⟩=some (.int .u64 (rd_T47 xs i).f3.f3)∧w.cell? ⟨(ad.add (i.toNat * 9)).block,(ad.add (i.toNat * 9)).off+7,none⟩=some (.string (rd_T47 xs i).f3.f4)∧w.cell? ⟨(ad.add (i.toNat * 9)).block,(ad.add (i.toNat * 9)).off+8,none⟩=some (.int .u64 (rd_T47 xs i).f3.f5)∧(rd_T47 xs i).f2.length≤c2∧Kd.string.C w A2 (rd_T47 xs i).f2.length (rd_T47 xs i).f2∧(rd_T47 xs i).f3.f1.length≤c4∧k28.C w A4 (rd_T47 xs i).f3.f1.length (rd_T47 xs i).f3.f1:=by
 obtain ⟨ad,c,e,_,hK,hc0⟩:=Kd.C_get h z47 i h0 h1
 have hc:∀ j u,c[j]?=some u→w.cell? (ad.add (i.toNat * 9+j))=some u:=hc0
 obtain ⟨A2,c2,A4,c4,rfl,l2,g2,l4,g4⟩:=k47_open hK
 exact ⟨ad,A2,c2,A4,c4,e,hc 0 _ rfl,by rw [← add_field _ _ 1 (by omega)];exact hc 1 _ rfl,by rw [← add_field _ _ 2 (by omega)];exact hc 2 _ rfl,by rw [← add_field _ _ 3 (by omega)];exact hc 3 _ rfl,by rw [← add_field _ _ 4 (by omega)];exact hc 4 _ rfl,by rw [← add_field _ _ 5 (by omega)];exact hc 5 _ rfl,by rw [← add_field _ _ 6 (by omega)];exact hc 6 _ rfl,by rw [← add_field _ _ 7 (by omega)];exact hc 7 _ rfl,by rw [← add_field _ _ 8 (by omega)];exact hc 8 _ rfl,l2,g2,l4,g4⟩

def rd_L9 (xs:List (List S47)) (i:Int):(List S47):=xs.getD i.toNat ([]:List S47)
theorem at_L9 {w:World} {A:Option Addr} {n:Nat} {xs:List (List S47)} (h:Kd.C (Kd.slice 47 k47) w A n xs) (i:Int) (h0:0≤i) (h1:i<n):∃ ad A0 c0,A=some ad∧w.cell? (ad.add i.toNat)=some (.slice A0 (rd_L9 xs i).length c0)∧(rd_L9 xs i).length≤c0∧k47.C w A0 (rd_L9 xs i).length (rd_L9 xs i):=by
 obtain ⟨ad,c,e,_,hK,hc0⟩:=Kd.C_get h ([]:List S47) i h0 h1
 have hc:∀ j u,c[j]?=some u→w.cell? (ad.add (i.toNat * 1+j))=some u:=hc0
 obtain ⟨A0,c0,rfl,l0,g0⟩:=hK
 exact ⟨ad,A0,c0,e,by have hq:=hc 0 _ rfl;rwa [Nat.mul_one,Nat.add_zero] at hq,l0,g0⟩

/-! #### struct type 25 -/
structure S25 where
 f0:ByteArray
 f1:ByteArray
 f2:Int
 f3:(List S47)
def z25:S25:=⟨(⟨#[]⟩:ByteArray),(⟨#[]⟩:ByteArray),(0:Int),([]:List S47)⟩
def k25:Kd S25:=Kd.iso (Kd.pair Kd.string (Kd.pair Kd.string (Kd.pair (Kd.int .u64) (Kd.slice 47 k47)))) (fun x:S25 => (x.f0,x.f1,x.f2,x.f3))
theorem k25_heap:Kd.Heap k25:=Kd.heap_iso _ (Kd.heap_pair Kd.heap_string (Kd.heap_pair Kd.heap_string (Kd.heap_pair (Kd.heap_int .u64) (Kd.heap_slice 47 k47_heap))))
theorem k25_open {w:World} {x:S25} {cs:List Value} (h:k25.K w x cs):∃ A3 c3,cs=[.string x.f0,.string x.f1,.int .u64 x.f2,.slice A3 x.f3.length c3]∧x.f3.length≤c3∧k47.C w A3 x.f3.length x.f3:=by
 obtain ⟨_,_,rfl,rfl,⟨_,_,rfl,rfl,⟨_,_,rfl,rfl,⟨A3,c3,rfl,l3,g3⟩⟩⟩⟩:=h
 exact ⟨A3,c3,rfl,l3,g3⟩
theorem k25_openM {w:World} {base:Nat} {ok:Nat→Prop} {x:S25} {cs:List Value} (h:k25.M w base ok x cs):∃ v3,cs=[.string x.f0,.string x.f1,.int .u64 x.f2,v3]∧k47.R 47 w base ok v3 x.f3:=by
 obtain ⟨_,_,rfl,rfl,⟨_,_,rfl,rfl,⟨_,_,rfl,rfl,⟨v3,rfl,g3⟩⟩⟩⟩:=h
 exact ⟨v3,rfl,g3⟩
theorem k25_mk (w:World) (x:S25) {A3:Option Addr} {c3:Nat} (l3:x.f3.length≤c3) (g3:k47.C w A3 x.f3.length x.f3):k25.K w x [.string x.f0,.string x.f1,.int .u64 x.f2,.slice A3 x.f3.length c3]:=⟨[.string x.f0],[.string x.f1,.int .u64 x.f2,.slice A3 x.f3.length c3],rfl,rfl,⟨[.string x.f1],[.int .u64 x.f2,.slice A3 x.f3.length c3],rfl,rfl,⟨[.int .u64 x.f2],[.slice A3 x.f3.length c3],rfl,rfl,⟨A3,c3,rfl,l3,g3⟩⟩⟩⟩
theorem k25_mkM (w:World) (base:Nat) (ok:Nat→Prop) (x:S25) {v3:Value} (g3:k47.R 47 w base ok v3 x.f3):k25.M w base ok x [.string x.f0,.string x.f1,.int .u64 x.f2,v3]:=⟨[.string x.f0],[.string x.f1,.int .u64 x.f2,v3],rfl,rfl,⟨[.string x.f1],[.int .u64 x.f2,v3],rfl,rfl,⟨[.int .u64 x.f2],[v3],rfl,rfl,⟨v3,rfl,g3⟩⟩⟩⟩
theorem k25_openF {W:World} {ok:Nat→Prop} {x:S25} {cs:List Value} (h:Kd.FK k25 W ok x cs):∃ A3 c3,cs=[.string x.f0,.string x.f1,.int .u64 x.f2,.slice A3 x.f3.length c3]∧x.f3.length≤c3∧Kd.F k47 W ok A3 x.f3.length x.f3:=by
 obtain ⟨A3,c3,rfl,l3,_⟩:=k25_open (Kd.FK_now h)
 exact ⟨A3,c3,rfl,l3,(fun W' hW => by obtain ⟨A3_,c3_,he,l3_,g3_⟩:=k25_open (h W' hW);injection (Option.some.inj (show some (Value.slice A3 x.f3.length c3)=some (Value.slice A3_ x.f3.length c3_) from congrArg (fun l => l[3]?) he)) with ha_ _ _;rw [ha_];exact g3_)⟩
theorem k25_mkF (W:World) (ok:Nat→Prop) (x:S25) {A3:Option Addr} {c3:Nat} (l3:x.f3.length≤c3) (g3:Kd.F k47 W ok A3 x.f3.length x.f3):Kd.FK k25 W ok x [.string x.f0,.string x.f1,.int .u64 x.f2,.slice A3 x.f3.length c3]:=fun W2 hW => k25_mk W2 x l3 (g3 W2 hW)
def rd_T25 (xs:List S25) (i:Int):S25:=xs.getD i.toNat z25
theorem at_T25 {w:World} {A:Option Addr} {n:Nat} {xs:List S25} (h:Kd.C k25 w A n xs) (i:Int) (h0:0≤i) (h1:i<n):∃ ad A3 c3,A=some ad∧w.cell? (ad.add (i.toNat * 4))=some (.string (rd_T25 xs i).f0)∧w.cell? ⟨(ad.add (i.toNat * 4)).block,(ad.add (i.toNat * 4)).off+1,none⟩=some (.string (rd_T25 xs i).f1)∧w.cell? ⟨(ad.add (i.toNat * 4)).block,(ad.add (i.toNat * 4)).off+2,none⟩=some (.int .u64 (rd_T25 xs i).f2)∧w.cell? ⟨(ad.add (i.toNat * 4)).block,(ad.add (i.toNat * 4)).off+3,none⟩=some (.slice A3 (rd_T25 xs i).f3.length c3)∧(rd_T25 xs i).f3.length≤c3∧k47.C w A3 (rd_T25 xs i).f3.length (rd_T25 xs i).f3:=by
 obtain ⟨ad,c,e,_,hK,hc0⟩:=Kd.C_get h z25 i h0 h1
 have hc:∀ j u,c[j]?=some u→w.cell? (ad.add (i.toNat * 4+j))=some u:=hc0
 obtain ⟨A3,c3,rfl,l3,g3⟩:=k25_open hK
 exact ⟨ad,A3,c3,e,hc 0 _ rfl,by rw [← add_field _ _ 1 (by omega)];exact hc 1 _ rfl,by rw [← add_field _ _ 2 (by omega)];exact hc 2 _ rfl,by rw [← add_field _ _ 3 (by omega)];exact hc 3 _ rfl,l3,g3⟩

theorem zN {w : World} {g n : Nat} {o : Obj} (h : w.heap[g]? = some o) : (w.drewN n).heap[g]? = some o := blk_drewN h n
theorem zD {w : World} {g : Nat} {o : Obj} (h : w.heap[g]? = some o) : w.drew.heap[g]? = some o := blk_drew h
theorem zA {w : World} {g : Nat} {o o' : Obj} (h : w.heap[g]? = some o) : (w.alloc o').heap[g]? = some o := blk_alloc h o'
end Go.Proofs.YtdfjjimmnbijmaaGreatDoor.ZQ

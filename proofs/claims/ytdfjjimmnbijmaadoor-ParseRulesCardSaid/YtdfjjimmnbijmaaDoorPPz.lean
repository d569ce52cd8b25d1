-- Written for this claim by myprint.py over the kit's print (functions of this session supplied)
import Derived.Test.YtdfjjimmnbijmaaDoorPPu
namespace Go.Proofs.YtdfjjimmnbijmaaDoor.PP
open Go.RowKit Go.Proofs.YtdfjjimmnbijmaaDoorW.PrintWords Go.Proofs.YtdfjjimmnbijmaaDoorW.PrintLast Go.Proofs.YtdfjjimmnbijmaaDoorW.PrintMore Go.Proofs.YtdfjjimmnbijmaaDoor.Base
attribute [local go_sem] max2_int min2_int max_two min_two max_three min_three max_four min_four   -- for this text's walks alone
set_option linter.unusedVariables false
set_option linter.unusedSimpArgs false

theorem info81 : (Tryd.prog.info? 81).map (fun i => (i.zero, i.size, i.bytes)) = some (some (.agg #[(.string ⟨#[]⟩), (.int .u64 0), (.slice none 0 0), (.int .i64 0), (.slice none 0 0), (.int .i64 0), (.int .u64 0), (.string ⟨#[]⟩), (.int .u64 0)]), 9, 120) := by kernel_rfl
theorem k34_mkF (W : World) (ok : Nat → Prop) (x : S34) : Kd.FK k34 W ok x [.int .i64 x.f0, .string x.f1, .int .i64 x.f2] := fun W2 _ => k34_mk W2 x
theorem k47_openF {W : World} {ok : Nat → Prop} {x : S47} {cs : List Value} (h : Kd.FK k47 W ok x cs) : ∃ A1 c1, cs = [.int .i64 x.f0, .slice A1 x.f1.length c1, .int .i64 x.f2, .int .u64 x.f3, .string x.f4, .int .u64 x.f5] ∧ x.f1.length ≤ c1 ∧ Kd.F k47 W ok A1 x.f1.length x.f1 := by
  obtain ⟨A1, c1, rfl, l1, _⟩ := k47_open (Kd.FK_now h)
  exact ⟨A1, c1, rfl, l1, (fun W' hW => by obtain ⟨A1_, c1_, he, l1_, g1_⟩ := k47_open (h W' hW); injection (Option.some.inj (show some (Value.slice A1 x.f1.length c1) = some (Value.slice A1_ x.f1.length c1_) from congrArg (fun l => l[1]?) he)) with ha_ _ _; rw [ha_]; exact g1_)⟩
theorem k47_mkF (W : World) (ok : Nat → Prop) (x : S47) {A1 : Option Addr} {c1 : Nat} (l1 : x.f1.length ≤ c1) (g1 : Kd.F k47 W ok A1 x.f1.length x.f1) : Kd.FK k47 W ok x [.int .i64 x.f0, .slice A1 x.f1.length c1, .int .i64 x.f2, .int .u64 x.f3, .string x.f4, .int .u64 x.f5] := fun W2 hW => k47_mk W2 x l1 (g1 W2 hW)
theorem k81_openF {W : World} {ok : Nat → Prop} {x : S81} {cs : List Value} (h : Kd.FK k81 W ok x cs) : ∃ A2 c2 A4 c4, cs = [.string x.f0, .int .u64 x.f1, .slice A2 x.f2.length c2, .int .i64 x.f3.f0, .slice A4 x.f3.f1.length c4, .int .i64 x.f3.f2, .int .u64 x.f3.f3, .string x.f3.f4, .int .u64 x.f3.f5] ∧ x.f2.length ≤ c2 ∧ Kd.F Kd.string W ok A2 x.f2.length x.f2 ∧ x.f3.f1.length ≤ c4 ∧ Kd.F k47 W ok A4 x.f3.f1.length x.f3.f1 := by
  obtain ⟨A2, c2, A4, c4, rfl, l2, _, l4, _⟩ := k81_open (Kd.FK_now h)
  exact ⟨A2, c2, A4, c4, rfl, l2, (fun W' hW => by obtain ⟨A2_, c2_, A4_, c4_, he, l2_, g2_, l4_, g4_⟩ := k81_open (h W' hW); injection (Option.some.inj (show some (Value.slice A2 x.f2.length c2) = some (Value.slice A2_ x.f2.length c2_) from congrArg (fun l => l[2]?) he)) with ha_ _ _; rw [ha_]; exact g2_), l4, (fun W' hW => by obtain ⟨A2_, c2_, A4_, c4_, he, l2_, g2_, l4_, g4_⟩ := k81_open (h W' hW); injection (Option.some.inj (show some (Value.slice A4 x.f3.f1.length c4) = some (Value.slice A4_ x.f3.f1.length c4_) from congrArg (fun l => l[4]?) he)) with ha_ _ _; rw [ha_]; exact g4_)⟩
theorem k81_mkF (W : World) (ok : Nat → Prop) (x : S81) {A2 : Option Addr} {c2 : Nat} (l2 : x.f2.length ≤ c2) (g2 : Kd.F Kd.string W ok A2 x.f2.length x.f2) {A4 : Option Addr} {c4 : Nat} (l4 : x.f3.f1.length ≤ c4) (g4 : Kd.F k47 W ok A4 x.f3.f1.length x.f3.f1) : Kd.FK k81 W ok x [.string x.f0, .int .u64 x.f1, .slice A2 x.f2.length c2, .int .i64 x.f3.f0, .slice A4 x.f3.f1.length c4, .int .i64 x.f3.f2, .int .u64 x.f3.f3, .string x.f3.f4, .int .u64 x.f3.f5] := fun W2 hW => k81_mk W2 x l2 (g2 W2 hW) l4 (g4 W2 hW)
theorem k41_openF {W : World} {ok : Nat → Prop} {x : S41} {cs : List Value} (h : Kd.FK k41 W ok x cs) : ∃ A3 c3, cs = [.string x.f0, .string x.f1, .int .u64 x.f2, .slice A3 x.f3.length c3] ∧ x.f3.length ≤ c3 ∧ Kd.F k81 W ok A3 x.f3.length x.f3 := by
  obtain ⟨A3, c3, rfl, l3, _⟩ := k41_open (Kd.FK_now h)
  exact ⟨A3, c3, rfl, l3, (fun W' hW => by obtain ⟨A3_, c3_, he, l3_, g3_⟩ := k41_open (h W' hW); injection (Option.some.inj (show some (Value.slice A3 x.f3.length c3) = some (Value.slice A3_ x.f3.length c3_) from congrArg (fun l => l[3]?) he)) with ha_ _ _; rw [ha_]; exact g3_)⟩
theorem k41_mkF (W : World) (ok : Nat → Prop) (x : S41) {A3 : Option Addr} {c3 : Nat} (l3 : x.f3.length ≤ c3) (g3 : Kd.F k81 W ok A3 x.f3.length x.f3) : Kd.FK k41 W ok x [.string x.f0, .string x.f1, .int .u64 x.f2, .slice A3 x.f3.length c3] := fun W2 hW => k41_mk W2 x l3 (g3 W2 hW)
theorem zN {w : World} {g : Nat} {o : Obj} (h : w.heap[g]? = some o) (n : Nat) : (w.drewN n).heap[g]? = some o := blk_drewN h n
theorem zD {w : World} {g : Nat} {o : Obj} (h : w.heap[g]? = some o) : w.drew.heap[g]? = some o := h
theorem zA {w : World} {g : Nat} {o : Obj} (h : w.heap[g]? = some o) (o' : Obj) : (w.alloc o').heap[g]? = some o := blk_alloc h o'
end Go.Proofs.YtdfjjimmnbijmaaDoor.PP

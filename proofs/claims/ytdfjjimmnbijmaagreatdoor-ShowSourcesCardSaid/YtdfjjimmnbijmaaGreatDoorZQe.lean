import Derived.Test.YtdfjjimmnbijmaaGreatDoorZQd
namespace Go.Proofs.YtdfjjimmnbijmaaGreatDoor.ZQ
open Go.RowKit Go.Proofs.YtdfjjimmnbijmaaGreatDoorW.PrintWords Go.Proofs.YtdfjjimmnbijmaaGreatDoorW.PrintLast Go.Proofs.YtdfjjimmnbijmaaGreatDoorW.PrintMore Go.Proofs.YtdfjjimmnbijmaaGreatDoor.Base
attribute [local go_sem] max2_int min2_int max_two min_two max_three min_three max_four min_four
set_option linter.unusedVariables false
set_option linter.unusedSimpArgs false
theorem goesP_ {P : Program} {ops : Array Oper} {Q : Exit → Act → World → Prop} {oi : Oper} {N : Option Tmp} {a : Act} {w : World} {K : Act → World → Prop} {f : FuncId} {fn : Func} {ps : Array Operand} {ts : Array TypeId} (hf : P.funcs[f]? = some fn) (hname : (fn.name == "runtime.NumGoroutine") = false) (hb : fn.body.isSome = true) (args : Array Value)
    (hw : Region.wanted oi (yielded ops a.tmps) = true) (hN : oi.dst = N) (hop : oi.op = .call { callee := .value (.func f), args := ps, argTypes := ts }) (hargs : ps.map a.eval = args)
    (h : Calls P f args w fun e w' => (∃ v, e = .returned v ∧ K (a.put N v) w') ∨ (∃ c, e = .panicked c ∧ Q (.panic c) a w')) : if Region.wanted oi (yielded ops a.tmps) = true then Oper.wp P oi a w K Q else K (a.put N undef) w := by
  have he := enters_ hf hname hb args w
  have hrun : (execOp a.eval oi).run P w = .ok (.enter f args) w := by
    unfold execOp
    simp [hop, resolve, Deferred.ofValue, invoke, Act.eval, hargs, he]
  rw [if_pos hw]
  subst hN
  unfold Oper.wp
  rw [hrun, Oper.upon_enter]
  refine h.mono fun e w'' hh => ?_
  rcases hh with ⟨v, rfl, hk⟩ | ⟨c, rfl, hq⟩
  · exact hk
  · exact hq
def emptyT : ByteArray := ⟨#[]⟩
def ifT : ByteArray := ⟨#[105, 102]⟩
def namesP : Nat → List ByteArray → List S74 → Except (Int × Int) (List ByteArray × List S74)
  | 0, acc, l => .ok (acc, l)
  | n + 1, acc, l => if (isP 1 emptyT l && !resS (hd l).f1) = true then bnd (wordP l) fun x => namesP n (acc ++ [x.1]) x.2 else .ok (acc, l)
def ruleP (l : List S74) : Except (Int × Int) (S47 × List S74) :=
  bnd (actP l) fun a => bnd (wordP a.2) fun nm => bnd (namesP nm.2.length [nm.1] nm.2) fun ns =>
    if isP 1 ifT ns.2 = true then bnd (condP (factorP ns.2.length 0) ns.2.tail) fun c => .ok (⟨a.1.1, a.1.2, ns.1, c.1⟩, c.2) else .ok (⟨a.1.1, a.1.2, ns.1, z28⟩, ns.2)
theorem infoS : (Tryz.prog.info? 9).map (fun i => (i.zero, i.size, i.bytes)) = some (some (.string ⟨#[]⟩), 1, 16) := by kernel_rfl
def ruleV (B : Nat) (x : S47) (w : World) (v : Value) : Prop := ∃ nv kv, v = .agg #[.string x.f0, .int .u64 x.f1, nv, .int .i64 x.f3.f0, kv, .int .i64 x.f3.f2, .int .u64 x.f3.f3, .string x.f3.f4, .int .u64 x.f3.f5] ∧ Kd.string.R 9 w B (fun _ => True) nv x.f2 ∧ k28.R 28 w B (fun _ => True) kv x.f3.f1
theorem word_len {l l' : List S74} {s : ByteArray} (h0 : l ≠ []) (h : wordP l = .ok (s, l')) : l'.length + 1 = l.length := by
  unfold wordP at h
  split at h
  · cases h
  · obtain ⟨_, rfl, _⟩ := takeP_ok h
    have := List.length_pos_iff.2 h0
    simp; omega
theorem act_shr : Shr actP := fun l c l' h => by
  obtain ⟨⟨s, l1⟩, h1, h2⟩ := bnd_inv h
  have e1 : l1.length ≤ l.length := by
    unfold wordP at h1
    split at h1
    · cases h1
    · exact take_shr _ _ _ _ _ h1
  simp only at h2
  split at h2
  · obtain ⟨⟨n, l2⟩, h3, h4⟩ := bnd_inv h2
    cases h4
    exact Nat.le_trans (num_shr _ _ _ h3) e1
  · cases h2; exact e1
theorem rule_store {w w2 : World} {b tb : Nat} {cs : Array Value} {l' : List S74} {R : Except (Int × Int) (S47 × List S74)} (hbw : b < w.heap.size) (htw : tb < w.heap.size) (hP : PInv w2 b tb cs l' 0) (hG : w.grownBy w2 (some b)) (c : S47) (nv kv : Value) (hR : R = .ok (c, l')) (hN : Kd.string.R 9 w2 (w.heap.size + 1) (fun _ => True) nv c.f2) (hK : k28.R 28 w2 (w.heap.size + 1) (fun _ => True) kv c.f3.f1) :
    PPost w b tb cs 0 (ruleV w.heap.size) R (.returned (.agg #[.string c.f0, .int .u64 c.f1, nv, .int .i64 c.f3.f0, kv, .int .i64 c.f3.f2, .int .u64 c.f3.f3, .string c.f3.f4, .int .u64 c.f3.f5])) (((((((((w2.setCell ⟨w.heap.size, 0, none⟩ (.string c.f0)).setCell ⟨w.heap.size, 1, none⟩ (.int .u64 c.f1)).setCell ⟨w.heap.size, 2, none⟩ nv).setCell ⟨w.heap.size, 3, none⟩ (.int .i64 c.f3.f0)).setCell ⟨w.heap.size, 4, none⟩ kv).setCell ⟨w.heap.size, 5, none⟩ (.int .i64 c.f3.f2)).setCell ⟨w.heap.size, 6, none⟩ (.int .u64 c.f3.f3)).setCell ⟨w.heap.size, 7, none⟩ (.string c.f3.f4)).setCell ⟨w.heap.size, 8, none⟩ (.int .u64 c.f3.f5)) := by
  have n3 : w.heap.size ≠ tb := by omega
  have far : ∀ {α : Type} {d : Kd α} {e : Nat} {v : Value} {xs : List α} {W : World} (j : Nat) (u : Value), d.R e W (w.heap.size + 1) (fun _ => True) v xs → d.R e (W.setCell ⟨w.heap.size, j, none⟩ u) (w.heap.size + 1) (fun _ => True) v xs := fun j u h => Kd.R_mono (Kd.R_far (Kd.R_bound h) (p := ⟨w.heap.size, j, none⟩) (fun k hk => by have := hk.2.1; show k ≠ w.heap.size; omega) u) (fun _ hk => hk.1)
  refine PPost.mk_ok hR ?_ ⟨nv, kv, rfl, ?_, ?_⟩ ?_
  · exact grown_new (grown_new (grown_new (grown_new (grown_new (grown_new (grown_new (grown_new (grown_new hG (Nat.le_refl _) _ _) (Nat.le_refl _) _ _) (Nat.le_refl _) _ _) (Nat.le_refl _) _ _) (Nat.le_refl _) _ _) (Nat.le_refl _) _ _) (Nat.le_refl _) _ _) (Nat.le_refl _) _ _) (Nat.le_refl _) _ _
  · exact Kd.R_lower (far _ _ (far _ _ (far _ _ (far _ _ (far _ _ (far _ _ (far _ _ (far _ _ (far _ _ hN))))))))) (by omega)
  · exact Kd.R_lower (far _ _ (far _ _ (far _ _ (far _ _ (far _ _ (far _ _ (far _ _ (far _ _ (far _ _ hK))))))))) (by omega)
  · exact ((((((((hP.far hbw n3 _ _).far hbw n3 _ _).far hbw n3 _ _).far hbw n3 _ _).far hbw n3 _ _).far hbw n3 _ _).far hbw n3 _ _).far hbw n3 _ _).far hbw n3 _ _
set_option maxHeartbeats 6400000 in
set_option maxRecDepth 100000 in
theorem rulep_any {b tb : Nat} {cs : Array Value} {l : List S74} (w : World) (hM : l.length ≤ 1000000) (h : PInv w b tb cs l 0) :
    Calls Tryz.prog 59 #[.pointer (some ⟨b, 0, none⟩)] w (PPost w b tb cs 0 (ruleV w.heap.size) (ruleP l)) := by
  have HI := Aside0.mk h
  obtain ⟨R, hR⟩ : ∃ R, R = ruleP l := ⟨_, rfl⟩
  rw [← hR]
  have HR := Aside0.mk hR
  have hbw : b < w.heap.size := h.tlt.2
  have htw : tb < w.heap.size := h.tlt.1
  clear h hR
  go_enter Tryz.func59, Tryz.ntmps59
  go_wp2_with fail
  have hb0 : Below w.heap.size w ((w.alloc (.cells #[.string ⟨#[]⟩, .int .u64 0, .slice none 0 0, .int .i64 0, .slice none 0 0, .int .i64 0, .int .u64 0, .string ⟨#[]⟩, .int .u64 0] 47)).alloc (.cells #[.string ⟨#[]⟩, .int .u64 0, .slice none 0 0, .int .i64 0, .slice none 0 0, .int .i64 0, .int .u64 0, .string ⟨#[]⟩, .int .u64 0] 47)) := ((Below.refl _ _).alloc (Nat.le_refl _) _).alloc (by simp) _
  have hz0 : ((w.alloc (.cells #[.string ⟨#[]⟩, .int .u64 0, .slice none 0 0, .int .i64 0, .slice none 0 0, .int .i64 0, .int .u64 0, .string ⟨#[]⟩, .int .u64 0] 47)).alloc (.cells #[.string ⟨#[]⟩, .int .u64 0, .slice none 0 0, .int .i64 0, .slice none 0 0, .int .i64 0, .int .u64 0, .string ⟨#[]⟩, .int .u64 0] 47)).heap[w.heap.size]? = some (.cells #[.string ⟨#[]⟩, .int .u64 0, .slice none 0 0, .int .i64 0, .slice none 0 0, .int .i64 0, .int .u64 0, .string ⟨#[]⟩, .int .u64 0] 47 (0, 0)) := blk_alloc (heap_alloc_new w _) _
  have hz1 : ((w.alloc (.cells #[.string ⟨#[]⟩, .int .u64 0, .slice none 0 0, .int .i64 0, .slice none 0 0, .int .i64 0, .int .u64 0, .string ⟨#[]⟩, .int .u64 0] 47)).alloc (.cells #[.string ⟨#[]⟩, .int .u64 0, .slice none 0 0, .int .i64 0, .slice none 0 0, .int .i64 0, .int .u64 0, .string ⟨#[]⟩, .int .u64 0] 47)).heap[w.heap.size + 1]? = some (.cells #[.string ⟨#[]⟩, .int .u64 0, .slice none 0 0, .int .i64 0, .slice none 0 0, .int .i64 0, .int .u64 0, .string ⟨#[]⟩, .int .u64 0] 47 (0, 0)) := by
    have h_ := heap_alloc_new (w.alloc (.cells #[.string ⟨#[]⟩, .int .u64 0, .slice none 0 0, .int .i64 0, .slice none 0 0, .int .i64 0, .int .u64 0, .string ⟨#[]⟩, .int .u64 0] 47)) (.cells #[.string ⟨#[]⟩, .int .u64 0, .slice none 0 0, .int .i64 0, .slice none 0 0, .int .i64 0, .int .u64 0, .string ⟨#[]⟩, .int .u64 0] 47)
    rw [World.size_alloc] at h_; exact h_
  go_at_call 57
  refine (actionp_any _ ((HI.out.al _).al _)).mono ?_
  intro e w1 hp1
  cases hr1 : actP l with
  | error x =>
    obtain ⟨bad, at_⟩ := x
    obtain ⟨hg, rfl⟩ := hp1.err hr1
    go_wp2_with fail
    exact ⟨rfl, PPost.mk_err (HR.out.trans (by unfold ruleP; rw [hr1]; rfl)) (grown_below hb0 hg)⟩
  | ok x =>
  obtain ⟨⟨nm, dt⟩, l1⟩ := x
  obtain ⟨hg1, ⟨v, rfl, hv⟩, hP1⟩ := hp1.ok hr1
  unfold actV at hv
  subst hv
  have hG1 := grown_below hb0 hg1
  have hZ1 := blk_grown hz0 hg1 (by intro e; have := Option.some.inj e; omega)
  have hC1 := blk_grown hz1 hg1 (by intro e; have := Option.some.inj e; omega)
  have hw1 := blk_lt hC1
  have c10 : w1.cell? ⟨w.heap.size + 1, 0, none⟩ = some (.string ⟨#[]⟩) := (blk_cell hC1 0).trans rfl
  have c11 : w1.cell? ⟨w.heap.size + 1, 1, none⟩ = some (.int .u64 0) := (blk_cell hC1 1).trans rfl
  have f10 := blk_frozen hC1 0
  have f11 := blk_frozen hC1 1
  obtain ⟨W1, hW1⟩ : ∃ W1, W1 = (w1.setCell ⟨w.heap.size + 1, 0, none⟩ (.string nm)).setCell ⟨w.heap.size + 1, 1, none⟩ (.int .u64 dt) := ⟨_, rfl⟩
  have HR1 := Aside0.mk (HR.out.trans (show ruleP l = bnd (wordP l1) fun nm_ => bnd (namesP nm_.2.length [nm_.1] nm_.2) fun ns => if isP 1 ifT ns.2 = true then bnd (condP (factorP ns.2.length 0) ns.2.tail) fun c => .ok (⟨nm, dt, ns.1, c.1⟩, c.2) else .ok (⟨nm, dt, ns.1, z28⟩, ns.2) by unfold ruleP; rw [hr1]; rfl))
  have n1_ : b < w.heap.size + 1 := by omega
  have n2_ : w.heap.size + 1 ≠ tb := by omega
  have HP1 := Aside0.mk (show PInv W1 b tb cs l1 0 by rw [hW1]; exact (hP1.far n1_ n2_ _ _).far n1_ n2_ _ _)
  have HG1 := Aside0.mk (show w.grownBy W1 (some b) by rw [hW1]; exact grown_new (grown_new hG1 (by omega) _ _) (by omega) _ _)
  have HZ1 := Aside0.mk (show W1.heap[w.heap.size]? = some (.cells #[.string ⟨#[]⟩, .int .u64 0, .slice none 0 0, .int .i64 0, .slice none 0 0, .int .i64 0, .int .u64 0, .string ⟨#[]⟩, .int .u64 0] 47 (0, 0)) by rw [hW1]; exact (Below.heap_setCell _ _ _ _ (by show w.heap.size ≠ w.heap.size + 1; omega)).trans ((Below.heap_setCell _ _ _ _ (by show w.heap.size ≠ w.heap.size + 1; omega)).trans hZ1))
  have HC1 := Aside0.mk (show W1.heap[w.heap.size + 1]? = some (.cells #[.string nm, .int .u64 dt, .slice none 0 0, .int .i64 0, .slice none 0 0, .int .i64 0, .int .u64 0, .string ⟨#[]⟩, .int .u64 0] 47 (0, 0)) by rw [hW1]; exact blk_in (blk_in hC1 _) _)
  clear hp1 hg1 hP1 hG1 hZ1 hC1 hz0 hz1 hb0
  go_wp2_with fail
  rw [← hW1]
  clear c10 c11 f10 f11 hW1
  have hdr : Below W1.heap.size W1 W1.drew := (Below.refl _ _).drew
  have HPd := Aside0.mk (HP1.out.grown hdr)
  have HGd := Aside0.mk (grown_trans HG1.out (grown_of_below hdr (some b)))
  have HZd := Aside0.mk (blk_below HZ1.out hdr)
  have hCd := blk_below HC1.out hdr
  have HCd := Aside0.mk hCd
  have HNd := Aside0.mk (Kd.R_nil Kd.string 9 W1.drew (w.heap.size + 2) (fun _ => True))
  have hc2 : W1.drew.cell? ⟨w.heap.size + 1, 2, none⟩ = some (.slice none 0 0) := (blk_cell hCd 2).trans rfl
  clear hCd
  refine start_ (n := 8) (S := fun w' => w'.cell? ⟨w.heap.size + 1, 2, none⟩ = some (.slice none 0 0)) (ds := [7]) #[false, false, false, false, false, false, false, false] (by kernel_rfl) rfl rfl (hc2) (fun hHeld => ?_)
  refine pure_ (i := 0) (N := some 11) (v := ?_) (a' := ?_) #[true, false, false, false, false, false, false, false] rfl rfl (by kernel_rfl) (fun _ _ _ h => h) (Or.inl ⟨by rfl, ?_⟩) ?_ ?_
  rotate_left
  · intro w'
    go_simp
    with_reducible rfl
  rotate_left
  · simp only [Act.put, List.setIfInBounds_toArray, List.set_cons_zero, List.set_cons_succ, i64_w, i32_w]
    rfl
  refine pure_ (i := 2) (N := some 13) (v := ?_) (a' := ?_) #[true, false, true, false, false, false, false, false] rfl rfl (by kernel_rfl) (fun _ _ _ h => h) (Or.inl ⟨by rfl, ?_⟩) ?_ ?_
  rotate_left
  · intro w'
    go_simp
    with_reducible rfl
  rotate_left
  · simp only [Act.put, List.setIfInBounds_toArray, List.set_cons_zero, List.set_cons_succ, i64_w, i32_w]
    rfl
  refine take_ (i := 1) (N := some 12) (v := ?_) (a' := ?_) #[true, true, true, false, false, false, false, false] rfl rfl (by kernel_rfl) (fun _ _ _ h => h) (Or.inl ⟨by rfl, ?_⟩) hHeld ?_ ?_
  rotate_left
  · intro w' s0
    go_simp
    with_reducible rfl
  rotate_left
  · simp only [Act.put, List.setIfInBounds_toArray, List.set_cons_zero, List.set_cons_succ, i64_w, i32_w]
    rfl
  refine one_ (i := 3) (N := some 14) #[true, true, true, true, false, false, false, false] rfl rfl (by kernel_rfl) (by decide) (fun K hK => ?_)
  refine goesP_ Tryz.func55 (by kernel_rfl) rfl #[.pointer (some ⟨b, 0, none⟩)] (by rfl) rfl rfl (by simp only [List.map_toArray, List.map_cons, List.map_nil]; rfl) ?_
  refine (wordp_any _ HPd.out).mono ?_
  intro e w4 hp4
  rcases hr4 : wordP l1 with ⟨bad, at_⟩ | ⟨s4, l4⟩
  · obtain ⟨hg, rfl⟩ := hp4.err hr4; exact Or.inr ⟨_, rfl, rfl, PPost.mk_err (HR1.out.trans (by simp only [hr4, bnd_ok]; rfl)) (grown_trans HGd.out hg)⟩
  obtain ⟨hg4, ⟨v, rfl, hv⟩, hP4⟩ := hp4.ok hr4
  unfold strV at hv
  subst hv
  have HP4 := Aside0.mk hP4
  have HG4 := Aside0.mk (grown_trans HGd.out hg4)
  have HZ4 := Aside0.mk (blk_grown HZd.out hg4 (by intro e; have := Option.some.inj e; omega))
  have HC4 := Aside0.mk (blk_grown HCd.out hg4 (by intro e; have := Option.some.inj e; omega))
  have HN4 := Aside0.mk (R_keep HNd.out hg4 (by omega))
  clear hp4 hg4 hP4
  refine Or.inl ⟨_, rfl, ?_⟩
  refine hK.out _ _ (((blk_cell HC4.out 2).trans rfl)) (fun hHeld => ?_)
  clear hK K
  refine norm_ (a' := ?_) ?_ ?_
  rotate_left
  · show Act.put _ (some 14) _ = _
    simp only [Act.put, List.setIfInBounds_toArray, List.set_cons_zero, List.set_cons_succ, i64_w, i32_w]
    rfl
  refine one_ (i := 4) (N := some 15) #[true, true, true, true, true, false, false, false] rfl rfl (by kernel_rfl) (by decide) (fun K hK => ?_)
  refine value_ (w1 := ?_) (v := ?_) (by rfl) rfl ?_ ?_
  rotate_left 2
  · go_simp
    constructor
    · rfl
    · rfl
  refine hK.out _ _ (((blk_cell (blk_alloc HC4.out _) 2).trans rfl)) (fun hHeld => ?_)
  clear hK K
  refine norm_ (a' := ?_) ?_ ?_
  rotate_left
  · show Act.put _ (some 15) _ = _
    simp only [Act.put, List.setIfInBounds_toArray, List.set_cons_zero, List.set_cons_succ, i64_w, i32_w]
    rfl
  refine one_ (i := 5) (N := some 16) #[true, true, true, true, true, true, false, false] rfl rfl (by kernel_rfl) (by decide) (fun K hK => ?_)
  refine Kd.R_append_step Kd.string (w0 := w4) (w.heap.size + 2) (by rfl) (.tmp 12) (.tmp 15) 45 9 (.string ⟨#[]⟩) 16 rfl Tryz.underlying45 infoS rfl (by decide) (by decide) (.slice none 0 0) [] s4 [.string s4] (fun _ => True) (fun _ => False) rfl rfl ?aP (fun _ hk => hk.elim) (fun _ _ => trivial) HN4.out (Below.refl _ _) ?aS ?aL ?_
  case aP => exact rfl
  case aS => have := blk_lt HC4.out; omega
  case aL => simp
  intro v5 w5 hR5 hb5 hg5 _
  obtain ⟨A5, c5_, e5_⟩ := Kd.R_slice hR5
  subst e5_
  have HR5 := Aside0.mk hR5
  have HB5 := Aside0.mk hb5
  have HP5 := Aside0.mk (HP4.out.grownB hb5 (by omega) (by omega))
  have HG5 := Aside0.mk (grown_b HG4.out hb5 (by omega))
  have HZ5 := Aside0.mk ((hb5.block _ (by omega)).trans HZ4.out)
  have hC5 := (hb5.block (w.heap.size + 1) (by omega)).trans HC4.out
  have HC5 := Aside0.mk hC5
  have hc52 := (blk_cell hC5 2).trans rfl
  have hf52 := blk_frozen hC5 2
  clear hR5 hb5 hg5 hC5
  refine hK.out _ _ (((blk_cell HC5.out 2).trans rfl)) (fun hHeld => ?_)
  clear hK K
  refine norm_ (a' := ?_) ?_ ?_
  rotate_left
  · show Act.put _ (some 16) _ = _
    simp only [Act.put, List.setIfInBounds_toArray, List.set_cons_zero, List.set_cons_succ, i64_w, i32_w]
    rfl
  refine pure_ (i := 6) (N := some 17) (v := ?_) (a' := ?_) #[true, true, true, true, true, true, true, false] rfl rfl (by kernel_rfl) (fun _ _ _ h => h) (Or.inl ⟨by rfl, ?_⟩) ?_ ?_
  rotate_left
  · intro w'
    go_simp
    with_reducible rfl
  rotate_left
  · simp only [Act.put, List.setIfInBounds_toArray, List.set_cons_zero, List.set_cons_succ, i64_w, i32_w]
    rfl
  refine last_ (i := 7) (N := none) #[true, true, true, true, true, true, true, true] rfl rfl (by kernel_rfl) (by decide) (fun K hK => ?_)
  refine skip_ (w1 := ?_) (by rfl) rfl ?_ ?_
  rotate_left
  · go_simp
    rfl
  refine hK.out _ _ ?_
  clear hK K
  refine done_ (by kernel_rfl) ?_
  have far2 : ∀ {α : Type} {d : Kd α} {e : Nat} {v : Value} {xs : List α} {W : World} (j : Nat) (u : Value), d.R e W (w.heap.size + 2) (fun _ => True) v xs → d.R e (W.setCell ⟨w.heap.size + 1, j, none⟩ u) (w.heap.size + 2) (fun _ => True) v xs := fun j u h => Kd.R_mono (Kd.R_far (Kd.R_bound h) (p := ⟨w.heap.size + 1, j, none⟩) (fun k hk => by have := hk.2.1; show k ≠ w.heap.size + 1; omega) u) (fun _ hk => hk.1)
  have HFAR := Aside0.mk @far2
  have HL1 := Aside0.mk (act_shr l (nm, dt) l1 hr1)
  have HL4 := Aside0.mk (word_len HP1.out.pos hr4)
  obtain ⟨W6, hW6⟩ : ∃ W6, W6 = w5.setCell ⟨w.heap.size + 1, 2, none⟩ (.slice A5 1 c5_) := ⟨_, rfl⟩
  have HP6 := Aside0.mk (show PInv W6 b tb cs l4 0 by rw [hW6]; exact HP5.out.far n1_ n2_ _ _)
  have HG6 := Aside0.mk (show w.grownBy W6 (some b) by rw [hW6]; exact grown_new HG5.out (by omega) _ _)
  have HZ6 := Aside0.mk (show W6.heap[w.heap.size]? = some (.cells #[.string ⟨#[]⟩, .int .u64 0, .slice none 0 0, .int .i64 0, .slice none 0 0, .int .i64 0, .int .u64 0, .string ⟨#[]⟩, .int .u64 0] 47 (0, 0)) by rw [hW6]; exact (Below.heap_setCell _ _ _ _ (by show w.heap.size ≠ w.heap.size + 1; omega)).trans HZ5.out)
  have HC6 := Aside0.mk (show W6.heap[w.heap.size + 1]? = some (.cells #[.string nm, .int .u64 dt, .slice A5 1 c5_, .int .i64 0, .slice none 0 0, .int .i64 0, .int .u64 0, .string ⟨#[]⟩, .int .u64 0] 47 (0, 0)) by rw [hW6]; exact blk_in HC5.out _)
  have HN6 := Aside0.mk (show Kd.string.R 9 W6 (w.heap.size + 2) (fun _ => True) (.slice A5 1 c5_) [s4] by rw [hW6]; exact far2 _ _ HR5.out)
  have HR6 := Aside0.mk (HR1.out.trans (show _ = bnd (namesP l4.length [s4] l4) (fun ns => if isP 1 ifT ns.2 = true then bnd (condP (factorP ns.2.length 0) ns.2.tail) fun c => .ok (⟨nm, dt, ns.1, c.1⟩, c.2) else .ok (⟨nm, dt, ns.1, z28⟩, ns.2)) by simp only [hr4, bnd_ok]))
  clear far2 hHeld hc52 hf52 hc2
  go_wp2_with fail
  rw [← hW6]
  clear hW6
  go_loopw [] (fun wr => ∃ (acc : List ByteArray) (l' : List S74) (n cn : Nat) (An : Option Addr), Aside0 (PInv wr b tb cs l' 0) ∧ Aside0 (w.grownBy wr (some b)) ∧ Aside0 (wr.heap[w.heap.size]? = some (.cells #[.string ⟨#[]⟩, .int .u64 0, .slice none 0 0, .int .i64 0, .slice none 0 0, .int .i64 0, .int .u64 0, .string ⟨#[]⟩, .int .u64 0] 47 (0, 0))) ∧ Aside0 (wr.heap[w.heap.size + 1]? = some (.cells #[.string nm, .int .u64 dt, .slice An acc.length cn, .int .i64 0, .slice none 0 0, .int .i64 0, .int .u64 0, .string ⟨#[]⟩, .int .u64 0] 47 (0, 0))) ∧ Aside0 (Kd.string.R 9 wr (w.heap.size + 2) (fun _ => True) (.slice An acc.length cn) acc) ∧ Aside0 (l'.length ≤ n ∧ l'.length ≤ l.length ∧ acc.length + l'.length ≤ l.length + 1) ∧ Aside0 (R = bnd (namesP n acc l') (fun ns => if isP 1 ifT ns.2 = true then bnd (condP (factorP ns.2.length 0) ns.2.tail) fun c => .ok (⟨nm, dt, ns.1, c.1⟩, c.2) else .ok (⟨nm, dt, ns.1, z28⟩, ns.2)))) (fun wr => lenP b wr)
  case atStart => exact ⟨[s4], l4, l4.length, c5_, A5, HP6, HG6, HZ6, HC6, HN6, ⟨Nat.le_refl _, by have := HL1.out; have := HL4.out; omega, by have := HL1.out; have := HL4.out; simp only [List.length_singleton]; omega⟩, HR6⟩
  case round =>
    obtain ⟨acc, l', n, cn, An, hP, hG, hZ, hC, hN, hL, hR⟩ := hrel
    have hK := isP_kind 1 l'
    cases hA : isP 1 emptyT l' with
    | false =>
      have HA := Aside0.mk hA
      have HRq := Aside0.mk (hR.out.trans (show _ = (fun ns => if isP 1 ifT ns.2 = true then bnd (condP (factorP ns.2.length 0) ns.2.tail) fun c => .ok (⟨nm, dt, ns.1, c.1⟩, c.2) else .ok (⟨nm, dt, ns.1, z28⟩, ns.2) : List ByteArray × List S74 → Except (Int × Int) (S47 × List S74)) (acc, l') by cases n with | zero => rfl | succ n => rw [namesP, if_neg (by rw [hA]; simp)]; rfl))
      have HLq := Aside0.mk (show l'.length ≤ 1000000 from by have := hL.out; omega)
      clear hA hR hK
      go_wp2_with fail
      go_at_call 58
      refine (is_any 1 emptyT _ hP.out).mono ?_
      rw [HA.out]
      rintro e w7 ⟨rfl, hb7⟩
      have HPq := Aside0.mk (hP.out.grown hb7)
      have HGq := Aside0.mk (grown_trans hG.out (grown_of_below hb7 (some b)))
      have HZq := Aside0.mk (blk_below hZ.out hb7)
      have HCq := Aside0.mk (blk_below hC.out hb7)
      have HNq := Aside0.mk (Kd.R_below hN.out hb7)
      clear hb7
      cases hif : isP 1 ifT l' with
      | false =>
        have HIF := Aside0.mk hif
        have HRf := Aside0.mk (HRq.out.trans (if_neg (by rw [hif]; decide)))
        clear hif
        go_wp2_with fail
        go_at_call 58
        refine (is_any 1 ifT _ HPq.out).mono ?_
        rw [HIF.out]
        rintro e w8 ⟨rfl, hb8⟩
        have HP8 := Aside0.mk (HPq.out.grown hb8)
        have HG8 := Aside0.mk (grown_trans HGq.out (grown_of_below hb8 (some b)))
        have hZ8 := blk_below HZq.out hb8
        have hC8 := blk_below HCq.out hb8
        have HN8 := Aside0.mk (Kd.R_lower (Kd.R_below HNq.out hb8) (base' := w.heap.size + 1) (by omega))
        have zc0 : w8.cell? ⟨w.heap.size, 0, none⟩ = some (.string ⟨#[]⟩) := (blk_cell hZ8 0).trans rfl
        have zc1 : w8.cell? ⟨w.heap.size, 1, none⟩ = some (.int .u64 0) := (blk_cell hZ8 1).trans rfl
        have zc2 : w8.cell? ⟨w.heap.size, 2, none⟩ = some (.slice none 0 0) := (blk_cell hZ8 2).trans rfl
        have zc3 : w8.cell? ⟨w.heap.size, 3, none⟩ = some (.int .i64 0) := (blk_cell hZ8 3).trans rfl
        have zc4 : w8.cell? ⟨w.heap.size, 4, none⟩ = some (.slice none 0 0) := (blk_cell hZ8 4).trans rfl
        have zc5 : w8.cell? ⟨w.heap.size, 5, none⟩ = some (.int .i64 0) := (blk_cell hZ8 5).trans rfl
        have zc6 : w8.cell? ⟨w.heap.size, 6, none⟩ = some (.int .u64 0) := (blk_cell hZ8 6).trans rfl
        have zc7 : w8.cell? ⟨w.heap.size, 7, none⟩ = some (.string ⟨#[]⟩) := (blk_cell hZ8 7).trans rfl
        have zc8 : w8.cell? ⟨w.heap.size, 8, none⟩ = some (.int .u64 0) := (blk_cell hZ8 8).trans rfl
        have zf0 := blk_frozen hZ8 0
        have zf1 := blk_frozen hZ8 1
        have zf2 := blk_frozen hZ8 2
        have zf3 := blk_frozen hZ8 3
        have zf4 := blk_frozen hZ8 4
        have zf5 := blk_frozen hZ8 5
        have zf6 := blk_frozen hZ8 6
        have zf7 := blk_frozen hZ8 7
        have zf8 := blk_frozen hZ8 8
        have rc0 : w8.cell? ⟨w.heap.size + 1, 0, none⟩ = some (.string nm) := (blk_cell hC8 0).trans rfl
        have rc1 : w8.cell? ⟨w.heap.size + 1, 1, none⟩ = some (.int .u64 dt) := (blk_cell hC8 1).trans rfl
        have rc2 : w8.cell? ⟨w.heap.size + 1, 2, none⟩ = some (.slice An acc.length cn) := (blk_cell hC8 2).trans rfl
        have rc3 : w8.cell? ⟨w.heap.size + 1, 3, none⟩ = some (.int .i64 0) := (blk_cell hC8 3).trans rfl
        have rc4 : w8.cell? ⟨w.heap.size + 1, 4, none⟩ = some (.slice none 0 0) := (blk_cell hC8 4).trans rfl
        have rc5 : w8.cell? ⟨w.heap.size + 1, 5, none⟩ = some (.int .i64 0) := (blk_cell hC8 5).trans rfl
        have rc6 : w8.cell? ⟨w.heap.size + 1, 6, none⟩ = some (.int .u64 0) := (blk_cell hC8 6).trans rfl
        have rc7 : w8.cell? ⟨w.heap.size + 1, 7, none⟩ = some (.string ⟨#[]⟩) := (blk_cell hC8 7).trans rfl
        have rc8 : w8.cell? ⟨w.heap.size + 1, 8, none⟩ = some (.int .u64 0) := (blk_cell hC8 8).trans rfl
        have rf0 := blk_frozen hC8 0
        have rf1 := blk_frozen hC8 1
        have rf2 := blk_frozen hC8 2
        have rf3 := blk_frozen hC8 3
        have rf4 := blk_frozen hC8 4
        have rf5 := blk_frozen hC8 5
        have rf6 := blk_frozen hC8 6
        have rf7 := blk_frozen hC8 7
        have rf8 := blk_frozen hC8 8
        clear hb8 hZ8 hC8
        go_wp2_with fail
        refine bodyPost_ret (v := .agg #[.string nm, .int .u64 dt, .slice An acc.length cn, .int .i64 0, .slice none 0 0, .int .i64 0, .int .u64 0, .string ⟨#[]⟩, .int .u64 0]) (by simp [results, Tryz.results59, go_sem, zc0, zc1, zc2, zc3, zc4, zc5, zc6, zc7, zc8]) rfl ?_
        exact rule_store hbw htw HP8.out HG8.out ⟨nm, dt, acc, z28⟩ _ _ HRf.out HN8.out (Kd.R_nil _ _ _ _ _)
      | true =>
        have HIF := Aside0.mk hif
        have HRf := Aside0.mk (HRq.out.trans (if_pos hif))
        clear hif
        go_wp2_with fail
        go_at_call 58
        refine (is_any 1 ifT _ HPq.out).mono ?_
        rw [HIF.out]
        rintro e w8 ⟨rfl, hb8⟩
        have HP8 := Aside0.mk (HPq.out.grown hb8)
        have HG8 := Aside0.mk (grown_trans HGq.out (grown_of_below hb8 (some b)))
        have HZ8 := Aside0.mk (blk_below HZq.out hb8)
        have HC8 := Aside0.mk (blk_below HCq.out hb8)
        have HN8 := Aside0.mk (Kd.R_below HNq.out hb8)
        clear hb8
        go_wp2_with fail
        go_at_call 54
        refine (take_post 1 (by decide) _ [] _ HP8.out (Or.inl ⟨rfl, rfl⟩)).mono ?_
        intro e w9 hp9
        obtain ⟨hg9, ⟨v, rfl, hv⟩, hP9⟩ := hp9.ok (take_any0 (isP_ne HIF.out))
        unfold strV at hv
        subst hv
        have hlt9 : l'.tail.length + 1 ≤ l'.length := by have := List.length_pos_iff.2 HPq.out.pos; simp; omega
        have HP9 := Aside0.mk hP9
        have HG9 := Aside0.mk (grown_trans HG8.out hg9)
        have HZ9 := Aside0.mk (blk_grown HZ8.out hg9 (by intro e; have := Option.some.inj e; omega))
        have HC9 := Aside0.mk (blk_grown HC8.out hg9 (by intro e; have := Option.some.inj e; omega))
        have HN9 := Aside0.mk (R_keep HN8.out hg9 (by omega))
        have HLT9 := Aside0.mk hlt9
        clear hp9 hP9 hg9 hlt9
        go_wp2_with fail
        go_at_call 83
        refine (condp_any (factorP l'.length 0) l'.tail.length (by have := HLT9.out; have := HLq.out; omega) (fun l2 w2 hl2 h2 => factor_any l'.length 0 l2 w2 (by have := HLT9.out; have := HLq.out; omega) (by have := HLT9.out; omega) h2) (factor_shr l'.length 0) l'.tail _ (Nat.le_refl _) HP9.out).mono ?_
        intro e wa hpa
        cases hra : condP (factorP l'.length 0) l'.tail with
        | error x =>
          obtain ⟨bad, at_⟩ := x
          obtain ⟨hg, rfl⟩ := hpa.err hra
          go_wp2_with fail
          exact ⟨rfl, PPost.mk_err (HRf.out.trans (by simp only [hra]; rfl)) (grown_trans HG9.out hg)⟩
        | ok x =>
          obtain ⟨c, la⟩ := x
          obtain ⟨hga, ⟨v, rfl, ⟨kv, rfl, hK⟩⟩, hPa⟩ := hpa.ok hra
          obtain ⟨A0, cc0, e0⟩ := Kd.R_slice hK
          subst e0
          have HRa := Aside0.mk (HRf.out.trans (show _ = .ok (⟨nm, dt, acc, c⟩, la) by simp only [hra, bnd_ok]))
          have hZa := blk_grown HZ9.out hga (by intro e; have := Option.some.inj e; omega)
          have hCa := blk_grown HC9.out hga (by intro e; have := Option.some.inj e; omega)
          have farR : ∀ {α : Type} {d : Kd α} {e : Nat} {v : Value} {xs : List α} {W : World} (j : Nat) (u : Value), d.R e W (w.heap.size + 2) (fun _ => True) v xs → d.R e (W.setCell ⟨w.heap.size + 1, j, none⟩ u) (w.heap.size + 2) (fun _ => True) v xs := fun j u h => Kd.R_mono (Kd.R_far (Kd.R_bound h) (p := ⟨w.heap.size + 1, j, none⟩) (fun k hk => by have := hk.2.1; show k ≠ w.heap.size + 1; omega) u) (fun _ hk => hk.1)
          have hszc := blk_lt HC9.out
          have HKx := Aside0.mk (Kd.R_lower (farR 8 (.int .u64 c.f5) (farR 7 (.string c.f4) (farR 6 (.int .u64 c.f3) (farR 5 (.int .i64 c.f2) (farR 4 (.slice A0 c.f1.length cc0) (farR 3 (.int .i64 c.f0) (Kd.R_lower hK (base' := w.heap.size + 2) (by omega)))))))) (base' := w.heap.size + 1) (by omega))
          have HNx := Aside0.mk (Kd.R_lower (farR 8 (.int .u64 c.f5) (farR 7 (.string c.f4) (farR 6 (.int .u64 c.f3) (farR 5 (.int .i64 c.f2) (farR 4 (.slice A0 c.f1.length cc0) (farR 3 (.int .i64 c.f0) (R_keep HN9.out hga (by omega)))))))) (base' := w.heap.size + 1) (by omega))
          have HPx := Aside0.mk ((((((hPa.far n1_ n2_ 3 (.int .i64 c.f0)).far n1_ n2_ 4 (.slice A0 c.f1.length cc0)).far n1_ n2_ 5 (.int .i64 c.f2)).far n1_ n2_ 6 (.int .u64 c.f3)).far n1_ n2_ 7 (.string c.f4)).far n1_ n2_ 8 (.int .u64 c.f5))
          have hle1 : w.heap.size ≤ w.heap.size + 1 := by omega
          have HGx := Aside0.mk (grown_new (grown_new (grown_new (grown_new (grown_new (grown_new (grown_trans HG9.out hga) hle1 3 (.int .i64 c.f0)) hle1 4 (.slice A0 c.f1.length cc0)) hle1 5 (.int .i64 c.f2)) hle1 6 (.int .u64 c.f3)) hle1 7 (.string c.f4)) hle1 8 (.int .u64 c.f5))
          have zc0 : wa.cell? ⟨w.heap.size, 0, none⟩ = some (.string ⟨#[]⟩) := (blk_cell hZa 0).trans rfl
          have zc1 : wa.cell? ⟨w.heap.size, 1, none⟩ = some (.int .u64 0) := (blk_cell hZa 1).trans rfl
          have zc2 : wa.cell? ⟨w.heap.size, 2, none⟩ = some (.slice none 0 0) := (blk_cell hZa 2).trans rfl
          have zc3 : wa.cell? ⟨w.heap.size, 3, none⟩ = some (.int .i64 0) := (blk_cell hZa 3).trans rfl
          have zc4 : wa.cell? ⟨w.heap.size, 4, none⟩ = some (.slice none 0 0) := (blk_cell hZa 4).trans rfl
          have zc5 : wa.cell? ⟨w.heap.size, 5, none⟩ = some (.int .i64 0) := (blk_cell hZa 5).trans rfl
          have zc6 : wa.cell? ⟨w.heap.size, 6, none⟩ = some (.int .u64 0) := (blk_cell hZa 6).trans rfl
          have zc7 : wa.cell? ⟨w.heap.size, 7, none⟩ = some (.string ⟨#[]⟩) := (blk_cell hZa 7).trans rfl
          have zc8 : wa.cell? ⟨w.heap.size, 8, none⟩ = some (.int .u64 0) := (blk_cell hZa 8).trans rfl
          have zf0 := blk_frozen hZa 0
          have zf1 := blk_frozen hZa 1
          have zf2 := blk_frozen hZa 2
          have zf3 := blk_frozen hZa 3
          have zf4 := blk_frozen hZa 4
          have zf5 := blk_frozen hZa 5
          have zf6 := blk_frozen hZa 6
          have zf7 := blk_frozen hZa 7
          have zf8 := blk_frozen hZa 8
          have rc0 : wa.cell? ⟨w.heap.size + 1, 0, none⟩ = some (.string nm) := (blk_cell hCa 0).trans rfl
          have rc1 : wa.cell? ⟨w.heap.size + 1, 1, none⟩ = some (.int .u64 dt) := (blk_cell hCa 1).trans rfl
          have rc2 : wa.cell? ⟨w.heap.size + 1, 2, none⟩ = some (.slice An acc.length cn) := (blk_cell hCa 2).trans rfl
          have rc3 : wa.cell? ⟨w.heap.size + 1, 3, none⟩ = some (.int .i64 0) := (blk_cell hCa 3).trans rfl
          have rc4 : wa.cell? ⟨w.heap.size + 1, 4, none⟩ = some (.slice none 0 0) := (blk_cell hCa 4).trans rfl
          have rc5 : wa.cell? ⟨w.heap.size + 1, 5, none⟩ = some (.int .i64 0) := (blk_cell hCa 5).trans rfl
          have rc6 : wa.cell? ⟨w.heap.size + 1, 6, none⟩ = some (.int .u64 0) := (blk_cell hCa 6).trans rfl
          have rc7 : wa.cell? ⟨w.heap.size + 1, 7, none⟩ = some (.string ⟨#[]⟩) := (blk_cell hCa 7).trans rfl
          have rc8 : wa.cell? ⟨w.heap.size + 1, 8, none⟩ = some (.int .u64 0) := (blk_cell hCa 8).trans rfl
          have rf0 := blk_frozen hCa 0
          have rf1 := blk_frozen hCa 1
          have rf2 := blk_frozen hCa 2
          have rf3 := blk_frozen hCa 3
          have rf4 := blk_frozen hCa 4
          have rf5 := blk_frozen hCa 5
          have rf6 := blk_frozen hCa 6
          have rf7 := blk_frozen hCa 7
          have rf8 := blk_frozen hCa 8
          clear hpa hga hK hPa hZa hCa farR hszc
          go_wp2_with fail
          refine bodyPost_ret (v := .agg #[.string nm, .int .u64 dt, .slice An acc.length cn, .int .i64 c.f0, .slice A0 c.f1.length cc0, .int .i64 c.f2, .int .u64 c.f3, .string c.f4, .int .u64 c.f5]) (by simp [results, Tryz.results59, go_sem, zc0, zc1, zc2, zc3, zc4, zc5, zc6, zc7, zc8]) rfl ?_
          exact rule_store hbw htw HPx.out HGx.out ⟨nm, dt, acc, c⟩ _ _ HRa.out HNx.out HKx.out
    | true =>
      have HA := Aside0.mk hA
      have hpos := List.length_pos_iff.2 hP.out.pos
      obtain ⟨n', rfl⟩ : ∃ n', n = n' + 1 := ⟨n - 1, by have := hL.out; omega⟩
      cases hB : resS (hd l').f1 with
      | true =>
        have HRq := Aside0.mk (hR.out.trans (show _ = (fun ns => if isP 1 ifT ns.2 = true then bnd (condP (factorP ns.2.length 0) ns.2.tail) fun c => .ok (⟨nm, dt, ns.1, c.1⟩, c.2) else .ok (⟨nm, dt, ns.1, z28⟩, ns.2) : List ByteArray × List S74 → Except (Int × Int) (S47 × List S74)) (acc, l') by rw [namesP, if_neg (by rw [hA, hB]; decide)]; rfl))
        have HLq := Aside0.mk (show l'.length ≤ 1000000 from by have := hL.out; omega)
        clear hA hR hK hpos
        go_wp2_with fail
        go_at_call 58
        refine (is_any 1 emptyT _ hP.out).mono ?_
        rw [HA.out]
        rintro e w7 ⟨rfl, hb7⟩
        go_wp2_with (go_at_call 79; refine (next_any _ (hP.out.grown hb7)).mono ?_; rintro e w7b ⟨rfl, hb7b⟩)
        rename_i a0_
        apply a0_
        go_wp2_with (go_at_call 60; refine (res_any _ _).mono ?_; rw [hB]; rintro e w7c ⟨rfl, hb7c⟩)
        have hbb : Below wr.heap.size wr w7c := hb7.trans ((hb7b.trans (hb7c.mono hb7b.size)).mono hb7.size)
        have HPq := Aside0.mk (hP.out.grown hbb)
        have HGq := Aside0.mk (grown_trans hG.out (grown_of_below hbb (some b)))
        have HZq := Aside0.mk (blk_below hZ.out hbb)
        have HCq := Aside0.mk (blk_below hC.out hbb)
        have HNq := Aside0.mk (Kd.R_below hN.out hbb)
        clear hb7 hb7b hb7c hbb
        cases hif : isP 1 ifT l' with
        | false =>
          have HIF := Aside0.mk hif
          have HRf := Aside0.mk (HRq.out.trans (if_neg (by rw [hif]; decide)))
          clear hif
          go_at_call 58
          refine (is_any 1 ifT _ HPq.out).mono ?_
          rw [HIF.out]
          rintro e w8 ⟨rfl, hb8⟩
          have HP8 := Aside0.mk (HPq.out.grown hb8)
          have HG8 := Aside0.mk (grown_trans HGq.out (grown_of_below hb8 (some b)))
          have hZ8 := blk_below HZq.out hb8
          have hC8 := blk_below HCq.out hb8
          have HN8 := Aside0.mk (Kd.R_lower (Kd.R_below HNq.out hb8) (base' := w.heap.size + 1) (by omega))
          have zc0 : w8.cell? ⟨w.heap.size, 0, none⟩ = some (.string ⟨#[]⟩) := (blk_cell hZ8 0).trans rfl
          have zc1 : w8.cell? ⟨w.heap.size, 1, none⟩ = some (.int .u64 0) := (blk_cell hZ8 1).trans rfl
          have zc2 : w8.cell? ⟨w.heap.size, 2, none⟩ = some (.slice none 0 0) := (blk_cell hZ8 2).trans rfl
          have zc3 : w8.cell? ⟨w.heap.size, 3, none⟩ = some (.int .i64 0) := (blk_cell hZ8 3).trans rfl
          have zc4 : w8.cell? ⟨w.heap.size, 4, none⟩ = some (.slice none 0 0) := (blk_cell hZ8 4).trans rfl
          have zc5 : w8.cell? ⟨w.heap.size, 5, none⟩ = some (.int .i64 0) := (blk_cell hZ8 5).trans rfl
          have zc6 : w8.cell? ⟨w.heap.size, 6, none⟩ = some (.int .u64 0) := (blk_cell hZ8 6).trans rfl
          have zc7 : w8.cell? ⟨w.heap.size, 7, none⟩ = some (.string ⟨#[]⟩) := (blk_cell hZ8 7).trans rfl
          have zc8 : w8.cell? ⟨w.heap.size, 8, none⟩ = some (.int .u64 0) := (blk_cell hZ8 8).trans rfl
          have zf0 := blk_frozen hZ8 0
          have zf1 := blk_frozen hZ8 1
          have zf2 := blk_frozen hZ8 2
          have zf3 := blk_frozen hZ8 3
          have zf4 := blk_frozen hZ8 4
          have zf5 := blk_frozen hZ8 5
          have zf6 := blk_frozen hZ8 6
          have zf7 := blk_frozen hZ8 7
          have zf8 := blk_frozen hZ8 8
          have rc0 : w8.cell? ⟨w.heap.size + 1, 0, none⟩ = some (.string nm) := (blk_cell hC8 0).trans rfl
          have rc1 : w8.cell? ⟨w.heap.size + 1, 1, none⟩ = some (.int .u64 dt) := (blk_cell hC8 1).trans rfl
          have rc2 : w8.cell? ⟨w.heap.size + 1, 2, none⟩ = some (.slice An acc.length cn) := (blk_cell hC8 2).trans rfl
          have rc3 : w8.cell? ⟨w.heap.size + 1, 3, none⟩ = some (.int .i64 0) := (blk_cell hC8 3).trans rfl
          have rc4 : w8.cell? ⟨w.heap.size + 1, 4, none⟩ = some (.slice none 0 0) := (blk_cell hC8 4).trans rfl
          have rc5 : w8.cell? ⟨w.heap.size + 1, 5, none⟩ = some (.int .i64 0) := (blk_cell hC8 5).trans rfl
          have rc6 : w8.cell? ⟨w.heap.size + 1, 6, none⟩ = some (.int .u64 0) := (blk_cell hC8 6).trans rfl
          have rc7 : w8.cell? ⟨w.heap.size + 1, 7, none⟩ = some (.string ⟨#[]⟩) := (blk_cell hC8 7).trans rfl
          have rc8 : w8.cell? ⟨w.heap.size + 1, 8, none⟩ = some (.int .u64 0) := (blk_cell hC8 8).trans rfl
          have rf0 := blk_frozen hC8 0
          have rf1 := blk_frozen hC8 1
          have rf2 := blk_frozen hC8 2
          have rf3 := blk_frozen hC8 3
          have rf4 := blk_frozen hC8 4
          have rf5 := blk_frozen hC8 5
          have rf6 := blk_frozen hC8 6
          have rf7 := blk_frozen hC8 7
          have rf8 := blk_frozen hC8 8
          clear hb8 hZ8 hC8
          go_wp2_with fail
          refine bodyPost_ret (v := .agg #[.string nm, .int .u64 dt, .slice An acc.length cn, .int .i64 0, .slice none 0 0, .int .i64 0, .int .u64 0, .string ⟨#[]⟩, .int .u64 0]) (by simp [results, Tryz.results59, go_sem, zc0, zc1, zc2, zc3, zc4, zc5, zc6, zc7, zc8]) rfl ?_
          exact rule_store hbw htw HP8.out HG8.out ⟨nm, dt, acc, z28⟩ _ _ HRf.out HN8.out (Kd.R_nil _ _ _ _ _)
        | true =>
          have HIF := Aside0.mk hif
          have HRf := Aside0.mk (HRq.out.trans (if_pos hif))
          clear hif
          go_at_call 58
          refine (is_any 1 ifT _ HPq.out).mono ?_
          rw [HIF.out]
          rintro e w8 ⟨rfl, hb8⟩
          have HP8 := Aside0.mk (HPq.out.grown hb8)
          have HG8 := Aside0.mk (grown_trans HGq.out (grown_of_below hb8 (some b)))
          have HZ8 := Aside0.mk (blk_below HZq.out hb8)
          have HC8 := Aside0.mk (blk_below HCq.out hb8)
          have HN8 := Aside0.mk (Kd.R_below HNq.out hb8)
          clear hb8
          go_wp2_with fail
          go_at_call 54
          refine (take_post 1 (by decide) _ [] _ HP8.out (Or.inl ⟨rfl, rfl⟩)).mono ?_
          intro e w9 hp9
          obtain ⟨hg9, ⟨v, rfl, hv⟩, hP9⟩ := hp9.ok (take_any0 (isP_ne HIF.out))
          unfold strV at hv
          subst hv
          have hlt9 : l'.tail.length + 1 ≤ l'.length := by have := List.length_pos_iff.2 HPq.out.pos; simp; omega
          have HP9 := Aside0.mk hP9
          have HG9 := Aside0.mk (grown_trans HG8.out hg9)
          have HZ9 := Aside0.mk (blk_grown HZ8.out hg9 (by intro e; have := Option.some.inj e; omega))
          have HC9 := Aside0.mk (blk_grown HC8.out hg9 (by intro e; have := Option.some.inj e; omega))
          have HN9 := Aside0.mk (R_keep HN8.out hg9 (by omega))
          have HLT9 := Aside0.mk hlt9
          clear hp9 hP9 hg9 hlt9
          go_wp2_with fail
          go_at_call 83
          refine (condp_any (factorP l'.length 0) l'.tail.length (by have := HLT9.out; have := HLq.out; omega) (fun l2 w2 hl2 h2 => factor_any l'.length 0 l2 w2 (by have := HLT9.out; have := HLq.out; omega) (by have := HLT9.out; omega) h2) (factor_shr l'.length 0) l'.tail _ (Nat.le_refl _) HP9.out).mono ?_
          intro e wa hpa
          cases hra : condP (factorP l'.length 0) l'.tail with
          | error x =>
            obtain ⟨bad, at_⟩ := x
            obtain ⟨hg, rfl⟩ := hpa.err hra
            go_wp2_with fail
            exact ⟨rfl, PPost.mk_err (HRf.out.trans (by simp only [hra]; rfl)) (grown_trans HG9.out hg)⟩
          | ok x =>
            obtain ⟨c, la⟩ := x
            obtain ⟨hga, ⟨v, rfl, ⟨kv, rfl, hK⟩⟩, hPa⟩ := hpa.ok hra
            obtain ⟨A0, cc0, e0⟩ := Kd.R_slice hK
            subst e0
            have HRa := Aside0.mk (HRf.out.trans (show _ = .ok (⟨nm, dt, acc, c⟩, la) by simp only [hra, bnd_ok]))
            have hZa := blk_grown HZ9.out hga (by intro e; have := Option.some.inj e; omega)
            have hCa := blk_grown HC9.out hga (by intro e; have := Option.some.inj e; omega)
            have farR : ∀ {α : Type} {d : Kd α} {e : Nat} {v : Value} {xs : List α} {W : World} (j : Nat) (u : Value), d.R e W (w.heap.size + 2) (fun _ => True) v xs → d.R e (W.setCell ⟨w.heap.size + 1, j, none⟩ u) (w.heap.size + 2) (fun _ => True) v xs := fun j u h => Kd.R_mono (Kd.R_far (Kd.R_bound h) (p := ⟨w.heap.size + 1, j, none⟩) (fun k hk => by have := hk.2.1; show k ≠ w.heap.size + 1; omega) u) (fun _ hk => hk.1)
            have hszc := blk_lt HC9.out
            have HKx := Aside0.mk (Kd.R_lower (farR 8 (.int .u64 c.f5) (farR 7 (.string c.f4) (farR 6 (.int .u64 c.f3) (farR 5 (.int .i64 c.f2) (farR 4 (.slice A0 c.f1.length cc0) (farR 3 (.int .i64 c.f0) (Kd.R_lower hK (base' := w.heap.size + 2) (by omega)))))))) (base' := w.heap.size + 1) (by omega))
            have HNx := Aside0.mk (Kd.R_lower (farR 8 (.int .u64 c.f5) (farR 7 (.string c.f4) (farR 6 (.int .u64 c.f3) (farR 5 (.int .i64 c.f2) (farR 4 (.slice A0 c.f1.length cc0) (farR 3 (.int .i64 c.f0) (R_keep HN9.out hga (by omega)))))))) (base' := w.heap.size + 1) (by omega))
            have HPx := Aside0.mk ((((((hPa.far n1_ n2_ 3 (.int .i64 c.f0)).far n1_ n2_ 4 (.slice A0 c.f1.length cc0)).far n1_ n2_ 5 (.int .i64 c.f2)).far n1_ n2_ 6 (.int .u64 c.f3)).far n1_ n2_ 7 (.string c.f4)).far n1_ n2_ 8 (.int .u64 c.f5))
            have hle1 : w.heap.size ≤ w.heap.size + 1 := by omega
            have HGx := Aside0.mk (grown_new (grown_new (grown_new (grown_new (grown_new (grown_new (grown_trans HG9.out hga) hle1 3 (.int .i64 c.f0)) hle1 4 (.slice A0 c.f1.length cc0)) hle1 5 (.int .i64 c.f2)) hle1 6 (.int .u64 c.f3)) hle1 7 (.string c.f4)) hle1 8 (.int .u64 c.f5))
            have zc0 : wa.cell? ⟨w.heap.size, 0, none⟩ = some (.string ⟨#[]⟩) := (blk_cell hZa 0).trans rfl
            have zc1 : wa.cell? ⟨w.heap.size, 1, none⟩ = some (.int .u64 0) := (blk_cell hZa 1).trans rfl
            have zc2 : wa.cell? ⟨w.heap.size, 2, none⟩ = some (.slice none 0 0) := (blk_cell hZa 2).trans rfl
            have zc3 : wa.cell? ⟨w.heap.size, 3, none⟩ = some (.int .i64 0) := (blk_cell hZa 3).trans rfl
            have zc4 : wa.cell? ⟨w.heap.size, 4, none⟩ = some (.slice none 0 0) := (blk_cell hZa 4).trans rfl
            have zc5 : wa.cell? ⟨w.heap.size, 5, none⟩ = some (.int .i64 0) := (blk_cell hZa 5).trans rfl
            have zc6 : wa.cell? ⟨w.heap.size, 6, none⟩ = some (.int .u64 0) := (blk_cell hZa 6).trans rfl
            have zc7 : wa.cell? ⟨w.heap.size, 7, none⟩ = some (.string ⟨#[]⟩) := (blk_cell hZa 7).trans rfl
            have zc8 : wa.cell? ⟨w.heap.size, 8, none⟩ = some (.int .u64 0) := (blk_cell hZa 8).trans rfl
            have zf0 := blk_frozen hZa 0
            have zf1 := blk_frozen hZa 1
            have zf2 := blk_frozen hZa 2
            have zf3 := blk_frozen hZa 3
            have zf4 := blk_frozen hZa 4
            have zf5 := blk_frozen hZa 5
            have zf6 := blk_frozen hZa 6
            have zf7 := blk_frozen hZa 7
            have zf8 := blk_frozen hZa 8
            have rc0 : wa.cell? ⟨w.heap.size + 1, 0, none⟩ = some (.string nm) := (blk_cell hCa 0).trans rfl
            have rc1 : wa.cell? ⟨w.heap.size + 1, 1, none⟩ = some (.int .u64 dt) := (blk_cell hCa 1).trans rfl
            have rc2 : wa.cell? ⟨w.heap.size + 1, 2, none⟩ = some (.slice An acc.length cn) := (blk_cell hCa 2).trans rfl
            have rc3 : wa.cell? ⟨w.heap.size + 1, 3, none⟩ = some (.int .i64 0) := (blk_cell hCa 3).trans rfl
            have rc4 : wa.cell? ⟨w.heap.size + 1, 4, none⟩ = some (.slice none 0 0) := (blk_cell hCa 4).trans rfl
            have rc5 : wa.cell? ⟨w.heap.size + 1, 5, none⟩ = some (.int .i64 0) := (blk_cell hCa 5).trans rfl
            have rc6 : wa.cell? ⟨w.heap.size + 1, 6, none⟩ = some (.int .u64 0) := (blk_cell hCa 6).trans rfl
            have rc7 : wa.cell? ⟨w.heap.size + 1, 7, none⟩ = some (.string ⟨#[]⟩) := (blk_cell hCa 7).trans rfl
            have rc8 : wa.cell? ⟨w.heap.size + 1, 8, none⟩ = some (.int .u64 0) := (blk_cell hCa 8).trans rfl
            have rf0 := blk_frozen hCa 0
            have rf1 := blk_frozen hCa 1
            have rf2 := blk_frozen hCa 2
            have rf3 := blk_frozen hCa 3
            have rf4 := blk_frozen hCa 4
            have rf5 := blk_frozen hCa 5
            have rf6 := blk_frozen hCa 6
            have rf7 := blk_frozen hCa 7
            have rf8 := blk_frozen hCa 8
            clear hpa hga hK hPa hZa hCa farR hszc
            go_wp2_with fail
            refine bodyPost_ret (v := .agg #[.string nm, .int .u64 dt, .slice An acc.length cn, .int .i64 c.f0, .slice A0 c.f1.length cc0, .int .i64 c.f2, .int .u64 c.f3, .string c.f4, .int .u64 c.f5]) (by simp [results, Tryz.results59, go_sem, zc0, zc1, zc2, zc3, zc4, zc5, zc6, zc7, zc8]) rfl ?_
            exact rule_store hbw htw HPx.out HGx.out ⟨nm, dt, acc, c⟩ _ _ HRa.out HNx.out HKx.out
      | false =>
        have HRd2 := Aside0.mk (hR.out.trans (show _ = bnd (bnd (wordP l') fun x => namesP n' (acc ++ [x.1]) x.2) (fun ns => if isP 1 ifT ns.2 = true then bnd (condP (factorP ns.2.length 0) ns.2.tail) fun c => .ok (⟨nm, dt, ns.1, c.1⟩, c.2) else .ok (⟨nm, dt, ns.1, z28⟩, ns.2)) by rw [namesP, if_pos (by rw [hA, hB]; rfl)]))
        clear hA hR hK hpos
        go_wp2_with fail
        go_at_call 58
        refine (is_any 1 emptyT _ hP.out).mono ?_
        rw [HA.out]
        rintro e w7 ⟨rfl, hb7⟩
        go_wp2_with (go_at_call 79; refine (next_any _ (hP.out.grown hb7)).mono ?_; rintro e w7b ⟨rfl, hb7b⟩)
        rename_i a0_
        apply a0_
        go_wp2_with (go_at_call 60; refine (res_any _ _).mono ?_; rw [hB]; rintro e w7c ⟨rfl, hb7c⟩)
        have hbb : Below wr.heap.size wr w7c := hb7.trans ((hb7b.trans (hb7c.mono hb7b.size)).mono hb7.size)
        have hbd : Below wr.heap.size wr w7c.drew := hbb.drew
        have HPd2 := Aside0.mk (hP.out.grown hbd)
        have HGd2 := Aside0.mk (grown_trans hG.out (grown_of_below hbd (some b)))
        have HZd2 := Aside0.mk (blk_below hZ.out hbd)
        have hCd2 := blk_below hC.out hbd
        have HCd2 := Aside0.mk hCd2
        have HNd2 := Aside0.mk (Kd.R_below hN.out hbd)
        have hcd2 : w7c.drew.cell? ⟨w.heap.size + 1, 2, none⟩ = some (.slice An acc.length cn) := (blk_cell hCd2 2).trans rfl
        clear hb7 hb7b hb7c hbb hbd hCd2
        refine start_ (n := 8) (S := fun w' => w'.cell? ⟨w.heap.size + 1, 2, none⟩ = some (.slice An acc.length cn)) (ds := [7]) #[false, false, false, false, false, false, false, false] (by kernel_rfl) rfl rfl (hcd2) (fun hHeld => ?_)
        refine pure_ (i := 0) (N := some 27) (v := ?_) (a' := ?_) #[true, false, false, false, false, false, false, false] rfl rfl (by kernel_rfl) (fun _ _ _ h => h) (Or.inl ⟨by rfl, ?_⟩) ?_ ?_
        rotate_left
        · intro w'
          go_simp
          with_reducible rfl
        rotate_left
        · simp only [Act.put, List.setIfInBounds_toArray, List.set_cons_zero, List.set_cons_succ, i64_w, i32_w]
          rfl
        refine pure_ (i := 2) (N := some 29) (v := ?_) (a' := ?_) #[true, false, true, false, false, false, false, false] rfl rfl (by kernel_rfl) (fun _ _ _ h => h) (Or.inl ⟨by rfl, ?_⟩) ?_ ?_
        rotate_left
        · intro w'
          go_simp
          with_reducible rfl
        rotate_left
        · simp only [Act.put, List.setIfInBounds_toArray, List.set_cons_zero, List.set_cons_succ, i64_w, i32_w]
          rfl
        refine take_ (i := 1) (N := some 28) (v := ?_) (a' := ?_) #[true, true, true, false, false, false, false, false] rfl rfl (by kernel_rfl) (fun _ _ _ h => h) (Or.inl ⟨by rfl, ?_⟩) hHeld ?_ ?_
        rotate_left
        · intro w' s0
          go_simp
          with_reducible rfl
        rotate_left
        · simp only [Act.put, List.setIfInBounds_toArray, List.set_cons_zero, List.set_cons_succ, i64_w, i32_w]
          rfl
        refine one_ (i := 3) (N := some 30) #[true, true, true, true, false, false, false, false] rfl rfl (by kernel_rfl) (by decide) (fun K hK => ?_)
        refine goesP_ Tryz.func55 (by kernel_rfl) rfl #[.pointer (some ⟨b, 0, none⟩)] (by rfl) rfl rfl (by simp only [List.map_toArray, List.map_cons, List.map_nil]; rfl) ?_
        refine (wordp_any _ HPd2.out).mono ?_
        intro e w4 hp4
        rcases hr4 : wordP l' with ⟨bad, at_⟩ | ⟨s4, l4⟩
        · obtain ⟨hg, rfl⟩ := hp4.err hr4; exact Or.inr ⟨_, rfl, rfl, PPost.mk_err (HRd2.out.trans (by simp only [hr4, bnd_ok]; rfl)) (grown_trans HGd2.out hg)⟩
        obtain ⟨hg4, ⟨v, rfl, hv⟩, hP4⟩ := hp4.ok hr4
        unfold strV at hv
        subst hv
        have HP4 := Aside0.mk hP4
        have HG4 := Aside0.mk (grown_trans HGd2.out hg4)
        have HZ4 := Aside0.mk (blk_grown HZd2.out hg4 (by intro e; have := Option.some.inj e; omega))
        have HC4 := Aside0.mk (blk_grown HCd2.out hg4 (by intro e; have := Option.some.inj e; omega))
        have HN4 := Aside0.mk (R_keep HNd2.out hg4 (by omega))
        clear hp4 hg4 hP4
        refine Or.inl ⟨_, rfl, ?_⟩
        refine hK.out _ _ (((blk_cell HC4.out 2).trans rfl)) (fun hHeld => ?_)
        clear hK K
        refine norm_ (a' := ?_) ?_ ?_
        rotate_left
        · show Act.put _ (some 30) _ = _
          simp only [Act.put, List.setIfInBounds_toArray, List.set_cons_zero, List.set_cons_succ, i64_w, i32_w]
          rfl
        refine one_ (i := 4) (N := some 31) #[true, true, true, true, true, false, false, false] rfl rfl (by kernel_rfl) (by decide) (fun K hK => ?_)
        refine value_ (w1 := ?_) (v := ?_) (by rfl) rfl ?_ ?_
        rotate_left 2
        · go_simp
          constructor
          · rfl
          · rfl
        refine hK.out _ _ (((blk_cell (blk_alloc HC4.out _) 2).trans rfl)) (fun hHeld => ?_)
        clear hK K
        refine norm_ (a' := ?_) ?_ ?_
        rotate_left
        · show Act.put _ (some 31) _ = _
          simp only [Act.put, List.setIfInBounds_toArray, List.set_cons_zero, List.set_cons_succ, i64_w, i32_w]
          rfl
        refine one_ (i := 5) (N := some 32) #[true, true, true, true, true, true, false, false] rfl rfl (by kernel_rfl) (by decide) (fun K hK => ?_)
        refine Kd.R_append_step Kd.string (w0 := w4) (w.heap.size + 2) (by rfl) (.tmp 28) (.tmp 31) 45 9 (.string ⟨#[]⟩) 16 rfl Tryz.underlying45 infoS rfl (by decide) (by decide) (.slice An acc.length cn) acc s4 [.string s4] (fun _ => True) (fun _ => False) rfl rfl ?aP (fun _ hk => hk.elim) (fun _ _ => trivial) HN4.out (Below.refl _ _) ?aS ?aL ?_
        case aP => exact rfl
        case aS => have := blk_lt HC4.out; omega
        case aL => have := hL.out; omega
        intro v5 w5 hR5 hb5 hg5 _
        obtain ⟨A5, c5_, e5_⟩ := Kd.R_slice hR5
        subst e5_
        have HR5 := Aside0.mk hR5
        have HB5 := Aside0.mk hb5
        have HP5 := Aside0.mk (HP4.out.grownB hb5 (by omega) (by omega))
        have HG5 := Aside0.mk (grown_b HG4.out hb5 (by omega))
        have HZ5 := Aside0.mk ((hb5.block _ (by omega)).trans HZ4.out)
        have hC5 := (hb5.block (w.heap.size + 1) (by omega)).trans HC4.out
        have HC5 := Aside0.mk hC5
        have hc52 := (blk_cell hC5 2).trans rfl
        have hf52 := blk_frozen hC5 2
        clear hR5 hb5 hg5 hC5
        refine hK.out _ _ (((blk_cell HC5.out 2).trans rfl)) (fun hHeld => ?_)
        clear hK K
        refine norm_ (a' := ?_) ?_ ?_
        rotate_left
        · show Act.put _ (some 32) _ = _
          simp only [Act.put, List.setIfInBounds_toArray, List.set_cons_zero, List.set_cons_succ, i64_w, i32_w]
          rfl
        refine pure_ (i := 6) (N := some 33) (v := ?_) (a' := ?_) #[true, true, true, true, true, true, true, false] rfl rfl (by kernel_rfl) (fun _ _ _ h => h) (Or.inl ⟨by rfl, ?_⟩) ?_ ?_
        rotate_left
        · intro w'
          go_simp
          with_reducible rfl
        rotate_left
        · simp only [Act.put, List.setIfInBounds_toArray, List.set_cons_zero, List.set_cons_succ, i64_w, i32_w]
          rfl
        refine last_ (i := 7) (N := none) #[true, true, true, true, true, true, true, true] rfl rfl (by kernel_rfl) (by decide) (fun K hK => ?_)
        refine skip_ (w1 := ?_) (by rfl) rfl ?_ ?_
        rotate_left
        · go_simp
          rfl
        refine hK.out _ _ ?_
        clear hK K
        refine done_ (by kernel_rfl) ?_
        have HL4 := Aside0.mk (word_len hP.out.pos hr4)
        have HPn := Aside0.mk (HP5.out.far n1_ n2_ 2 (.slice A5 (acc.length + 1) c5_))
        have HGn := Aside0.mk (grown_new HG5.out (c := w.heap.size + 1) (by omega) 2 (.slice A5 (acc.length + 1) c5_))
        have HZn := Aside0.mk ((Below.heap_setCell w5 ⟨w.heap.size + 1, 2, none⟩ (.slice A5 (acc.length + 1) c5_) w.heap.size (by show w.heap.size ≠ w.heap.size + 1; omega)).trans HZ5.out)
        have HCn := Aside0.mk (blk_in (j := 2) HC5.out (.slice A5 (acc.length + 1) c5_))
        have HNn := Aside0.mk (HFAR.out 2 (.slice A5 (acc.length + 1) c5_) HR5.out)
        have HRn := Aside0.mk (HRd2.out.trans (show _ = bnd (namesP n' (acc ++ [s4]) l4) (fun ns => if isP 1 ifT ns.2 = true then bnd (condP (factorP ns.2.length 0) ns.2.tail) fun c => .ok (⟨nm, dt, ns.1, c.1⟩, c.2) else .ok (⟨nm, dt, ns.1, z28⟩, ns.2)) by simp only [hr4, bnd_ok]))
        have hal : (acc ++ [s4]).length = acc.length + 1 := by simp
        clear hHeld hc52 hf52 hcd2
        go_wp2_with fail
        go_roundw
        case rel =>
          refine ⟨acc ++ [s4], l4, n', c5_, A5, HPn, HGn, HZn, ⟨by rw [hal]; exact HCn.out⟩, ⟨by have h_ := HNn.out; rw [hal] at h_ ⊢; exact h_⟩, ⟨by have := HL4.out; have := hL.out; omega, by have := HL4.out; have := hL.out; omega, by rw [hal]; have := HL4.out; have := hL.out; omega⟩, HRn⟩
        case measure =>
          rw [HPn.out.len, hP.out.len]
          have := HL4.out
          omega

end Go.Proofs.YtdfjjimmnbijmaaGreatDoor.ZQ

import Derived.Test.YtdfjjimmnbijmaaGreatDoorZQf
namespace Go.Proofs.YtdfjjimmnbijmaaGreatDoor.ZQ
open Go.RowKit Go.Proofs.YtdfjjimmnbijmaaGreatDoorW.PrintWords Go.Proofs.YtdfjjimmnbijmaaGreatDoorW.PrintLast Go.Proofs.YtdfjjimmnbijmaaGreatDoorW.PrintMore Go.Proofs.YtdfjjimmnbijmaaGreatDoor.Base
attribute [local go_sem] max2_int min2_int max_two min_two max_three min_three max_four min_four
set_option linter.unusedVariables false
set_option linter.unusedSimpArgs false
theorem catch_idle (p q r : Addr) (w : World) :
    CallsD Tryz.prog 28 #[.pointer (some p), .pointer (some q), .pointer (some r)] .returning w fun e u' w' => e = .returned (.tuple #[]) ∧ u' = .returning ∧ w' = w := by
  refine callsD_of_wpS Tryz.func28 rfl fun c₀ cs hu => ?_
  apply wpS_seq
  apply wpS_region
  simp [wpOpsS, go_sem, recoverD, hu, Tryz.ntmps28, Exit.thenS]
  apply wpS_seq
  apply wpS_region
  simp [wpOpsS, go_sem, Exit.thenS]
  refine wpS_cond (t := false) (by simp [Act.eval, Array.replicate]) ?_
  simp only [Bool.false_eq_true, if_false]
  refine wpS_of_wp (wp_skip ?_)
  cases c₀
  simp_all [bodyPostS, results, Tryz.results28, Exit.thenS]
theorem wp_tm {P : Program} {c : Code} {Q : Exit → Act → World → Prop} {t t' : Array Value} {d : List Deferred} {w : World} (e : t = t') (h : Code.wp P c Q { tmps := t', defers := d } w) : Code.wp P c Q { tmps := t, defers := d } w := e ▸ h
theorem bdr {W : World} {g : Nat} {o : Obj} (h : W.heap[g]? = some o) : W.drew.heap[g]? = some o := h
theorem cfar {W : World} {p a : Addr} {v x : Value} (h : p.block ≠ a.block) (hx : W.cell? a = some x) : (W.setCell p v).cell? a = some x := (World.cell?_setCell_far W p a v h).trans hx
theorem cdr {W : World} {a : Addr} {x : Value} (hx : W.cell? a = some x) : W.drew.cell? a = some x := hx
set_option maxHeartbeats 6400000 in
set_option maxRecDepth 100000 in
theorem catch_stop (B : Nat) (bad at_ b0 a0 : Int) (p0 p1 p2 p3 : Value) (older : List PanicEntry) (w : World) (h0 : w.heap[B]? = some (.cells #[p0, p1, p2, p3] 25 (0, 0))) (h1 : w.heap[B + 1]? = some (.cells #[.int .i64 b0] 33 (0, 0))) (h2 : w.heap[B + 2]? = some (.cells #[.int .i64 a0] 3 (0, 0))) :
    CallsD Tryz.prog 28 #[.pointer (some ⟨B, 0, none⟩), .pointer (some ⟨B + 1, 0, none⟩), .pointer (some ⟨B + 2, 0, none⟩)] (.panicking ({ v := .iface 56 (.agg #[.int .i64 bad, .int .i64 at_]), recovered := false } :: older)) w fun e u' w' =>
      e = .returned (.tuple #[]) ∧ u' = .panicking ({ v := .iface 56 (.agg #[.int .i64 bad, .int .i64 at_]), recovered := true } :: older) ∧ Below B w w' ∧ w'.heap[B]? = some (.cells #[.string ⟨#[]⟩, .string ⟨#[]⟩, .int .u64 0, .slice none 0 0] 25 (0, 0)) ∧ w'.heap[B + 1]? = some (.cells #[.int .i64 bad] 33 (0, 0)) ∧ w'.heap[B + 2]? = some (.cells #[.int .i64 at_] 3 (0, 0)) := by
  have H0 := Aside0.mk h0
  have H1 := Aside0.mk h1
  have H2 := Aside0.mk h2
  clear h0 h1 h2
  refine callsD_of_wpS Tryz.func28 rfl fun c₀ cs hu => ?_
  apply wpS_seq
  apply wpS_region
  simp [wpOpsS, go_sem, recoverD, hu, Tryz.ntmps28, Exit.thenS]
  apply wpS_seq
  apply wpS_region
  simp [wpOpsS, go_sem, Exit.thenS]
  refine wpS_cond (t := true) (by simp [Act.eval, Array.replicate]) ?_
  simp only [if_true]
  obtain ⟨X_, hX⟩ : ∃ X_ : Value, X_ = .iface 56 (.agg #[.int .i64 bad, .int .i64 at_]) := ⟨_, rfl⟩
  rw [← hX]
  refine wpS_of_wp (wp_tm (t' := #[.pointer (some ⟨B, 0, none⟩), .pointer (some ⟨B + 1, 0, none⟩), .pointer (some ⟨B + 2, 0, none⟩), X_, undef, undef, X_, X_, .bool true, undef, undef, undef, undef, undef, undef, undef, undef, undef, undef, undef, undef, undef]) (by kernel_rfl) ?_)
  have hta : ∀ w, (Instr.typeAssert X_ 20 56 true).run Tryz.prog w = .ok (.tuple #[.agg #[.int .i64 bad, .int .i64 at_], .bool true]) w := fun w => by rw [hX]; rfl
  have HX := Aside0.mk hX
  clear hX
  go_wp2_with fail
  have hB0 := blk_lt H0.out
  have hB1 := blk_lt H1.out
  have hB2 := blk_lt H2.out
  obtain ⟨W1, hW1⟩ : ∃ W1, W1 = w.alloc (.cells #[.int .i64 bad, .int .i64 at_] 56) := ⟨_, rfl⟩
  rw [← hW1]
  have e0 := Aside0.mk (show W1.drew.heap[B]? = some (.cells #[p0, p1, p2, p3] 25 (0, 0)) by rw [hW1]; exact blk_alloc H0.out _)
  have e1 := Aside0.mk (show W1.drew.heap[B + 1]? = some (.cells #[.int .i64 b0] 33 (0, 0)) by rw [hW1]; exact blk_alloc H1.out _)
  have e2 := Aside0.mk (show W1.drew.heap[B + 2]? = some (.cells #[.int .i64 a0] 3 (0, 0)) by rw [hW1]; exact blk_alloc H2.out _)
  have e3 := Aside0.mk (show W1.drew.heap[w.heap.size]? = some (.cells #[.int .i64 bad, .int .i64 at_] 56 (0, 0)) by rw [hW1]; exact blk_new w _)
  have HBL := Aside0.mk (show Below B w W1 by rw [hW1]; exact (Below.refl _ _).alloc (by omega) _)
  clear hW1
  obtain ⟨E, hE⟩ : ∃ E, E = w.heap.size := ⟨_, rfl⟩
  rw [← hE] at e3 hB0 hB1 hB2 ⊢
  clear hE
  have f0 : W1.drew.cell? ⟨E, 0, none⟩ = some (.int .i64 bad) := blk_cell e3.out 0
  have f1 : W1.drew.cell? ⟨E, 1, none⟩ = some (.int .i64 at_) := blk_cell e3.out 1
  have c0 : W1.cell? ⟨B, 0, none⟩ = some p0 := blk_cell e0.out 0
  have c1 : W1.cell? ⟨B, 1, none⟩ = some p1 := blk_cell e0.out 1
  have c2 : W1.cell? ⟨B, 2, none⟩ = some p2 := blk_cell e0.out 2
  have c3 : W1.cell? ⟨B, 3, none⟩ = some p3 := blk_cell e0.out 3
  have z0 : W1.frozen? ⟨B, 0, none⟩ = false := blk_frozen (w := W1) e0.out 0
  have z1 : W1.frozen? ⟨B, 1, none⟩ = false := blk_frozen (w := W1) e0.out 1
  have z2 : W1.frozen? ⟨B, 2, none⟩ = false := blk_frozen (w := W1) e0.out 2
  have z3 : W1.frozen? ⟨B, 3, none⟩ = false := blk_frozen (w := W1) e0.out 3
  have c4 : W1.cell? ⟨B + 1, 0, none⟩ = some (.int .i64 b0) := blk_cell e1.out 0
  have z4 : W1.frozen? ⟨B + 1, 0, none⟩ = false := blk_frozen (w := W1) e1.out 0
  have c5 : W1.cell? ⟨B + 2, 0, none⟩ = some (.int .i64 a0) := blk_cell e2.out 0
  have z5 : W1.frozen? ⟨B + 2, 0, none⟩ = false := blk_frozen (w := W1) e2.out 0
  have n0 : B ≠ E := by omega
  have n1 : B + 1 ≠ E := by omega
  have F0 := Aside0.mk (show W1.cell? ⟨E, 0, none⟩ = some (.int .i64 bad) from f0)
  have F1 := Aside0.mk (show W1.cell? ⟨E, 1, none⟩ = some (.int .i64 at_) from f1)
  refine start_ (n := 8) (S := fun w' => w'.cell? ⟨E, 0, none⟩ = some (.int .i64 bad) ∧ w'.cell? ⟨E, 1, none⟩ = some (.int .i64 at_)) (ds := [7]) #[false, false, false, false, false, false, false, false] (by kernel_rfl) rfl rfl ⟨f0, f1⟩ (fun hHeld => ?_)
  refine pure_ (i := 0) (N := some 17) (v := ?_) (a' := ?_) #[true, false, false, false, false, false, false, false] rfl rfl (by kernel_rfl) (fun _ _ _ h => h) (Or.inl ⟨by rfl, ?_⟩) ?_ ?_
  rotate_left
  · intro w'
    go_simp
    with_reducible rfl
  rotate_left
  · simp only [Act.put, List.setIfInBounds_toArray, List.set_cons_zero, List.set_cons_succ, i64_w, i32_w]
    rfl
  refine pure_ (i := 1) (N := some 18) (v := ?_) (a' := ?_) #[true, true, false, false, false, false, false, false] rfl rfl (by kernel_rfl) (fun _ _ _ h => h) (Or.inl ⟨by rfl, ?_⟩) ?_ ?_
  rotate_left
  · intro w'
    go_simp
    with_reducible rfl
  rotate_left
  · simp only [Act.put, List.setIfInBounds_toArray, List.set_cons_zero, List.set_cons_succ, i64_w, i32_w]
    rfl
  refine pure_ (i := 3) (N := some 20) (v := ?_) (a' := ?_) #[true, true, false, true, false, false, false, false] rfl rfl (by kernel_rfl) (fun _ _ _ h => h) (Or.inl ⟨by rfl, ?_⟩) ?_ ?_
  rotate_left
  · intro w'
    go_simp
    with_reducible rfl
  rotate_left
  · simp only [Act.put, List.setIfInBounds_toArray, List.set_cons_zero, List.set_cons_succ, i64_w, i32_w]
    rfl
  refine take_ (i := 2) (N := some 19) (v := ?_) (a' := ?_) #[true, true, true, true, false, false, false, false] rfl rfl (by kernel_rfl) (fun _ _ _ h => h) (Or.inl ⟨by rfl, ?_⟩) hHeld ?_ ?_
  rotate_left
  · rintro w' ⟨s0, s1⟩
    go_simp
    with_reducible rfl
  rotate_left
  · simp only [Act.put, List.setIfInBounds_toArray, List.set_cons_zero, List.set_cons_succ, i64_w, i32_w]
    rfl
  refine take_ (i := 4) (N := some 21) (v := ?_) (a' := ?_) #[true, true, true, true, true, false, false, false] rfl rfl (by kernel_rfl) (fun _ _ _ h => h) (Or.inl ⟨by rfl, ?_⟩) hHeld ?_ ?_
  rotate_left
  · rintro w' ⟨s0, s1⟩
    go_simp
    with_reducible rfl
  rotate_left
  · simp only [Act.put, List.setIfInBounds_toArray, List.set_cons_zero, List.set_cons_succ, i64_w, i32_w]
    rfl
  refine one_ (i := 5) (N := none) #[true, true, true, true, true, true, false, false] rfl rfl (by kernel_rfl) (by decide) (fun K hK => ?_)
  refine skip_ (w1 := ?_) (by rfl) rfl ?_ ?_
  rotate_left
  · go_simp
    rfl
  refine hK.out _ _ ⟨cdr (cfar n0 (cfar n0 (cfar n0 (cfar n0 F0.out)))), cdr (cfar n0 (cfar n0 (cfar n0 (cfar n0 F1.out))))⟩ (fun hHeld => ?_)
  clear hK K
  refine one_ (i := 6) (N := none) #[true, true, true, true, true, true, true, false] rfl rfl (by kernel_rfl) (by decide) (fun K hK => ?_)
  refine skip_ (w1 := ?_) (by rfl) rfl ?_ ?_
  rotate_left
  · go_simp
    rfl
  refine hK.out _ _ ⟨cdr (cfar n1 (cfar n0 (cfar n0 (cfar n0 (cfar n0 F0.out))))), cdr (cfar n1 (cfar n0 (cfar n0 (cfar n0 (cfar n0 F1.out)))))⟩ (fun hHeld => ?_)
  clear hK K
  refine last_ (i := 7) (N := none) #[true, true, true, true, true, true, true, true] rfl rfl (by kernel_rfl) (by decide) (fun K hK => ?_)
  refine skip_ (w1 := ?_) (by rfl) rfl ?_ ?_
  rotate_left
  · go_simp
    rfl
  refine hK.out _ _ ?_
  clear hK K
  refine done_ (by kernel_rfl) ?_
  refine (show bodyPostS _ _ _ _ _ _ _ _ _ from ⟨rfl, _, rfl, .tuple #[], by simp [results, Tryz.results28, go_sem], rfl, rfl, ?_, ?_, ?_, ?_⟩)
  · exact ((((((HBL.out.setCell (Nat.le_refl _) _).setCell (Nat.le_refl _) _).setCell (Nat.le_refl _) _).setCell (Nat.le_refl _) _).setCell (by show B ≤ B + 1; omega) _).setCell (by show B ≤ B + 2; omega) _).drew
  · have m1 : B ≠ B + 1 := by omega
    have m2 : B ≠ B + 2 := by omega
    have g0 : W1.heap[B]? = some (.cells #[p0, p1, p2, p3] 25 (0, 0)) := e0.out
    have g1 := blk_put g0 0 (.string ⟨#[]⟩) rfl
    have g2 := blk_put g1 1 (.string ⟨#[]⟩) rfl
    have g3 := blk_put g2 2 (.int .u64 0) rfl
    have g4 := blk_put g3 3 (.slice none 0 0) rfl
    have g5 := blk_far g4 (p := ⟨B + 1, 0, none⟩) m1 (.int .i64 bad)
    exact bdr (blk_far g5 (p := ⟨B + 2, 0, none⟩) m2 (.int .i64 at_))
  · have m1 : B + 1 ≠ B := by omega
    have m2 : B + 1 ≠ B + 2 := by omega
    have g0 : W1.heap[B + 1]? = some (.cells #[.int .i64 b0] 33 (0, 0)) := e1.out
    have g1 := blk_far g0 (p := ⟨B, 0, none⟩) m1 (.string ⟨#[]⟩)
    have g2 := blk_far g1 (p := ⟨B, 1, none⟩) m1 (.string ⟨#[]⟩)
    have g3 := blk_far g2 (p := ⟨B, 2, none⟩) m1 (.int .u64 0)
    have g4 := blk_far g3 (p := ⟨B, 3, none⟩) m1 (.slice none 0 0)
    have g5 := blk_put g4 0 (.int .i64 bad) rfl
    exact bdr (blk_far g5 (p := ⟨B + 2, 0, none⟩) m2 (.int .i64 at_))
  · have m1 : B + 2 ≠ B := by omega
    have m2 : B + 2 ≠ B + 1 := by omega
    have g0 : W1.heap[B + 2]? = some (.cells #[.int .i64 a0] 3 (0, 0)) := e2.out
    have g1 := blk_far g0 (p := ⟨B, 0, none⟩) m1 (.string ⟨#[]⟩)
    have g2 := blk_far g1 (p := ⟨B, 1, none⟩) m1 (.string ⟨#[]⟩)
    have g3 := blk_far g2 (p := ⟨B, 2, none⟩) m1 (.int .u64 0)
    have g4 := blk_far g3 (p := ⟨B, 3, none⟩) m1 (.slice none 0 0)
    have g5 := blk_far g4 (p := ⟨B + 1, 0, none⟩) m2 (.int .i64 bad)
    have g6 := blk_put g5 0 (.int .i64 at_) rfl
    exact bdr g6

end Go.Proofs.YtdfjjimmnbijmaaGreatDoor.ZQ

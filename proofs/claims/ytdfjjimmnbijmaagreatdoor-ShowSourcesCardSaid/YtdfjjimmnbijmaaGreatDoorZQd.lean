import Derived.Test.YtdfjjimmnbijmaaGreatDoorZQc
namespace Go.Proofs.YtdfjjimmnbijmaaGreatDoor.ZQ
open Go.RowKit Go.Proofs.YtdfjjimmnbijmaaGreatDoorW.PrintWords Go.Proofs.YtdfjjimmnbijmaaGreatDoorW.PrintLast Go.Proofs.YtdfjjimmnbijmaaGreatDoorW.PrintMore Go.Proofs.YtdfjjimmnbijmaaGreatDoor.Base
attribute [local go_sem] max2_int min2_int max_two min_two max_three min_three max_four min_four
set_option linter.unusedVariables false
set_option linter.unusedSimpArgs false
theorem PInv.cellD {w : World} {b tb : Nat} {cs : Array Value} {l : List S74} {deep : Nat} (h : PInv w b tb cs l deep) : w.cell? ⟨b, 1, none⟩ = some (.int .i64 deep) ∧ w.frozen? ⟨b, 1, none⟩ = false := by
  obtain ⟨h1, h2, hf, hs, hb, h3, off, cap, h4, h5⟩ := h
  exact ⟨blk_cell h4 1, blk_frozen h4 1⟩
theorem PInv.setD {w : World} {b tb : Nat} {cs : Array Value} {l : List S74} {deep : Nat} (h : PInv w b tb cs l deep) (d : Nat) : PInv (w.setCell ⟨b, 1, none⟩ (.int .i64 (d : Int))) b tb cs l d := by
  obtain ⟨h1, h2, hf, hs, ⟨w0, b1, b2, b3⟩, h3, off, cap, h4, h5⟩ := h
  refine ⟨h1, h2, hf, hs, ⟨w0, b1, b2, b3.setCell b2 _⟩, (Below.heap_setCell _ _ _ _ h1.symm).trans h3, off, cap, ?_, h5⟩
  rw [heap_setCell_same _ _ _ _ _ _ h4]; rfl
set_option maxHeartbeats 6400000 in
set_option maxRecDepth 100000 in
theorem factor_any {b tb : Nat} {cs : Array Value} : ∀ (n deep : Nat) (l : List S74) (w : World), l.length ≤ 1000000 → l.length < n → PInv w b tb cs l deep →
    Calls Tryz.prog 122 #[.pointer (some ⟨b, 0, none⟩)] w (PPost w b tb cs deep (condV w.heap.size) (factorP n deep l)) := by
  intro n
  induction n with
  | zero => intro deep l w _ h _; omega
  | succ n ih =>
    intro deep l w hM hn h
    have HI := Aside0.mk h
    have IH := Aside0.mk ih
    have HN := Aside0.mk hn
    have HM := Aside0.mk hM
    obtain ⟨R, hR⟩ : ∃ R, R = factorP (n + 1) deep l := ⟨_, rfl⟩
    rw [← hR]
    have HR := Aside0.mk hR
    have hbw : b < w.heap.size := h.tlt.2
    have htw : tb < w.heap.size := h.tlt.1
    have hd0 : ∀ o, (w.alloc o).cell? ⟨b, 1, none⟩ = some (.int .i64 deep) := fun o => (h.al o).cellD.1
    have hb0 : Below w.heap.size w (w.alloc (.cells #[.int .i64 0, .slice none 0 0, .int .i64 0, .int .u64 0, .string ⟨#[]⟩, .int .u64 0] 28)) := (Below.refl _ _).alloc (Nat.le_refl _) _
    have HB0 := Aside0.mk hb0
    have hZ0 := heap_alloc_new w (.cells #[.int .i64 0, .slice none 0 0, .int .i64 0, .int .u64 0, .string ⟨#[]⟩, .int .u64 0] 28)
    have HZ0 := Aside0.mk hZ0
    clear h hR ih hn hM hb0 hZ0
    by_cases h8 : 8 < deep
    · have c1 : decide ((deep : Int) > 8) = true := decide_eq_true (by omega)
      have HR1 := Aside0.mk (HR.out.trans (show factorP (n + 1) deep l = .error (62, (hd l).f2) by rw [factorP, if_pos h8]))
      clear HR
      go_enter Tryz.func122, Tryz.ntmps122
      go_wp2_with fail
      go_at_call 81
      refine (fail_any 62 _ (HI.out.al _)).mono ?_
      rintro e w2 ⟨rfl, hb2⟩
      go_wp2_with fail
      exact ⟨rfl, PPost.mk_err HR1.out (grown_of_below (HB0.out.trans (hb2.mono (by simp))) _)⟩
    have c1 : decide ((deep : Int) > 8) = false := decide_eq_false (by omega)
    have hdw : wrap64 ((deep : Int) + 1) = (deep : Int) + 1 := by unfold wrap64; omega
    have hdw2 : wrap64 ((deep : Int) + 1 - 1) = (deep : Int) := by unfold wrap64; omega
    cases hi : isP 1 notT l with
    | true =>
      have HE := Aside0.mk hi
      have HR1 := Aside0.mk (HR.out.trans (show factorP (n + 1) deep l = bnd (factorP n (deep + 1) l.tail) fun c => .ok (⟨3, [c.1], 0, 0, ⟨#[]⟩, 0⟩, c.2) by rw [factorP, if_neg h8, if_pos hi]))
      clear HR hi
      go_enter Tryz.func122, Tryz.ntmps122
      go_wp2_with fail
      go_at_call 58
      refine (is_any 1 notT _ (HI.out.al _)).mono ?_
      rw [HE.out]
      rintro e w2 ⟨rfl, hb2⟩
      have HP2 := Aside0.mk ((HI.out.al _).grown hb2)
      have HZ2 := Aside0.mk (blk_below HZ0.out hb2)
      have HG2 := Aside0.mk (grown_of_below (HB0.out.trans (hb2.mono (by simp))) (some b))
      clear hb2 hd0
      go_wp2_with fail
      go_at_call 54
      refine (take_post 1 (by decide) _ [] _ HP2.out (Or.inl ⟨rfl, rfl⟩)).mono ?_
      intro e w3 hp3
      obtain ⟨hg3, ⟨v, rfl, hv⟩, hP3⟩ := hp3.ok (take_any0 (isP_ne HE.out))
      unfold strV at hv
      subst hv
      have hlt : l.tail.length + 1 ≤ l.length := by have := List.length_pos_iff.2 HI.out.pos; simp; omega
      have HLT := Aside0.mk hlt
      obtain ⟨hd3, hf3⟩ := hP3.cellD
      have HP3 := Aside0.mk (hP3.setD (deep + 1))
      have HG3 := Aside0.mk (grown_set (grown_trans HG2.out hg3) 1 (.int .i64 ((deep + 1 : Nat) : Int)))
      have HZ3 := Aside0.mk ((Below.heap_setCell w3 ⟨b, 1, none⟩ (.int .i64 ((deep + 1 : Nat) : Int)) w.heap.size (by show w.heap.size ≠ b; omega)).trans (blk_grown HZ2.out hg3 (by intro e; have := Option.some.inj e; omega)))
      clear hp3 hP3 hg3 hlt
      go_wp2_with fail
      refine (IH.out (deep + 1) l.tail _ (by have := HM.out; have := HLT.out; omega) (by have := HN.out; have := HLT.out; omega) HP3.out).mono ?_
      intro e w4 hp4
      cases hr4 : factorP n (deep + 1) l.tail with
      | error x =>
        obtain ⟨bad, at_⟩ := x
        obtain ⟨hg, rfl⟩ := hp4.err hr4
        go_wp2_with fail
        exact ⟨rfl, PPost.mk_err (HR1.out.trans (by simp only [hr4]; rfl)) (grown_trans HG3.out hg)⟩
      | ok x =>
        obtain ⟨c, l2⟩ := x
        obtain ⟨hg4, ⟨v, rfl, ⟨kv, rfl, hK⟩⟩, hP4⟩ := hp4.ok hr4
        obtain ⟨A0, cc0, e0⟩ := Kd.R_slice hK
        subst e0
        have HR2 := Aside0.mk (HR1.out.trans (show _ = .ok (⟨3, [c], 0, 0, ⟨#[]⟩, 0⟩, l2) by simp only [hr4, bnd_ok]))
        have hG4 := grown_trans HG3.out hg4
        have hZ4 := blk_grown HZ3.out hg4 (by intro e; have := Option.some.inj e; omega)
        have hw4 := blk_lt hZ4
        have hw5 : w.heap.size + 1 ≤ w4.heap.size := hw4
        have hbA : Below w4.heap.size w4 (w4.alloc (.cells #[.int .i64 c.f0, .slice A0 c.f1.length cc0, .int .i64 c.f2, .int .u64 c.f3, .string c.f4, .int .u64 c.f5] 28)) := (Below.refl _ _).alloc (Nat.le_refl _) _
        -- the parser's depth as it was
        obtain ⟨hd5, hf5⟩ := (hP4.grown hbA).cellD
        have hP5 := (hP4.grown hbA).setD deep
        have hG5 := grown_set (grown_trans hG4 (grown_of_below hbA (some b))) 1 (.int .i64 (deep : Int))
        have hZ5 : ((w4.alloc (.cells #[.int .i64 c.f0, .slice A0 c.f1.length cc0, .int .i64 c.f2, .int .u64 c.f3, .string c.f4, .int .u64 c.f5] 28)).setCell ⟨b, 1, none⟩ (.int .i64 (deep : Int))).heap[w.heap.size]? = _ := (Below.heap_setCell _ ⟨b, 1, none⟩ (.int .i64 (deep : Int)) w.heap.size (by show w.heap.size ≠ b; omega)).trans (blk_alloc hZ4 _)
        have hK5 := R_keep (Kd.R_lower (Kd.R_below hK hbA) (base' := w.heap.size + 1) (by have := HG3.out.size; have := blk_lt HZ3.out; omega)) (grown_set (grown_refl (w4.alloc (.cells #[.int .i64 c.f0, .slice A0 c.f1.length cc0, .int .i64 c.f2, .int .u64 c.f3, .string c.f4, .int .u64 c.f5] 28)) (some b)) 1 (.int .i64 (deep : Int))) (by omega)
        obtain ⟨W5, hW5⟩ : ∃ W5, W5 = (w4.alloc (.cells #[.int .i64 c.f0, .slice A0 c.f1.length cc0, .int .i64 c.f2, .int .u64 c.f3, .string c.f4, .int .u64 c.f5] 28)).setCell ⟨b, 1, none⟩ (.int .i64 (deep : Int)) := ⟨_, rfl⟩
        have hc5 : W5.heap[w4.heap.size]? = some (.cells #[.int .i64 c.f0, .slice A0 c.f1.length cc0, .int .i64 c.f2, .int .u64 c.f3, .string c.f4, .int .u64 c.f5] 28 (0, 0)) := by rw [hW5]; exact (Below.heap_setCell _ ⟨b, 1, none⟩ _ _ (by show w4.heap.size ≠ b; omega)).trans (heap_alloc_new w4 _)
        rw [← hW5] at hP5 hG5 hZ5 hK5
        have hbB : Below W5.heap.size W5 (W5.alloc (.cells #[.int .i64 c.f0, .slice A0 c.f1.length cc0, .int .i64 c.f2, .int .u64 c.f3, .string c.f4, .int .u64 c.f5] 28)) := (Below.refl _ _).alloc (Nat.le_refl _) _
        have HO := Aside0.mk (one_R (c := c) (by have := blk_lt hZ5; omega) hK5)
        have HF := Aside0.mk (cond_store (w := w) (w2 := W5.alloc (.cells #[.int .i64 c.f0, .slice A0 c.f1.length cc0, .int .i64 c.f2, .int .u64 c.f3, .string c.f4, .int .u64 c.f5] 28)) hbw htw (hP5.grown hbB) (grown_trans hG5 (grown_of_below hbB (some b))) ⟨3, [c], 0, 0, ⟨#[]⟩, 0⟩ (.slice (some ⟨W5.heap.size, 0, none⟩) 1 1) HR2.out HO.out)
        have r0_ : w4.cell? ⟨w.heap.size, 0, none⟩ = some (.int .i64 0) := (blk_cell hZ4 0).trans rfl
        have r1_ : w4.cell? ⟨w.heap.size, 1, none⟩ = some (.slice none 0 0) := (blk_cell hZ4 1).trans rfl
        have r2_ : w4.cell? ⟨w.heap.size, 2, none⟩ = some (.int .i64 0) := (blk_cell hZ4 2).trans rfl
        have r3_ : w4.cell? ⟨w.heap.size, 3, none⟩ = some (.int .u64 0) := (blk_cell hZ4 3).trans rfl
        have r4_ : w4.cell? ⟨w.heap.size, 4, none⟩ = some (.string ⟨#[]⟩) := (blk_cell hZ4 4).trans rfl
        have r5_ : w4.cell? ⟨w.heap.size, 5, none⟩ = some (.int .u64 0) := (blk_cell hZ4 5).trans rfl
        have z0 := blk_frozen hZ4 0
        have z1 := blk_frozen hZ4 1
        have z2 := blk_frozen hZ4 2
        have z3 := blk_frozen hZ4 3
        have z4 := blk_frozen hZ4 4
        have z5 := blk_frozen hZ4 5
        subst hW5
        clear hp4 hg4 hP4 hK hG4 hZ4 hP5 hG5 hZ5 hK5 hbA hbB hc5 HZ2 HZ3 HG2 HG3
        go_wp2_with fail
        have n1_ : ¬ w.heap.size = w4.heap.size := by omega
        have n2_ : ¬ w.heap.size = b := by omega
        have n3_ : ¬ w.heap.size = w4.heap.size + 1 := by omega
        have n4_ : w.heap.size < w4.heap.size + 1 := by omega
        refine bodyPost_ret (v := .agg #[.int .i64 3, .slice (some ⟨w4.heap.size + 1, 0, none⟩) 1 1, .int .i64 0, .int .u64 0, .string ⟨#[]⟩, .int .u64 0]) (by simp [results, Tryz.results122, go_sem, r0_, r1_, r2_, r3_, r4_, r5_, n1_, n2_, n3_, n4_, hw4]) rfl ?_
        have h_ := HF.out
        simp only [World.size_setCell, World.size_alloc] at h_
        simp only [World.setCell_alloc_past, World.size_setCell, World.size_alloc, n4_] at h_
        exact h_
    | false =>
      have HE := Aside0.mk hi
      cases hj : isP 3 opT l with
      | true =>
        have HE2 := Aside0.mk hj
        have HR1 := Aside0.mk (HR.out.trans (show factorP (n + 1) deep l = bnd (condP (factorP n (deep + 1)) l.tail) fun c => bnd (takeP 3 [clT] c.2) fun s => .ok (c.1, s.2) by rw [factorP, if_neg h8, if_neg (by rw [hi]; decide), if_pos hj]))
        clear HR hi hj
        go_enter Tryz.func122, Tryz.ntmps122
        go_wp2_with fail
        go_at_call 58
        refine (is_any 1 notT _ (HI.out.al _)).mono ?_
        rw [HE.out]
        rintro e w1 ⟨rfl, hb1⟩
        have HP1 := Aside0.mk ((HI.out.al _).grown hb1)
        have HZ1 := Aside0.mk (blk_below HZ0.out hb1)
        have HG1 := Aside0.mk (grown_of_below (HB0.out.trans (hb1.mono (by simp))) (some b))
        clear hb1 hd0
        go_wp2_with fail
        go_at_call 58
        refine (is_any 3 opT _ HP1.out).mono ?_
        rw [HE2.out]
        rintro e w2 ⟨rfl, hb2⟩
        have HP2 := Aside0.mk (HP1.out.grown hb2)
        have HZ2 := Aside0.mk (blk_below HZ1.out hb2)
        have HG2 := Aside0.mk (grown_trans HG1.out (grown_of_below hb2 (some b)))
        clear hb2
        go_wp2_with fail
        go_at_call 54
        have hk3 : (hd l).f0 = 3 := by
          have h_ := HE2.out
          unfold isP at h_
          rw [Bool.and_eq_true, beq_iff_eq] at h_
          exact h_.1
        refine (take_post 3 (by decide) _ [] _ HP2.out (Or.inl ⟨rfl, rfl⟩)).mono ?_
        intro e w3 hp3
        obtain ⟨hg3, ⟨v, rfl, hv⟩, hP3⟩ := hp3.ok (take_any0 hk3)
        unfold strV at hv
        subst hv
        have hlt : l.tail.length + 1 ≤ l.length := by have := List.length_pos_iff.2 HI.out.pos; simp; omega
        have HLT := Aside0.mk hlt
        obtain ⟨hd3, hf3⟩ := hP3.cellD
        have HP3 := Aside0.mk (hP3.setD (deep + 1))
        have HG3 := Aside0.mk (grown_set (grown_trans HG2.out hg3) 1 (.int .i64 ((deep + 1 : Nat) : Int)))
        have HZ3 := Aside0.mk ((Below.heap_setCell w3 ⟨b, 1, none⟩ (.int .i64 ((deep + 1 : Nat) : Int)) w.heap.size (by show w.heap.size ≠ b; omega)).trans (blk_grown HZ2.out hg3 (by intro e; have := Option.some.inj e; omega)))
        clear hp3 hP3 hg3 hlt hk3
        go_wp2_with fail
        go_at_call 83
        refine (condp_any (factorP n (deep + 1)) l.tail.length (by have := HM.out; have := HLT.out; omega) (fun l' w' hl' h' => IH.out (deep + 1) l' w' (by have := HM.out; have := HLT.out; omega) (by have := HN.out; have := HLT.out; omega) h') (factor_shr n (deep + 1)) l.tail _ (Nat.le_refl _) HP3.out).mono ?_
        intro e w4 hp4
        cases hr4 : condP (factorP n (deep + 1)) l.tail with
        | error x =>
          obtain ⟨bad, at_⟩ := x
          obtain ⟨hg, rfl⟩ := hp4.err hr4
          go_wp2_with fail
          exact ⟨rfl, PPost.mk_err (HR1.out.trans (by simp only [hr4]; rfl)) (grown_trans HG3.out hg)⟩
        | ok x =>
          obtain ⟨c, l2⟩ := x
          obtain ⟨hg4, ⟨v, rfl, ⟨kv, rfl, hK⟩⟩, hP4⟩ := hp4.ok hr4
          obtain ⟨A0, cc0, e0⟩ := Kd.R_slice hK
          subst e0
          have HR2 := Aside0.mk (HR1.out.trans (show _ = bnd (takeP 3 [clT] l2) fun s => .ok (c, s.2) by simp only [hr4, bnd_ok]))
          have hG4 := grown_trans HG3.out hg4
          have hZ4 := blk_grown HZ3.out hg4 (by intro e; have := Option.some.inj e; omega)
          have hw4 := blk_lt hZ4
          have hbA : Below w4.heap.size w4 (w4.alloc (.cells #[.int .i64 c.f0, .slice A0 c.f1.length cc0, .int .i64 c.f2, .int .u64 c.f3, .string c.f4, .int .u64 c.f5] 28)) := (Below.refl _ _).alloc (Nat.le_refl _) _
          obtain ⟨hd5, hf5⟩ := (hP4.grown hbA).cellD
          have hP5 := (hP4.grown hbA).setD deep
          have hG5 := grown_set (grown_trans hG4 (grown_of_below hbA (some b))) 1 (.int .i64 (deep : Int))
          have hZ5 : ((w4.alloc (.cells #[.int .i64 c.f0, .slice A0 c.f1.length cc0, .int .i64 c.f2, .int .u64 c.f3, .string c.f4, .int .u64 c.f5] 28)).setCell ⟨b, 1, none⟩ (.int .i64 (deep : Int))).heap[w.heap.size]? = _ := (Below.heap_setCell _ ⟨b, 1, none⟩ (.int .i64 (deep : Int)) w.heap.size (by show w.heap.size ≠ b; omega)).trans (blk_alloc hZ4 _)
          have hK5 := R_keep (Kd.R_lower (Kd.R_below hK hbA) (base' := w.heap.size + 1) (by have := HG3.out.size; have := blk_lt HZ3.out; omega)) (grown_set (grown_refl (w4.alloc (.cells #[.int .i64 c.f0, .slice A0 c.f1.length cc0, .int .i64 c.f2, .int .u64 c.f3, .string c.f4, .int .u64 c.f5] 28)) (some b)) 1 (.int .i64 (deep : Int))) (by omega)
          have hc5 : ((w4.alloc (.cells #[.int .i64 c.f0, .slice A0 c.f1.length cc0, .int .i64 c.f2, .int .u64 c.f3, .string c.f4, .int .u64 c.f5] 28)).setCell ⟨b, 1, none⟩ (.int .i64 (deep : Int))).heap[w4.heap.size]? = some (.cells #[.int .i64 c.f0, .slice A0 c.f1.length cc0, .int .i64 c.f2, .int .u64 c.f3, .string c.f4, .int .u64 c.f5] 28 (0, 0)) := (Below.heap_setCell _ ⟨b, 1, none⟩ _ _ (by show w4.heap.size ≠ b; omega)).trans (heap_alloc_new w4 _)
          go_wp2_with fail
          obtain ⟨W5, hW5⟩ : ∃ W5, W5 = (w4.alloc (.cells #[.int .i64 c.f0, .slice A0 c.f1.length cc0, .int .i64 c.f2, .int .u64 c.f3, .string c.f4, .int .u64 c.f5] 28)).setCell ⟨b, 1, none⟩ (.int .i64 (deep : Int)) := ⟨_, rfl⟩
          have hsz5 : W5.heap.size = w4.heap.size + 1 := by rw [hW5]; simp
          rw [← hW5] at hP5 hG5 hZ5 hK5 hc5 ⊢
          go_at_call 54
          have HT5 := lit_txts [clT] (by decide) (by decide) W5
          rw [hsz5] at HT5
          refine (take_post 3 (by decide) _ [clT] _ (hP5.al _) HT5).mono ?_
          intro e w6 hp6
          have hbB : Below W5.heap.size W5 (W5.alloc (.cells ([clT].map Value.string).toArray 9)) := (Below.refl _ _).alloc (Nat.le_refl _) _
          cases hr6 : takeP 3 [clT] l2 with
          | error x =>
            obtain ⟨bad, at_⟩ := x
            obtain ⟨hg, rfl⟩ := hp6.err hr6
            go_wp2_with fail
            exact ⟨rfl, PPost.mk_err (HR2.out.trans (by rw [hr6]; rfl)) (grown_trans hG5 (grown_below hbB hg))⟩
          | ok x =>
            obtain ⟨s6, l6⟩ := x
            obtain ⟨hg6, ⟨v, rfl, hv⟩, hP6⟩ := hp6.ok hr6
            unfold strV at hv
            subst hv
            have hZ6 := blk_grown (blk_below hZ5 hbB) hg6 (by intro e; have := Option.some.inj e; omega)
            have hC6 := blk_grown (blk_below hc5 hbB) hg6 (by intro e; have := Option.some.inj e; omega)
            have HK6 := Aside0.mk (R_keep (Kd.R_below hK5 hbB) hg6 (by omega))
            have HG6 := Aside0.mk (grown_trans hG5 (grown_below hbB hg6))
            have HP6 := Aside0.mk hP6
            have HR3 := Aside0.mk (HR2.out.trans (show _ = .ok (c, l6) by rw [hr6]; rfl))
            have r0_ : w6.cell? ⟨w.heap.size, 0, none⟩ = some (.int .i64 0) := (blk_cell hZ6 0).trans rfl
            have r1_ : w6.cell? ⟨w.heap.size, 1, none⟩ = some (.slice none 0 0) := (blk_cell hZ6 1).trans rfl
            have r2_ : w6.cell? ⟨w.heap.size, 2, none⟩ = some (.int .i64 0) := (blk_cell hZ6 2).trans rfl
            have r3_ : w6.cell? ⟨w.heap.size, 3, none⟩ = some (.int .u64 0) := (blk_cell hZ6 3).trans rfl
            have r4_ : w6.cell? ⟨w.heap.size, 4, none⟩ = some (.string ⟨#[]⟩) := (blk_cell hZ6 4).trans rfl
            have r5_ : w6.cell? ⟨w.heap.size, 5, none⟩ = some (.int .u64 0) := (blk_cell hZ6 5).trans rfl
            have z0 := blk_frozen hZ6 0
            have z1 := blk_frozen hZ6 1
            have z2 := blk_frozen hZ6 2
            have z3 := blk_frozen hZ6 3
            have z4 := blk_frozen hZ6 4
            have z5 := blk_frozen hZ6 5
            have k0 : w6.cell? ⟨w4.heap.size, 0, none⟩ = some (.int .i64 c.f0) := (blk_cell hC6 0).trans rfl
            have k1 : w6.cell? ⟨w4.heap.size, 1, none⟩ = some (.slice A0 c.f1.length cc0) := (blk_cell hC6 1).trans rfl
            have k2 : w6.cell? ⟨w4.heap.size, 2, none⟩ = some (.int .i64 c.f2) := (blk_cell hC6 2).trans rfl
            have k3 : w6.cell? ⟨w4.heap.size, 3, none⟩ = some (.int .u64 c.f3) := (blk_cell hC6 3).trans rfl
            have k4 : w6.cell? ⟨w4.heap.size, 4, none⟩ = some (.string c.f4) := (blk_cell hC6 4).trans rfl
            have k5 : w6.cell? ⟨w4.heap.size, 5, none⟩ = some (.int .u64 c.f5) := (blk_cell hC6 5).trans rfl
            clear hp6 hg6 hP6 hZ6 hC6 hbB hP5 hG5 hZ5 hK5 hc5 HT5 hd5 hf5 hbA hZ4 hG4 hK hP4 hg4 hp4 hd3 hf3 hW5 hsz5
            go_wp2_with fail
            refine bodyPost_ret (v := .agg #[.int .i64 c.f0, .slice A0 c.f1.length cc0, .int .i64 c.f2, .int .u64 c.f3, .string c.f4, .int .u64 c.f5]) (by simp [results, Tryz.results122, go_sem, r0_, r1_, r2_, r3_, r4_, r5_]) rfl ?_
            exact cond_store hbw htw HP6.out HG6.out c _ HR3.out HK6.out
      | false =>
        have HE2 := Aside0.mk hj
        have HR1 := Aside0.mk (HR.out.trans (show factorP (n + 1) deep l = testP l by rw [factorP, if_neg h8, if_neg (by rw [hi]; decide), if_neg (by rw [hj]; decide)]))
        clear HR hi hj
        go_enter Tryz.func122, Tryz.ntmps122
        go_wp2_with fail
        go_at_call 58
        refine (is_any 1 notT _ (HI.out.al _)).mono ?_
        rw [HE.out]
        rintro e w1 ⟨rfl, hb1⟩
        have HP1 := Aside0.mk ((HI.out.al _).grown hb1)
        have HZ1 := Aside0.mk (blk_below HZ0.out hb1)
        have HG1 := Aside0.mk (grown_of_below (HB0.out.trans (hb1.mono (by simp))) (some b))
        clear hb1 hd0
        go_wp2_with fail
        go_at_call 58
        refine (is_any 3 opT _ HP1.out).mono ?_
        rw [HE2.out]
        rintro e w2 ⟨rfl, hb2⟩
        have HP2 := Aside0.mk (HP1.out.grown hb2)
        have HZ2 := Aside0.mk (blk_below HZ1.out hb2)
        have HG2 := Aside0.mk (grown_trans HG1.out (grown_of_below hb2 (some b)))
        clear hb2
        go_wp2_with fail
        go_at_call 132
        refine (test_any _ HP2.out).mono ?_
        intro e w4 hp4
        cases hr4 : testP l with
        | error x =>
          obtain ⟨bad, at_⟩ := x
          obtain ⟨hg, rfl⟩ := hp4.err hr4
          go_wp2_with fail
          exact ⟨rfl, PPost.mk_err (HR1.out.trans hr4) (grown_trans HG2.out hg)⟩
        | ok x =>
          obtain ⟨c, l2⟩ := x
          obtain ⟨hg4, ⟨v, rfl, ⟨kv, rfl, hK⟩⟩, hP4⟩ := hp4.ok hr4
          obtain ⟨A0, cc0, e0⟩ := Kd.R_slice hK
          subst e0
          have HR2 := Aside0.mk (HR1.out.trans hr4)
          have HG4 := Aside0.mk (grown_trans HG2.out hg4)
          have hZ4 := blk_grown HZ2.out hg4 (by intro e; have := Option.some.inj e; omega)
          have HP4 := Aside0.mk hP4
          have HK4 := Aside0.mk (Kd.R_lower hK (base' := w.heap.size + 1) (by have := blk_lt HZ2.out; omega))
          have r0_ : w4.cell? ⟨w.heap.size, 0, none⟩ = some (.int .i64 0) := (blk_cell hZ4 0).trans rfl
          have r1_ : w4.cell? ⟨w.heap.size, 1, none⟩ = some (.slice none 0 0) := (blk_cell hZ4 1).trans rfl
          have r2_ : w4.cell? ⟨w.heap.size, 2, none⟩ = some (.int .i64 0) := (blk_cell hZ4 2).trans rfl
          have r3_ : w4.cell? ⟨w.heap.size, 3, none⟩ = some (.int .u64 0) := (blk_cell hZ4 3).trans rfl
          have r4_ : w4.cell? ⟨w.heap.size, 4, none⟩ = some (.string ⟨#[]⟩) := (blk_cell hZ4 4).trans rfl
          have r5_ : w4.cell? ⟨w.heap.size, 5, none⟩ = some (.int .u64 0) := (blk_cell hZ4 5).trans rfl
          have z0 := blk_frozen hZ4 0
          have z1 := blk_frozen hZ4 1
          have z2 := blk_frozen hZ4 2
          have z3 := blk_frozen hZ4 3
          have z4 := blk_frozen hZ4 4
          have z5 := blk_frozen hZ4 5
          clear hp4 hg4 hP4 hZ4 hK
          go_wp2_with fail
          refine bodyPost_ret (v := .agg #[.int .i64 c.f0, .slice A0 c.f1.length cc0, .int .i64 c.f2, .int .u64 c.f3, .string c.f4, .int .u64 c.f5]) (by simp [results, Tryz.results122, go_sem, r0_, r1_, r2_, r3_, r4_, r5_]) rfl ?_
          exact cond_store hbw htw HP4.out HG4.out c _ HR2.out HK4.out

end Go.Proofs.YtdfjjimmnbijmaaGreatDoor.ZQ

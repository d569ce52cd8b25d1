import Derived.Test.YtdfjjimmnbijmaaGreatDoorZQa
namespace Go.Proofs.YtdfjjimmnbijmaaGreatDoor.ZQ
open Go.RowKit Go.Proofs.YtdfjjimmnbijmaaGreatDoorW.PrintWords Go.Proofs.YtdfjjimmnbijmaaGreatDoorW.PrintLast Go.Proofs.YtdfjjimmnbijmaaGreatDoorW.PrintMore Go.Proofs.YtdfjjimmnbijmaaGreatDoor.Base
attribute [local go_sem] max2_int min2_int max_two min_two max_three min_three max_four min_four
set_option linter.unusedVariables false
set_option linter.unusedSimpArgs false
theorem bnd_ok {α β : Type} (a : α) (f : α → Except (Int × Int) β) : bnd (.ok a) f = f a := rfl
def argsT : List ByteArray := [⟨#[97, 114, 103, 48]⟩, ⟨#[97, 114, 103, 49]⟩, ⟨#[97, 114, 103, 50]⟩, ⟨#[97, 114, 103, 51]⟩, ⟨#[97, 114, 103, 52]⟩, ⟨#[97, 114, 103, 53]⟩]
def signsT : List ByteArray := [⟨#[61, 61]⟩, ⟨#[33, 61]⟩, ⟨#[60]⟩, ⟨#[60, 61]⟩, ⟨#[62]⟩, ⟨#[62, 61]⟩]
def maskP (l : List S74) : Except (Int × Int) (Int × List S74) := if isP 3 ⟨#[38]⟩ l = true then bnd (takeP 3 [] l) fun s => numP s.2 else .ok (18446744073709551615, l)
def testP (l : List S74) : Except (Int × Int) (S28 × List S74) :=
  bnd (takeP 1 argsT l) fun a => bnd (maskP a.2) fun m => bnd (takeP 3 signsT m.2) fun s => bnd (numP s.2) fun v => .ok (⟨4, [], bt a.1 3 - 48, m.1, s.1, v.1⟩, v.2)
theorem arg_cases {s : ByteArray} (h : anyT argsT s = true) : s.size = 4 ∧ 48 ≤ bt s 3 ∧ bt s 3 ≤ 53 := by
  have h2 : Lib.containsS argsT s = true := h
  rw [Lib.containsS_iff] at h2
  simp only [argsT, List.mem_cons, List.not_mem_nil, or_false] at h2
  rcases h2 with rfl | rfl | rfl | rfl | rfl | rfl <;> decide
def condV (B : Nat) (c : S28) (w : World) (v : Value) : Prop := ∃ kv, v = .agg #[.int .i64 c.f0, kv, .int .i64 c.f2, .int .u64 c.f3, .string c.f4, .int .u64 c.f5] ∧ k28.R 28 w B (fun _ => True) kv c.f1
theorem PInv.far {w : World} {b tb : Nat} {cs : Array Value} {l : List S74} {deep : Nat} (h : PInv w b tb cs l deep) {c : Nat} (hc : b < c) (hc2 : c ≠ tb) (j : Nat) (u : Value) : PInv (w.setCell ⟨c, j, none⟩ u) b tb cs l deep := by
  obtain ⟨h1, h2, hf, hs, ⟨w0, b1, b2, b3⟩, h3, off, cap, h4, h5⟩ := h
  exact ⟨h1, h2, hf, hs, ⟨w0, b1, b2, b3.setCell (by show w0.heap.size ≤ c; omega) _⟩, (Below.heap_setCell _ _ _ _ (Ne.symm hc2)).trans h3, off, cap, (Below.heap_setCell _ _ _ _ (by show b ≠ c; omega)).trans h4, h5⟩
theorem PInv.tlt {w : World} {b tb : Nat} {cs : Array Value} {l : List S74} {deep : Nat} (h : PInv w b tb cs l deep) : tb < w.heap.size ∧ b < w.heap.size := by
  obtain ⟨o_, c_, h_, _⟩ := h.at0
  exact ⟨blk_lt h.tk, World.block_lt_of_cell? _ _ h_⟩
theorem grown_new {w w1 : World} {b c : Nat} (h : w.grownBy w1 (some b)) (hc : w.heap.size ≤ c) (j : Nat) (u : Value) : w.grownBy (w1.setCell ⟨c, j, none⟩ u) (some b) :=
  ⟨h.os, h.tape, h.output, by simpa [World.setCell] using h.size, fun i hi hr => (Below.heap_setCell w1 ⟨c, j, none⟩ u i (by show i ≠ c; omega)).trans (h.block i hi hr)⟩
theorem blk_in {w : World} {g j : Nat} {cs : Array Value} {t : TypeId} (h : w.heap[g]? = some (.cells cs t (0, 0))) (u : Value) : (w.setCell ⟨g, j, none⟩ u).heap[g]? = some (.cells (cs.set! j u) t (0, 0)) := heap_setCell_same _ _ _ _ _ _ h
set_option maxHeartbeats 6400000 in
set_option maxRecDepth 100000 in
theorem test_any {b tb : Nat} {cs : Array Value} {l : List S74} {deep : Nat} (w : World) (h : PInv w b tb cs l deep) :
    Calls Tryz.prog 132 #[.pointer (some ⟨b, 0, none⟩)] w (PPost w b tb cs deep (condV w.heap.size) (testP l)) := by
  have HI := Aside0.mk h
  obtain ⟨R, hR⟩ : ∃ R, R = testP l := ⟨_, rfl⟩
  rw [← hR]
  have HR := Aside0.mk hR
  have hbw : b < w.heap.size := by obtain ⟨o_, c_, h_, _⟩ := h.at0; exact World.block_lt_of_cell? _ _ h_
  clear h hR
  go_enter Tryz.func132, Tryz.ntmps132
  go_wp2_with fail
  have HT1 := lit_txts argsT (by decide) (by decide) (w.alloc (.cells #[.int .i64 0, .slice none 0 0, .int .i64 0, .int .u64 0, .string ⟨#[]⟩, .int .u64 0] 28))
  go_at_call 54
  refine (take_post 1 (by decide) _ argsT _ ((HI.out.al _).al _) (by have h_ := HT1; simp only [World.size_alloc] at h_; exact h_)).mono ?_
  intro e w1 hp1
  clear HT1
  have hb0 : Below w.heap.size w ((w.alloc (.cells #[.int .i64 0, .slice none 0 0, .int .i64 0, .int .u64 0, .string ⟨#[]⟩, .int .u64 0] 28)).alloc (.cells #[.string ⟨#[97, 114, 103, 48]⟩, .string ⟨#[97, 114, 103, 49]⟩, .string ⟨#[97, 114, 103, 50]⟩, .string ⟨#[97, 114, 103, 51]⟩, .string ⟨#[97, 114, 103, 52]⟩, .string ⟨#[97, 114, 103, 53]⟩] 9)) := ((Below.refl _ _).alloc (Nat.le_refl _) _).alloc (by simp) _
  have hrb0 : ((w.alloc (.cells #[.int .i64 0, .slice none 0 0, .int .i64 0, .int .u64 0, .string ⟨#[]⟩, .int .u64 0] 28)).alloc (.cells #[.string ⟨#[97, 114, 103, 48]⟩, .string ⟨#[97, 114, 103, 49]⟩, .string ⟨#[97, 114, 103, 50]⟩, .string ⟨#[97, 114, 103, 51]⟩, .string ⟨#[97, 114, 103, 52]⟩, .string ⟨#[97, 114, 103, 53]⟩] 9)).heap[w.heap.size]? = some (.cells #[.int .i64 0, .slice none 0 0, .int .i64 0, .int .u64 0, .string ⟨#[]⟩, .int .u64 0] 28 (0, 0)) := blk_alloc (heap_alloc_new w _) _
  cases hr1 : takeP 1 argsT l with
  | error x =>
    obtain ⟨bad, at_⟩ := x
    obtain ⟨hg, rfl⟩ := hp1.err hr1
    go_wp2_with fail
    exact ⟨rfl, PPost.mk_err (HR.out.trans (by unfold testP; rw [hr1]; rfl)) (grown_below hb0 hg)⟩
  | ok x =>
    obtain ⟨a, l1⟩ := x
    obtain ⟨hg1, ⟨v, rfl, hv⟩, hP1⟩ := hp1.ok hr1
    unfold strV at hv
    subst hv
    have HG1 := Aside0.mk (grown_below hb0 hg1)
    have HRB1 := Aside0.mk (blk_grown hrb0 hg1 (by intro e; have := Option.some.inj e; omega))
    have HP1 := Aside0.mk hP1
    obtain ⟨ha1, ha2, ha3⟩ := arg_cases (takeP_ok hr1).2.2.2
    have hidx : ∀ W : World, (Instr.index 9 (.string a) (.int .i64 3)).run Tryz.prog W = .ok (.int .u8 (bt a 3)) W := fun W => by
      have h3 : 3 < a.size := by omega
      have hx : ((a[3]'h3).toNat : Int) = bt a 3 := by have := bt_at a 3 (by simpa using h3); simpa using this
      go_simp
    have hw1 : IntKind.u8.wrap (bt a 3 - 48) = bt a 3 - 48 := by rw [IntKind.wrap_u8]; omega
    have HR1 := Aside0.mk (HR.out.trans (show testP l = bnd (maskP l1) fun m => bnd (takeP 3 signsT m.2) fun s => bnd (numP s.2) fun v => .ok (⟨4, [], bt a 3 - 48, m.1, s.1, v.1⟩, v.2) by unfold testP; rw [hr1]; rfl))
    obtain ⟨A, hA⟩ : ∃ A, A = bt a 3 - 48 := ⟨_, rfl⟩
    rw [← hA] at hw1 HR1
    clear hp1 hg1 hP1 hrb0 hb0 ha1
    go_wp2_with fail
    have HNE := Aside0.mk (show b < w1.heap.size ∧ w1.heap.size ≠ tb ∧ w.heap.size < w1.heap.size ∧ w.heap.size ≠ tb from by
      have k1 := HP1.out.tlt
      have k2 := HG1.out.size
      have k3 := blk_lt HRB1.out
      have k4 := HI.out.tlt
      exact ⟨k1.2, by omega, k3, by omega⟩)
    have hbw1 := hbw
    cases hi : isP 3 ⟨#[38]⟩ l1 with
    | false =>
      have HE := Aside0.mk hi
      go_at_call 58
      refine (is_any 3 ⟨#[38]⟩ _ (HP1.out.al _)).mono ?_
      rw [HE.out]
      rintro e w2 ⟨rfl, hb2⟩
      have HPm := Aside0.mk ((HP1.out.al _).grown hb2)
      have HCBm := Aside0.mk (blk_below (heap_alloc_new w1 (.cells #[.int .i64 4, .slice none 0 0, .int .i64 (bt a 3 - 48), .int .u64 18446744073709551615, .string ⟨#[]⟩, .int .u64 0] 28)) hb2)
      have HRBm := Aside0.mk (blk_below (blk_alloc HRB1.out (.cells #[.int .i64 4, .slice none 0 0, .int .i64 (bt a 3 - 48), .int .u64 18446744073709551615, .string ⟨#[]⟩, .int .u64 0] 28)) hb2)
      have HGm := Aside0.mk (grown_trans HG1.out (grown_of_below (((Below.refl w1.heap.size w1).alloc (Nat.le_refl _) (.cells #[.int .i64 4, .slice none 0 0, .int .i64 (bt a 3 - 48), .int .u64 18446744073709551615, .string ⟨#[]⟩, .int .u64 0] 28)).trans (hb2.mono (by simp))) (some b)))
      have HRm := Aside0.mk (HR1.out.trans (show _ = bnd (takeP 3 signsT l1) fun s => bnd (numP s.2) fun v => .ok (⟨4, [], A, 18446744073709551615, s.1, v.1⟩, v.2) by unfold maskP; rw [if_neg (by rw [hi]; decide)]; rfl))
      subst hA
      clear hb2 hi
      go_wp2_with fail
      have HT3 := lit_txts signsT (by decide) (by decide) (w2)
      go_at_call 54
      refine (take_post 3 (by decide) _ signsT _ (HPm.out.al _) (by first | exact HT3 | (have h_ := HT3; simp only [World.size_setCell, World.size_alloc] at h_ ⊢; exact h_))).mono ?_
      intro e w5 hp5
      clear HT3
      have hb5 : Below (w2).heap.size (w2) ((w2).alloc (.cells #[.string ⟨#[61, 61]⟩, .string ⟨#[33, 61]⟩, .string ⟨#[60]⟩, .string ⟨#[60, 61]⟩, .string ⟨#[62]⟩, .string ⟨#[62, 61]⟩] 9)) := (Below.refl _ _).alloc (Nat.le_refl _) _
      cases hr5 : takeP 3 signsT l1 with
      | error x =>
        obtain ⟨bad, at_⟩ := x
        obtain ⟨hg, rfl⟩ := hp5.err hr5
        go_wp2_with fail
        exact ⟨rfl, PPost.mk_err (HRm.out.trans (by rw [hr5]; rfl)) (grown_trans HGm.out (grown_below hb5 hg))⟩
      | ok x =>
        obtain ⟨s, l3⟩ := x
        obtain ⟨hg5, ⟨v, rfl, hv⟩, hP5⟩ := hp5.ok hr5
        unfold strV at hv
        subst hv
        have HG5 := Aside0.mk (grown_trans HGm.out (grown_below hb5 hg5))
        have hC5 := blk_grown (blk_alloc HCBm.out (.cells #[.string ⟨#[61, 61]⟩, .string ⟨#[33, 61]⟩, .string ⟨#[60]⟩, .string ⟨#[60, 61]⟩, .string ⟨#[62]⟩, .string ⟨#[62, 61]⟩] 9)) hg5 (by intro e; have := Option.some.inj e; have := HNE.out; omega)
        have HRB5 := Aside0.mk (blk_grown (blk_alloc HRBm.out (.cells #[.string ⟨#[61, 61]⟩, .string ⟨#[33, 61]⟩, .string ⟨#[60]⟩, .string ⟨#[60, 61]⟩, .string ⟨#[62]⟩, .string ⟨#[62, 61]⟩] 9)) hg5 (by intro e; have := Option.some.inj e; have := HNE.out; omega))
        have HP5 := Aside0.mk (hP5.far HNE.out.1 HNE.out.2.1 4 (.string s))
        have hc54 := (blk_cell hC5 4).trans rfl
        have hf54 := blk_frozen hC5 4
        have HC5 := Aside0.mk (blk_in (j := 4) hC5 (.string s))
        have HRB5' := Aside0.mk ((Below.heap_setCell w5 ⟨w1.heap.size, 4, none⟩ (.string s) w.heap.size (by show w.heap.size ≠ w1.heap.size; have := HNE.out; omega)).trans HRB5.out)
        have HG5' := Aside0.mk (grown_new HG5.out (c := w1.heap.size) (by have := HNE.out; omega) 4 (.string s))
        clear hp5 hP5 hg5 hb5 hC5
        go_wp2_with fail
        go_at_call 82
        refine (number_any _ HP5.out).mono ?_
        intro e w6 hp6
        cases hr6 : numP l3 with
        | error x =>
          obtain ⟨bad, at_⟩ := x
          obtain ⟨hg, rfl⟩ := hp6.err hr6
          go_wp2_with fail
          exact ⟨rfl, PPost.mk_err (HRm.out.trans (by rw [hr5]; show bnd (numP l3) _ = _; rw [hr6]; rfl)) (grown_trans HG5'.out hg)⟩
        | ok x =>
          obtain ⟨n, l4⟩ := x
          obtain ⟨hg6, ⟨v, rfl, hv⟩, hP6⟩ := hp6.ok hr6
          unfold intV at hv
          subst hv
          have HG6 := Aside0.mk (grown_trans HG5'.out hg6)
          have HP6 := Aside0.mk hP6
          have hC6 := blk_grown HC5.out hg6 (by intro e; have := Option.some.inj e; have := HNE.out; omega)
          have hB6 := blk_grown HRB5'.out hg6 (by intro e; have := Option.some.inj e; have := HNE.out; omega)
          have k0 : w6.cell? ⟨w1.heap.size, 0, none⟩ = some (.int .i64 4) := (blk_cell hC6 0).trans rfl
          have k1 : w6.cell? ⟨w1.heap.size, 1, none⟩ = some (.slice none 0 0) := (blk_cell hC6 1).trans rfl
          have k2 : w6.cell? ⟨w1.heap.size, 2, none⟩ = some (.int .i64 (bt a 3 - 48)) := (blk_cell hC6 2).trans rfl
          have k3 : w6.cell? ⟨w1.heap.size, 3, none⟩ = some (.int .u64 18446744073709551615) := (blk_cell hC6 3).trans rfl
          have k4 : w6.cell? ⟨w1.heap.size, 4, none⟩ = some (.string s) := (blk_cell hC6 4).trans rfl
          have k5 : w6.cell? ⟨w1.heap.size, 5, none⟩ = some (.int .u64 0) := (blk_cell hC6 5).trans rfl
          have q5 := blk_frozen hC6 5
          have r0 : w6.cell? ⟨w.heap.size, 0, none⟩ = some (.int .i64 0) := (blk_cell hB6 0).trans rfl
          have r1 : w6.cell? ⟨w.heap.size, 1, none⟩ = some (.slice none 0 0) := (blk_cell hB6 1).trans rfl
          have r2 : w6.cell? ⟨w.heap.size, 2, none⟩ = some (.int .i64 0) := (blk_cell hB6 2).trans rfl
          have r3 : w6.cell? ⟨w.heap.size, 3, none⟩ = some (.int .u64 0) := (blk_cell hB6 3).trans rfl
          have r4 : w6.cell? ⟨w.heap.size, 4, none⟩ = some (.string ⟨#[]⟩) := (blk_cell hB6 4).trans rfl
          have r5 : w6.cell? ⟨w.heap.size, 5, none⟩ = some (.int .u64 0) := (blk_cell hB6 5).trans rfl
          have z0 := blk_frozen hB6 0
          have z1 := blk_frozen hB6 1
          have z2 := blk_frozen hB6 2
          have z3 := blk_frozen hB6 3
          have z4 := blk_frozen hB6 4
          have z5 := blk_frozen hB6 5
          have d1 : ¬ w.heap.size = w1.heap.size := by have := HNE.out; omega
          have d2 : ¬ w1.heap.size = w.heap.size := by have := HNE.out; omega
          clear hp6 hP6 hg6 hC6 hB6 hc54 hf54
          go_wp2_with fail
          refine bodyPost_ret (v := .agg #[.int .i64 4, .slice none 0 0, .int .i64 (bt a 3 - 48), .int .u64 18446744073709551615, .string s, .int .u64 n]) (by simp [results, Tryz.results132, go_sem, *]) rfl ?_
          have hx : w.heap.size ≤ w1.heap.size := by have := HNE.out; omega
          have n1 := HNE.out.1
          have n2 := HNE.out.2.1
          have n3 := HNE.out.2.2.2
          refine PPost.mk_ok (x := ⟨4, [], bt a 3 - 48, 18446744073709551615, s, n⟩) (l' := l4) (HRm.out.trans (by rw [hr5]; show bnd (numP l3) _ = _; rw [hr6]; rfl)) ?_ ⟨_, rfl, Kd.R_nil _ _ _ _ _⟩ ?_
          · exact grown_new (grown_new (grown_new (grown_new (grown_new (grown_new (grown_new HG6.out hx _ _) (Nat.le_refl _) _ _) (Nat.le_refl _) _ _) (Nat.le_refl _) _ _) (Nat.le_refl _) _ _) (Nat.le_refl _) _ _) (Nat.le_refl _) _ _
          · exact ((((((HP6.out.far n1 n2 _ _).far hbw n3 _ _).far hbw n3 _ _).far hbw n3 _ _).far hbw n3 _ _).far hbw n3 _ _).far hbw n3 _ _
    | true =>
      have HE := Aside0.mk hi
      go_at_call 58
      refine (is_any 3 ⟨#[38]⟩ _ (HP1.out.al _)).mono ?_
      rw [HE.out]
      rintro e w2 ⟨rfl, hb2⟩
      have HP2 := Aside0.mk ((HP1.out.al _).grown hb2)
      have HC2 := Aside0.mk (blk_below (heap_alloc_new w1 (.cells #[.int .i64 4, .slice none 0 0, .int .i64 (bt a 3 - 48), .int .u64 18446744073709551615, .string ⟨#[]⟩, .int .u64 0] 28)) hb2)
      have HRB2 := Aside0.mk (blk_below (blk_alloc HRB1.out (.cells #[.int .i64 4, .slice none 0 0, .int .i64 (bt a 3 - 48), .int .u64 18446744073709551615, .string ⟨#[]⟩, .int .u64 0] 28)) hb2)
      have HG2 := Aside0.mk (grown_trans HG1.out (grown_of_below (((Below.refl w1.heap.size w1).alloc (Nat.le_refl _) (.cells #[.int .i64 4, .slice none 0 0, .int .i64 (bt a 3 - 48), .int .u64 18446744073709551615, .string ⟨#[]⟩, .int .u64 0] 28)).trans (hb2.mono (by simp))) (some b)))
      have HR2 := Aside0.mk (HR1.out.trans (show _ = bnd (bnd (takeP 3 [] l1) fun s => numP s.2) fun m => bnd (takeP 3 signsT m.2) fun s => bnd (numP s.2) fun v => .ok (⟨4, [], A, m.1, s.1, v.1⟩, v.2) by unfold maskP; rw [if_pos hi]))
      subst hA
      clear hb2 hi
      go_wp2_with fail
      go_at_call 54
      refine (take_post 3 (by decide) _ [] _ HP2.out (Or.inl ⟨rfl, rfl⟩)).mono ?_
      intro e w3 hp3
      cases hr3 : takeP 3 [] l1 with
      | error x =>
        obtain ⟨bad, at_⟩ := x
        obtain ⟨hg, rfl⟩ := hp3.err hr3
        go_wp2_with fail
        exact ⟨rfl, PPost.mk_err (HR2.out.trans (by rw [hr3]; rfl)) (grown_trans HG2.out hg)⟩
      | ok x =>
        obtain ⟨s0, l2a⟩ := x
        obtain ⟨hg3, ⟨v, rfl, hv⟩, hP3⟩ := hp3.ok hr3
        unfold strV at hv
        subst hv
        have HG3 := Aside0.mk (grown_trans HG2.out hg3)
        have HC3 := Aside0.mk (blk_grown HC2.out hg3 (by intro e; have := Option.some.inj e; have := HNE.out; omega))
        have HRB3 := Aside0.mk (blk_grown HRB2.out hg3 (by intro e; have := Option.some.inj e; have := HNE.out; omega))
        have HP3 := Aside0.mk hP3
        clear hp3 hP3 hg3
        go_wp2_with fail
        go_at_call 82
        refine (number_any _ HP3.out).mono ?_
        intro e w4 hp4
        cases hr4 : numP l2a with
        | error x =>
          obtain ⟨bad, at_⟩ := x
          obtain ⟨hg, rfl⟩ := hp4.err hr4
          go_wp2_with fail
          exact ⟨rfl, PPost.mk_err (HR2.out.trans (by rw [hr3]; show bnd (numP l2a) _ = _; rw [hr4]; rfl)) (grown_trans HG3.out hg)⟩
        | ok x =>
          obtain ⟨m, l2⟩ := x
          obtain ⟨hg4, ⟨v, rfl, hv⟩, hP4⟩ := hp4.ok hr4
          unfold intV at hv
          subst hv
          have hC4 := blk_grown HC3.out hg4 (by intro e; have := Option.some.inj e; have := HNE.out; omega)
          have hRB4 := blk_grown HRB3.out hg4 (by intro e; have := Option.some.inj e; have := HNE.out; omega)
          have HPm := Aside0.mk (hP4.far HNE.out.1 HNE.out.2.1 3 (.int .u64 m))
          have HGm := Aside0.mk (grown_new (grown_trans HG3.out hg4) (c := w1.heap.size) (by have := HNE.out; omega) 3 (.int .u64 m))
          have HCBm := Aside0.mk (blk_in (j := 3) hC4 (.int .u64 m))
          have HRBm := Aside0.mk ((Below.heap_setCell w4 ⟨w1.heap.size, 3, none⟩ (.int .u64 m) w.heap.size (by show w.heap.size ≠ w1.heap.size; have := HNE.out; omega)).trans hRB4)
          have HRm := Aside0.mk (HR2.out.trans (show _ = bnd (takeP 3 signsT l2) fun s => bnd (numP s.2) fun v => .ok (⟨4, [], bt a 3 - 48, m, s.1, v.1⟩, v.2) by simp only [hr3, bnd_ok, hr4]))
          have hc43 : w4.cell? ⟨w1.heap.size, 3, none⟩ = some (.int .u64 18446744073709551615) := (blk_cell hC4 3).trans rfl
          have hf43 := blk_frozen hC4 3
          clear hp4 hP4 hg4 hC4 hRB4
          go_wp2_with fail
          have HT3 := lit_txts signsT (by decide) (by decide) (w4.setCell ⟨w1.heap.size, 3, none⟩ (.int .u64 m))
          go_at_call 54
          refine (take_post 3 (by decide) _ signsT _ (HPm.out.al _) (by first | exact HT3 | (have h_ := HT3; simp only [World.size_setCell, World.size_alloc] at h_ ⊢; exact h_))).mono ?_
          intro e w5 hp5
          clear HT3
          have hb5 : Below (w4.setCell ⟨w1.heap.size, 3, none⟩ (.int .u64 m)).heap.size (w4.setCell ⟨w1.heap.size, 3, none⟩ (.int .u64 m)) ((w4.setCell ⟨w1.heap.size, 3, none⟩ (.int .u64 m)).alloc (.cells #[.string ⟨#[61, 61]⟩, .string ⟨#[33, 61]⟩, .string ⟨#[60]⟩, .string ⟨#[60, 61]⟩, .string ⟨#[62]⟩, .string ⟨#[62, 61]⟩] 9)) := (Below.refl _ _).alloc (Nat.le_refl _) _
          cases hr5 : takeP 3 signsT l2 with
          | error x =>
            obtain ⟨bad, at_⟩ := x
            obtain ⟨hg, rfl⟩ := hp5.err hr5
            go_wp2_with fail
            exact ⟨rfl, PPost.mk_err (HRm.out.trans (by rw [hr5]; rfl)) (grown_trans HGm.out (grown_below hb5 hg))⟩
          | ok x =>
            obtain ⟨s, l3⟩ := x
            obtain ⟨hg5, ⟨v, rfl, hv⟩, hP5⟩ := hp5.ok hr5
            unfold strV at hv
            subst hv
            have HG5 := Aside0.mk (grown_trans HGm.out (grown_below hb5 hg5))
            have hC5 := blk_grown (blk_alloc HCBm.out (.cells #[.string ⟨#[61, 61]⟩, .string ⟨#[33, 61]⟩, .string ⟨#[60]⟩, .string ⟨#[60, 61]⟩, .string ⟨#[62]⟩, .string ⟨#[62, 61]⟩] 9)) hg5 (by intro e; have := Option.some.inj e; have := HNE.out; omega)
            have HRB5 := Aside0.mk (blk_grown (blk_alloc HRBm.out (.cells #[.string ⟨#[61, 61]⟩, .string ⟨#[33, 61]⟩, .string ⟨#[60]⟩, .string ⟨#[60, 61]⟩, .string ⟨#[62]⟩, .string ⟨#[62, 61]⟩] 9)) hg5 (by intro e; have := Option.some.inj e; have := HNE.out; omega))
            have HP5 := Aside0.mk (hP5.far HNE.out.1 HNE.out.2.1 4 (.string s))
            have hc54 := (blk_cell hC5 4).trans rfl
            have hf54 := blk_frozen hC5 4
            have HC5 := Aside0.mk (blk_in (j := 4) hC5 (.string s))
            have HRB5' := Aside0.mk ((Below.heap_setCell w5 ⟨w1.heap.size, 4, none⟩ (.string s) w.heap.size (by show w.heap.size ≠ w1.heap.size; have := HNE.out; omega)).trans HRB5.out)
            have HG5' := Aside0.mk (grown_new HG5.out (c := w1.heap.size) (by have := HNE.out; omega) 4 (.string s))
            clear hp5 hP5 hg5 hb5 hC5
            go_wp2_with fail
            go_at_call 82
            refine (number_any _ HP5.out).mono ?_
            intro e w6 hp6
            cases hr6 : numP l3 with
            | error x =>
              obtain ⟨bad, at_⟩ := x
              obtain ⟨hg, rfl⟩ := hp6.err hr6
              go_wp2_with fail
              exact ⟨rfl, PPost.mk_err (HRm.out.trans (by rw [hr5]; show bnd (numP l3) _ = _; rw [hr6]; rfl)) (grown_trans HG5'.out hg)⟩
            | ok x =>
              obtain ⟨n, l4⟩ := x
              obtain ⟨hg6, ⟨v, rfl, hv⟩, hP6⟩ := hp6.ok hr6
              unfold intV at hv
              subst hv
              have HG6 := Aside0.mk (grown_trans HG5'.out hg6)
              have HP6 := Aside0.mk hP6
              have hC6 := blk_grown HC5.out hg6 (by intro e; have := Option.some.inj e; have := HNE.out; omega)
              have hB6 := blk_grown HRB5'.out hg6 (by intro e; have := Option.some.inj e; have := HNE.out; omega)
              have k0 : w6.cell? ⟨w1.heap.size, 0, none⟩ = some (.int .i64 4) := (blk_cell hC6 0).trans rfl
              have k1 : w6.cell? ⟨w1.heap.size, 1, none⟩ = some (.slice none 0 0) := (blk_cell hC6 1).trans rfl
              have k2 : w6.cell? ⟨w1.heap.size, 2, none⟩ = some (.int .i64 (bt a 3 - 48)) := (blk_cell hC6 2).trans rfl
              have k3 : w6.cell? ⟨w1.heap.size, 3, none⟩ = some (.int .u64 m) := (blk_cell hC6 3).trans rfl
              have k4 : w6.cell? ⟨w1.heap.size, 4, none⟩ = some (.string s) := (blk_cell hC6 4).trans rfl
              have k5 : w6.cell? ⟨w1.heap.size, 5, none⟩ = some (.int .u64 0) := (blk_cell hC6 5).trans rfl
              have q5 := blk_frozen hC6 5
              have r0 : w6.cell? ⟨w.heap.size, 0, none⟩ = some (.int .i64 0) := (blk_cell hB6 0).trans rfl
              have r1 : w6.cell? ⟨w.heap.size, 1, none⟩ = some (.slice none 0 0) := (blk_cell hB6 1).trans rfl
              have r2 : w6.cell? ⟨w.heap.size, 2, none⟩ = some (.int .i64 0) := (blk_cell hB6 2).trans rfl
              have r3 : w6.cell? ⟨w.heap.size, 3, none⟩ = some (.int .u64 0) := (blk_cell hB6 3).trans rfl
              have r4 : w6.cell? ⟨w.heap.size, 4, none⟩ = some (.string ⟨#[]⟩) := (blk_cell hB6 4).trans rfl
              have r5 : w6.cell? ⟨w.heap.size, 5, none⟩ = some (.int .u64 0) := (blk_cell hB6 5).trans rfl
              have z0 := blk_frozen hB6 0
              have z1 := blk_frozen hB6 1
              have z2 := blk_frozen hB6 2
              have z3 := blk_frozen hB6 3
              have z4 := blk_frozen hB6 4
              have z5 := blk_frozen hB6 5
              have d1 : ¬ w.heap.size = w1.heap.size := by have := HNE.out; omega
              have d2 : ¬ w1.heap.size = w.heap.size := by have := HNE.out; omega
              clear hp6 hP6 hg6 hC6 hB6 hc54 hf54
              go_wp2_with fail
              refine bodyPost_ret (v := .agg #[.int .i64 4, .slice none 0 0, .int .i64 (bt a 3 - 48), .int .u64 m, .string s, .int .u64 n]) (by simp [results, Tryz.results132, go_sem, *]) rfl ?_
              have hx : w.heap.size ≤ w1.heap.size := by have := HNE.out; omega
              have n1 := HNE.out.1
              have n2 := HNE.out.2.1
              have n3 := HNE.out.2.2.2
              refine PPost.mk_ok (x := ⟨4, [], bt a 3 - 48, m, s, n⟩) (l' := l4) (HRm.out.trans (by rw [hr5]; show bnd (numP l3) _ = _; rw [hr6]; rfl)) ?_ ⟨_, rfl, Kd.R_nil _ _ _ _ _⟩ ?_
              · exact grown_new (grown_new (grown_new (grown_new (grown_new (grown_new (grown_new HG6.out hx _ _) (Nat.le_refl _) _ _) (Nat.le_refl _) _ _) (Nat.le_refl _) _ _) (Nat.le_refl _) _ _) (Nat.le_refl _) _ _) (Nat.le_refl _) _ _
              · exact ((((((HP6.out.far n1 n2 _ _).far hbw n3 _ _).far hbw n3 _ _).far hbw n3 _ _).far hbw n3 _ _).far hbw n3 _ _).far hbw n3 _ _

end Go.Proofs.YtdfjjimmnbijmaaGreatDoor.ZQ

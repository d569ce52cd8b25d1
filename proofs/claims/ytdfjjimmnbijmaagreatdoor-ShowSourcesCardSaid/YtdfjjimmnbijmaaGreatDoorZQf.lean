import Derived.Test.YtdfjjimmnbijmaaGreatDoorZQe
namespace Go.Proofs.YtdfjjimmnbijmaaGreatDoor.ZQ
open Go.RowKit Go.Proofs.YtdfjjimmnbijmaaGreatDoorW.PrintWords Go.Proofs.YtdfjjimmnbijmaaGreatDoorW.PrintLast Go.Proofs.YtdfjjimmnbijmaaGreatDoorW.PrintMore Go.Proofs.YtdfjjimmnbijmaaGreatDoor.Base
attribute [local go_sem] max2_int min2_int max_two min_two max_three min_three max_four min_four
set_option linter.unusedVariables false
set_option linter.unusedSimpArgs false
def archT : ByteArray := ⟨#[97, 114, 99, 104]⟩
def defT : ByteArray := ⟨#[100, 101, 102, 97, 117, 108, 116]⟩
def rulesP : Nat → List S47 → List S74 → Except (Int × Int) (List S47 × List S74)
  | 0, acc, l => .ok (acc, l)
  | n + 1, acc, l => if isP 0 emptyT l = true then .ok (acc, l) else bnd (ruleP l) fun r => bnd (endP r.2) fun e => rulesP n (acc ++ [r.1]) e.2
def policyP (l : List S74) : Except (Int × Int) (S25 × List S74) :=
  bnd (takeP 1 [archT] (linesP l)) fun a0 => bnd (wordP a0.2) fun ar => bnd (endP ar.2) fun e1 => bnd (takeP 1 [defT] e1.2) fun d0 => bnd (actP d0.2) fun d => bnd (endP d.2) fun e2 => bnd (rulesP e2.2.length [] e2.2) fun rs => .ok (⟨ar.1, d.1.1, d.1.2, rs.1⟩, rs.2)
theorem infoR : (Tryz.prog.info? 47).map (fun i => (i.zero, i.size, i.bytes)) = some (some (.agg #[.string ⟨#[]⟩, .int .u64 0, .slice none 0 0, .int .i64 0, .slice none 0 0, .int .i64 0, .int .u64 0, .string ⟨#[]⟩, .int .u64 0]), 9, 120) := by kernel_rfl
theorem lines_shr : ∀ l : List S74, (linesP l).length ≤ l.length
  | [] => Nat.le_refl _
  | t :: r => by
    unfold linesP
    split
    · have := lines_shr r; simp; omega
    · exact Nat.le_refl _
theorem end_shr : Shr endP := fun l c l' h => by
  unfold endP at h
  split at h
  · cases h; exact lines_shr l
  · obtain ⟨⟨s, l1⟩, h1, h2⟩ := bnd_inv h
    cases h2
    exact Nat.le_trans (lines_shr _) (take_shr _ _ _ _ _ h1)
theorem word_shr : Shr wordP := fun l c l' h => by
  unfold wordP at h
  split at h
  · cases h
  · exact take_shr _ _ _ _ _ h
theorem names_shr : ∀ n acc l m l', namesP n acc l = .ok (m, l') → l'.length ≤ l.length
  | 0, acc, l, m, l', h => by cases h; exact Nat.le_refl _
  | n + 1, acc, l, m, l', h => by
    rw [namesP] at h
    split at h
    · obtain ⟨⟨c, l1⟩, h1, h2⟩ := bnd_inv h
      exact Nat.le_trans (names_shr n _ _ _ _ h2) (word_shr _ _ _ h1)
    · cases h; exact Nat.le_refl _
theorem act_lt {l l' : List S74} {x : ByteArray × Int} (h0 : l ≠ []) (h : actP l = .ok (x, l')) : l'.length + 1 ≤ l.length := by
  obtain ⟨⟨s, l1⟩, h1, h2⟩ := bnd_inv h
  have e1 := word_len h0 h1
  simp only at h2
  split at h2
  · obtain ⟨⟨n, l2⟩, h3, h4⟩ := bnd_inv h2
    cases h4
    have := num_shr _ _ _ h3
    try simp only at this
    try simp only
    omega
  · cases h2; omega
theorem rule_lt {l l' : List S74} {x : S47} (h0 : l ≠ []) (h : ruleP l = .ok (x, l')) : l'.length + 1 ≤ l.length := by
  obtain ⟨⟨a, l1⟩, h1, h2⟩ := bnd_inv h
  obtain ⟨⟨nm, l2⟩, h3, h4⟩ := bnd_inv h2
  obtain ⟨⟨ns, l3⟩, h5, h6⟩ := bnd_inv h4
  have e1 := act_lt h0 h1
  have e2 := word_shr _ _ _ h3
  have e3 := names_shr _ _ _ _ _ h5
  try simp only at e2
  try simp only at e3
  try simp only at h6
  split at h6
  · obtain ⟨⟨c, l4⟩, h7, h8⟩ := bnd_inv h6
    cases h8
    have e4 := list_shr (list_shr (factor_shr l3.length 0) andT 1) orT 2 _ _ _ h7
    have e5 : l3.tail.length ≤ l3.length := by simp
    have e6 : l4.length ≤ l3.tail.length := e4
    show l4.length + 1 ≤ l.length
    have e7 : l1.length + 1 ≤ l.length := e1
    have e8 : l2.length ≤ l1.length := e2
    have e9 : l3.length ≤ l2.length := e3
    omega
  · obtain ⟨_, rfl⟩ := Prod.mk.inj (Except.ok.inj h6)
    have e7 : l1.length + 1 ≤ l.length := e1
    have e8 : l2.length ≤ l1.length := e2
    have e9 : l3.length ≤ l2.length := e3
    omega
def policyV (B : Nat) (x : S25) (w : World) (v : Value) : Prop := ∃ rv, v = .agg #[.string x.f0, .string x.f1, .int .u64 x.f2, rv] ∧ k47.R 47 w B (fun _ => True) rv x.f3
theorem policy_store {w w2 : World} {b tb : Nat} {cs : Array Value} {l' : List S74} {R : Except (Int × Int) (S25 × List S74)} (hbw : b < w.heap.size) (htw : tb < w.heap.size) (hP : PInv w2 b tb cs l' 0) (hG : w.grownBy w2 (some b)) (c : S25) (rv : Value) (hR : R = .ok (c, l')) (hN : k47.R 47 w2 (w.heap.size + 1) (fun _ => True) rv c.f3) :
    PPost w b tb cs 0 (policyV w.heap.size) R (.returned (.agg #[.string c.f0, .string c.f1, .int .u64 c.f2, rv])) ((((w2.setCell ⟨w.heap.size, 0, none⟩ (.string c.f0)).setCell ⟨w.heap.size, 1, none⟩ (.string c.f1)).setCell ⟨w.heap.size, 2, none⟩ (.int .u64 c.f2)).setCell ⟨w.heap.size, 3, none⟩ rv) := by
  have n3 : w.heap.size ≠ tb := by omega
  have far : ∀ {α : Type} {d : Kd α} {e : Nat} {v : Value} {xs : List α} {W : World} (j : Nat) (u : Value), d.R e W (w.heap.size + 1) (fun _ => True) v xs → d.R e (W.setCell ⟨w.heap.size, j, none⟩ u) (w.heap.size + 1) (fun _ => True) v xs := fun j u h => Kd.R_mono (Kd.R_far (Kd.R_bound h) (p := ⟨w.heap.size, j, none⟩) (fun k hk => by have := hk.2.1; show k ≠ w.heap.size; omega) u) (fun _ hk => hk.1)
  refine PPost.mk_ok hR ?_ ⟨rv, rfl, ?_⟩ ?_
  · exact grown_new (grown_new (grown_new (grown_new hG (Nat.le_refl _) _ _) (Nat.le_refl _) _ _) (Nat.le_refl _) _ _) (Nat.le_refl _) _ _
  · exact Kd.R_lower (far _ _ (far _ _ (far _ _ (far _ _ hN)))) (by omega)
  · exact (((hP.far hbw n3 _ _).far hbw n3 _ _).far hbw n3 _ _).far hbw n3 _ _
set_option maxHeartbeats 6400000 in
set_option maxRecDepth 100000 in
theorem policy_any {b tb : Nat} {cs : Array Value} {l : List S74} (w : World) (hM : l.length ≤ 1000000) (h : PInv w b tb cs l 0) :
    Calls Tryz.prog 30 #[.pointer (some ⟨b, 0, none⟩)] w (PPost w b tb cs 0 (policyV w.heap.size) (policyP l)) := by
  have HI := Aside0.mk h
  obtain ⟨R, hR⟩ : ∃ R, R = policyP l := ⟨_, rfl⟩
  rw [← hR]
  have HR := Aside0.mk hR
  have hbw : b < w.heap.size := h.tlt.2
  have htw : tb < w.heap.size := h.tlt.1
  clear h hR
  have hb0 : Below w.heap.size w ((w.alloc (.cells #[.string ⟨#[]⟩, .string ⟨#[]⟩, .int .u64 0, .slice none 0 0] 25)).alloc (.cells #[.string ⟨#[]⟩, .string ⟨#[]⟩, .int .u64 0, .slice none 0 0] 25)) := ((Below.refl _ _).alloc (Nat.le_refl _) _).alloc (by simp) _
  have hz0 : ((w.alloc (.cells #[.string ⟨#[]⟩, .string ⟨#[]⟩, .int .u64 0, .slice none 0 0] 25)).alloc (.cells #[.string ⟨#[]⟩, .string ⟨#[]⟩, .int .u64 0, .slice none 0 0] 25)).heap[w.heap.size]? = some (.cells #[.string ⟨#[]⟩, .string ⟨#[]⟩, .int .u64 0, .slice none 0 0] 25 (0, 0)) := blk_alloc (heap_alloc_new w _) _
  have hz1 : ((w.alloc (.cells #[.string ⟨#[]⟩, .string ⟨#[]⟩, .int .u64 0, .slice none 0 0] 25)).alloc (.cells #[.string ⟨#[]⟩, .string ⟨#[]⟩, .int .u64 0, .slice none 0 0] 25)).heap[w.heap.size + 1]? = some (.cells #[.string ⟨#[]⟩, .string ⟨#[]⟩, .int .u64 0, .slice none 0 0] 25 (0, 0)) := by
    have h_ := heap_alloc_new (w.alloc (.cells #[.string ⟨#[]⟩, .string ⟨#[]⟩, .int .u64 0, .slice none 0 0] 25)) (.cells #[.string ⟨#[]⟩, .string ⟨#[]⟩, .int .u64 0, .slice none 0 0] 25)
    rw [World.size_alloc] at h_; exact h_
  have n1_ : b < w.heap.size + 1 := by omega
  have n2_ : w.heap.size + 1 ≠ tb := by omega
  have hle1 : w.heap.size ≤ w.heap.size + 1 := by omega
  go_enter Tryz.func30, Tryz.ntmps30
  go_wp2_with fail
  go_at_call 53
  refine (lines_any _ ((HI.out.al _).al _)).mono ?_
  intro e w1 hp1
  obtain ⟨hg1, ⟨v, rfl, hv⟩, hP1⟩ := hp1.ok rfl
  unfold unitV at hv
  subst hv
  have HG1 := Aside0.mk (grown_below hb0 hg1)
  have HZ1 := Aside0.mk (blk_grown hz0 hg1 (by intro e; have := Option.some.inj e; omega))
  have HC1 := Aside0.mk (blk_grown hz1 hg1 (by intro e; have := Option.some.inj e; omega))
  have HP1 := Aside0.mk hP1
  clear hp1 hg1 hP1 hz0 hz1 hb0
  -- 'arch'
  go_wp2_with fail
  have HT := lit_txts [archT] (by decide) (by decide) w1
  go_at_call 54
  refine (take_post 1 (by decide) _ [archT] _ (HP1.out.al _) HT).mono ?_
  intro e w2 hp2
  have hbt : Below w1.heap.size w1 (w1.alloc (.cells ([archT].map Value.string).toArray 9)) := (Below.refl _ _).alloc (Nat.le_refl _) _
  cases hr2 : takeP 1 [archT] (linesP l) with
  | error x =>
    obtain ⟨bad, at_⟩ := x
    obtain ⟨hg, rfl⟩ := hp2.err hr2
    go_wp2_with fail
    exact ⟨rfl, PPost.mk_err (HR.out.trans (by unfold policyP; rw [hr2]; rfl)) (grown_trans HG1.out (grown_below hbt hg))⟩
  | ok x =>
  obtain ⟨s2, l2⟩ := x
  obtain ⟨hg2, ⟨v, rfl, hv⟩, hP2⟩ := hp2.ok hr2
  unfold strV at hv
  subst hv
  have HG2 := Aside0.mk (grown_trans HG1.out (grown_below hbt hg2))
  have HZ2 := Aside0.mk (blk_grown (blk_below HZ1.out hbt) hg2 (by intro e; have := Option.some.inj e; omega))
  have HC2 := Aside0.mk (blk_grown (blk_below HC1.out hbt) hg2 (by intro e; have := Option.some.inj e; omega))
  have HP2 := Aside0.mk hP2
  have HR2 := Aside0.mk (HR.out.trans (show policyP l = bnd (wordP l2) fun ar => bnd (endP ar.2) fun e1 => bnd (takeP 1 [defT] e1.2) fun d0 => bnd (actP d0.2) fun d => bnd (endP d.2) fun e2 => bnd (rulesP e2.2.length [] e2.2) fun rs => .ok (⟨ar.1, d.1.1, d.1.2, rs.1⟩, rs.2) by unfold policyP; rw [hr2]; rfl))
  have HL2 := Aside0.mk (Nat.le_trans (take_shr _ _ _ _ _ hr2) (lines_shr l))
  clear hp2 hg2 hP2 hbt HT
  -- its name
  go_wp2_with fail
  go_at_call 55
  refine (wordp_any _ HP2.out).mono ?_
  intro e w3 hp3
  cases hr3 : wordP l2 with
  | error x =>
    obtain ⟨bad, at_⟩ := x
    obtain ⟨hg, rfl⟩ := hp3.err hr3
    go_wp2_with fail
    exact ⟨rfl, PPost.mk_err (HR2.out.trans (by rw [hr3]; rfl)) (grown_trans HG2.out hg)⟩
  | ok x =>
  obtain ⟨nm, l3⟩ := x
  obtain ⟨hg3, ⟨v, rfl, hv⟩, hP3⟩ := hp3.ok hr3
  unfold strV at hv
  subst hv
  have hG3 := grown_trans HG2.out hg3
  have hZ3 := blk_grown HZ2.out hg3 (by intro e; have := Option.some.inj e; omega)
  have hC3 := blk_grown HC2.out hg3 (by intro e; have := Option.some.inj e; omega)
  have c30 : w3.cell? ⟨w.heap.size + 1, 0, none⟩ = some (.string ⟨#[]⟩) := (blk_cell hC3 0).trans rfl
  have f30 := blk_frozen hC3 0
  have HG3 := Aside0.mk (grown_new hG3 hle1 0 (.string nm))
  have HP3 := Aside0.mk (hP3.far n1_ n2_ 0 (.string nm))
  have HZ3 := Aside0.mk ((Below.heap_setCell w3 ⟨w.heap.size + 1, 0, none⟩ (.string nm) w.heap.size (by show w.heap.size ≠ w.heap.size + 1; omega)).trans hZ3)
  have HC3 := Aside0.mk (show (w3.setCell ⟨w.heap.size + 1, 0, none⟩ (.string nm)).heap[w.heap.size + 1]? = some (.cells #[.string nm, .string ⟨#[]⟩, .int .u64 0, .slice none 0 0] 25 (0, 0)) from blk_in hC3 _)
  have HR3 := Aside0.mk (HR2.out.trans (show _ = bnd (endP l3) fun e1 => bnd (takeP 1 [defT] e1.2) fun d0 => bnd (actP d0.2) fun d => bnd (endP d.2) fun e2 => bnd (rulesP e2.2.length [] e2.2) fun rs => .ok (⟨nm, d.1.1, d.1.2, rs.1⟩, rs.2) by rw [hr3]; rfl))
  have HL3 := Aside0.mk (Nat.le_trans (word_shr _ _ _ hr3) HL2.out)
  clear hp3 hg3 hP3 hG3 hZ3 hC3
  go_wp2_with fail
  go_at_call 56
  refine (end_any _ HP3.out).mono ?_
  intro e w4 hp4
  cases hr4 : endP l3 with
  | error x =>
    obtain ⟨bad, at_⟩ := x
    obtain ⟨hg, rfl⟩ := hp4.err hr4
    go_wp2_with fail
    exact ⟨rfl, PPost.mk_err (HR3.out.trans (by rw [hr4]; rfl)) (grown_trans HG3.out hg)⟩
  | ok x =>
  obtain ⟨u4, l4⟩ := x
  obtain ⟨hg4, ⟨v, rfl, hv⟩, hP4⟩ := hp4.ok hr4
  unfold unitV at hv
  subst hv
  have HG4 := Aside0.mk (grown_trans HG3.out hg4)
  have HZ4 := Aside0.mk (blk_grown HZ3.out hg4 (by intro e; have := Option.some.inj e; omega))
  have HC4 := Aside0.mk (blk_grown HC3.out hg4 (by intro e; have := Option.some.inj e; omega))
  have HP4 := Aside0.mk hP4
  have HR4 := Aside0.mk (HR3.out.trans (show _ = bnd (takeP 1 [defT] l4) fun d0 => bnd (actP d0.2) fun d => bnd (endP d.2) fun e2 => bnd (rulesP e2.2.length [] e2.2) fun rs => .ok (⟨nm, d.1.1, d.1.2, rs.1⟩, rs.2) by rw [hr4]; rfl))
  have HL4 := Aside0.mk (Nat.le_trans (end_shr _ _ _ hr4) HL3.out)
  clear hp4 hg4 hP4 c30 f30
  -- 'default'
  go_wp2_with fail
  have HT := lit_txts [defT] (by decide) (by decide) w4
  go_at_call 54
  refine (take_post 1 (by decide) _ [defT] _ (HP4.out.al _) HT).mono ?_
  intro e w5 hp5
  have hbt : Below w4.heap.size w4 (w4.alloc (.cells ([defT].map Value.string).toArray 9)) := (Below.refl _ _).alloc (Nat.le_refl _) _
  cases hr5 : takeP 1 [defT] l4 with
  | error x =>
    obtain ⟨bad, at_⟩ := x
    obtain ⟨hg, rfl⟩ := hp5.err hr5
    go_wp2_with fail
    exact ⟨rfl, PPost.mk_err (HR4.out.trans (by rw [hr5]; rfl)) (grown_trans HG4.out (grown_below hbt hg))⟩
  | ok x =>
  obtain ⟨s5, l5⟩ := x
  obtain ⟨hg5, ⟨v, rfl, hv⟩, hP5⟩ := hp5.ok hr5
  unfold strV at hv
  subst hv
  have HG5 := Aside0.mk (grown_trans HG4.out (grown_below hbt hg5))
  have HZ5 := Aside0.mk (blk_grown (blk_below HZ4.out hbt) hg5 (by intro e; have := Option.some.inj e; omega))
  have HC5 := Aside0.mk (blk_grown (blk_below HC4.out hbt) hg5 (by intro e; have := Option.some.inj e; omega))
  have HP5 := Aside0.mk hP5
  have HR5 := Aside0.mk (HR4.out.trans (show _ = bnd (actP l5) fun d => bnd (endP d.2) fun e2 => bnd (rulesP e2.2.length [] e2.2) fun rs => .ok (⟨nm, d.1.1, d.1.2, rs.1⟩, rs.2) by rw [hr5]; rfl))
  have HL5 := Aside0.mk (Nat.le_trans (take_shr _ _ _ _ _ hr5) HL4.out)
  clear hp5 hg5 hP5 hbt HT
  go_wp2_with fail
  go_at_call 57
  refine (actionp_any _ HP5.out).mono ?_
  intro e w6 hp6
  cases hr6 : actP l5 with
  | error x =>
    obtain ⟨bad, at_⟩ := x
    obtain ⟨hg, rfl⟩ := hp6.err hr6
    go_wp2_with fail
    exact ⟨rfl, PPost.mk_err (HR5.out.trans (by rw [hr6]; rfl)) (grown_trans HG5.out hg)⟩
  | ok x =>
  obtain ⟨⟨dn, dt⟩, l6⟩ := x
  obtain ⟨hg6, ⟨v, rfl, hv⟩, hP6⟩ := hp6.ok hr6
  unfold actV at hv
  subst hv
  have hG6 := grown_trans HG5.out hg6
  have hZ6 := blk_grown HZ5.out hg6 (by intro e; have := Option.some.inj e; omega)
  have hC6 := blk_grown HC5.out hg6 (by intro e; have := Option.some.inj e; omega)
  have c61 : w6.cell? ⟨w.heap.size + 1, 1, none⟩ = some (.string ⟨#[]⟩) := (blk_cell hC6 1).trans rfl
  have c62 : w6.cell? ⟨w.heap.size + 1, 2, none⟩ = some (.int .u64 0) := (blk_cell hC6 2).trans rfl
  have f61 := blk_frozen hC6 1
  have f62 := blk_frozen hC6 2
  have HG6 := Aside0.mk (grown_new (grown_new hG6 hle1 1 (.string dn)) hle1 2 (.int .u64 dt))
  have HP6 := Aside0.mk ((hP6.far n1_ n2_ 1 (.string dn)).far n1_ n2_ 2 (.int .u64 dt))
  have HZ6 := Aside0.mk ((Below.heap_setCell (w6.setCell ⟨w.heap.size + 1, 1, none⟩ (.string dn)) ⟨w.heap.size + 1, 2, none⟩ (.int .u64 dt) w.heap.size (by show w.heap.size ≠ w.heap.size + 1; omega)).trans ((Below.heap_setCell w6 ⟨w.heap.size + 1, 1, none⟩ (.string dn) w.heap.size (by show w.heap.size ≠ w.heap.size + 1; omega)).trans hZ6))
  have HC6 := Aside0.mk (show ((w6.setCell ⟨w.heap.size + 1, 1, none⟩ (.string dn)).setCell ⟨w.heap.size + 1, 2, none⟩ (.int .u64 dt)).heap[w.heap.size + 1]? = some (.cells #[.string nm, .string dn, .int .u64 dt, .slice none 0 0] 25 (0, 0)) from blk_in (blk_in hC6 _) _)
  have HR6 := Aside0.mk (HR5.out.trans (show _ = bnd (endP l6) fun e2 => bnd (rulesP e2.2.length [] e2.2) fun rs => .ok (⟨nm, dn, dt, rs.1⟩, rs.2) by rw [hr6]; rfl))
  have HL6 := Aside0.mk (Nat.le_trans (act_shr _ _ _ hr6) HL5.out)
  clear hp6 hg6 hP6 hG6 hZ6 hC6
  go_wp2_with fail
  go_at_call 56
  refine (end_any _ HP6.out).mono ?_
  intro e w7 hp7
  cases hr7 : endP l6 with
  | error x =>
    obtain ⟨bad, at_⟩ := x
    obtain ⟨hg, rfl⟩ := hp7.err hr7
    go_wp2_with fail
    exact ⟨rfl, PPost.mk_err (HR6.out.trans (by rw [hr7]; rfl)) (grown_trans HG6.out hg)⟩
  | ok x =>
  obtain ⟨u7, l7⟩ := x
  obtain ⟨hg7, ⟨v, rfl, hv⟩, hP7⟩ := hp7.ok hr7
  unfold unitV at hv
  subst hv
  have HG7 := Aside0.mk (grown_trans HG6.out hg7)
  have HZ7 := Aside0.mk (blk_grown HZ6.out hg7 (by intro e; have := Option.some.inj e; omega))
  have HC7 := Aside0.mk (blk_grown HC6.out hg7 (by intro e; have := Option.some.inj e; omega))
  have HP7 := Aside0.mk hP7
  have HR7 := Aside0.mk (HR6.out.trans (show _ = bnd (rulesP l7.length [] l7) fun rs => .ok (⟨nm, dn, dt, rs.1⟩, rs.2) by rw [hr7]; rfl))
  have HL7 := Aside0.mk (Nat.le_trans (end_shr _ _ _ hr7) HL6.out)
  clear hp7 hg7 hP7 c61 c62 f61 f62
  go_wp2_with fail
  have HNz := Aside0.mk (Kd.R_nil k47 47 w7 (w.heap.size + 2) (fun _ => True))
  have far2 : ∀ {α : Type} {d : Kd α} {e : Nat} {v : Value} {xs : List α} {W : World} (j : Nat) (u : Value), d.R e W (w.heap.size + 2) (fun _ => True) v xs → d.R e (W.setCell ⟨w.heap.size + 1, j, none⟩ u) (w.heap.size + 2) (fun _ => True) v xs := fun j u h => Kd.R_mono (Kd.R_far (Kd.R_bound h) (p := ⟨w.heap.size + 1, j, none⟩) (fun k hk => by have := hk.2.1; show k ≠ w.heap.size + 1; omega) u) (fun _ hk => hk.1)
  have HFAR := Aside0.mk @far2
  clear far2
  go_loopw [] (fun wr => ∃ (acc : List S47) (l' : List S74) (n cn : Nat) (An : Option Addr), Aside0 (PInv wr b tb cs l' 0) ∧ Aside0 (w.grownBy wr (some b)) ∧ Aside0 (wr.heap[w.heap.size]? = some (.cells #[.string ⟨#[]⟩, .string ⟨#[]⟩, .int .u64 0, .slice none 0 0] 25 (0, 0))) ∧ Aside0 (wr.heap[w.heap.size + 1]? = some (.cells #[.string nm, .string dn, .int .u64 dt, .slice An acc.length cn] 25 (0, 0))) ∧ Aside0 (k47.R 47 wr (w.heap.size + 2) (fun _ => True) (.slice An acc.length cn) acc) ∧ Aside0 (l'.length ≤ n ∧ l'.length ≤ l.length ∧ acc.length + l'.length ≤ l.length) ∧ Aside0 (R = bnd (rulesP n acc l') (fun rs => .ok (⟨nm, dn, dt, rs.1⟩, rs.2)))) (fun wr => lenP b wr)
  case atStart => exact ⟨[], l7, l7.length, 0, none, HP7, HG7, HZ7, HC7, HNz, ⟨Nat.le_refl _, HL7.out, by have := HL7.out; simp only [List.length_nil]; omega⟩, HR7⟩
  case round =>
    obtain ⟨acc, l', n, cn, An, hP, hG, hZ, hC, hN, hL, hR⟩ := hrel
    cases hA : isP 0 emptyT l' with
    | true =>
      have HA := Aside0.mk hA
      have HRq := Aside0.mk (hR.out.trans (show _ = .ok (⟨nm, dn, dt, acc⟩, l') by cases n with | zero => rfl | succ n => rw [rulesP, if_pos hA]; rfl))
      clear hA hR
      go_wp2_with fail
      go_at_call 58
      refine (is_any 0 emptyT _ hP.out).mono ?_
      rw [HA.out]
      rintro e w8 ⟨rfl, hb8⟩
      have HP8 := Aside0.mk (hP.out.grown hb8)
      have HG8 := Aside0.mk (grown_trans hG.out (grown_of_below hb8 (some b)))
      have hZ8 := blk_below hZ.out hb8
      have hC8 := blk_below hC.out hb8
      have HN8 := Aside0.mk (Kd.R_lower (Kd.R_below hN.out hb8) (base' := w.heap.size + 1) (by omega))
      have zc0 : w8.cell? ⟨w.heap.size, 0, none⟩ = some (.string ⟨#[]⟩) := (blk_cell hZ8 0).trans rfl
      have zf0 := blk_frozen hZ8 0
      have zc1 : w8.cell? ⟨w.heap.size, 1, none⟩ = some (.string ⟨#[]⟩) := (blk_cell hZ8 1).trans rfl
      have zf1 := blk_frozen hZ8 1
      have zc2 : w8.cell? ⟨w.heap.size, 2, none⟩ = some (.int .u64 0) := (blk_cell hZ8 2).trans rfl
      have zf2 := blk_frozen hZ8 2
      have zc3 : w8.cell? ⟨w.heap.size, 3, none⟩ = some (.slice none 0 0) := (blk_cell hZ8 3).trans rfl
      have zf3 := blk_frozen hZ8 3
      have rc0 : w8.cell? ⟨w.heap.size + 1, 0, none⟩ = some (.string nm) := (blk_cell hC8 0).trans rfl
      have rf0 := blk_frozen hC8 0
      have rc1 : w8.cell? ⟨w.heap.size + 1, 1, none⟩ = some (.string dn) := (blk_cell hC8 1).trans rfl
      have rf1 := blk_frozen hC8 1
      have rc2 : w8.cell? ⟨w.heap.size + 1, 2, none⟩ = some (.int .u64 dt) := (blk_cell hC8 2).trans rfl
      have rf2 := blk_frozen hC8 2
      have rc3 : w8.cell? ⟨w.heap.size + 1, 3, none⟩ = some (.slice An acc.length cn) := (blk_cell hC8 3).trans rfl
      have rf3 := blk_frozen hC8 3
      clear hb8 hZ8 hC8
      go_wp2_with fail
      refine bodyPost_ret (v := .agg #[.string nm, .string dn, .int .u64 dt, .slice An acc.length cn]) (by simp [results, Tryz.results30, go_sem, zc0, zc1, zc2, zc3]) rfl ?_
      exact policy_store hbw htw HP8.out HG8.out ⟨nm, dn, dt, acc⟩ _ HRq.out HN8.out
    | false =>
      have HA := Aside0.mk hA
      have hpos := List.length_pos_iff.2 hP.out.pos
      obtain ⟨n', rfl⟩ : ∃ n', n = n' + 1 := ⟨n - 1, by have := hL.out; omega⟩
      have HRd2 := Aside0.mk (hR.out.trans (show _ = bnd (bnd (ruleP l') fun r => bnd (endP r.2) fun e => rulesP n' (acc ++ [r.1]) e.2) (fun rs => .ok (⟨nm, dn, dt, rs.1⟩, rs.2)) by rw [rulesP, if_neg (by rw [hA]; decide)]))
      clear hA hR hpos
      go_wp2_with fail
      go_at_call 58
      refine (is_any 0 emptyT _ hP.out).mono ?_
      rw [HA.out]
      rintro e w8 ⟨rfl, hb8⟩
      go_wp2_with fail
      have hbd : Below wr.heap.size wr w8.drew := hb8.drew
      have HPd2 := Aside0.mk (hP.out.grown hbd)
      have HGd2 := Aside0.mk (grown_trans hG.out (grown_of_below hbd (some b)))
      have HZd2 := Aside0.mk (blk_below hZ.out hbd)
      have hCd2 := blk_below hC.out hbd
      have HCd2 := Aside0.mk hCd2
      have HNd2 := Aside0.mk (Kd.R_below hN.out hbd)
      have HOWN := Aside0.mk (show ∀ k, (Value.slice An acc.length cn).ownBlock = some k → k < w8.drew.heap.size from fun k hk => own_lt (Kd.R_own HNd2.out).choose_spec k hk)
      have hcd2 : w8.drew.cell? ⟨w.heap.size + 1, 3, none⟩ = some (.slice An acc.length cn) := (blk_cell hCd2 3).trans rfl
      have HSd := Aside0.mk (show w.heap.size + 2 ≤ w8.drew.heap.size from blk_lt hCd2)
      clear hb8 hbd hCd2
      refine start_ (n := 8) (S := fun w' => w'.cell? ⟨w.heap.size + 1, 3, none⟩ = some (.slice An acc.length cn)) (ds := [7]) #[false, false, false, false, false, false, false, false] (by kernel_rfl) rfl rfl (hcd2) (fun hHeld => ?_)
      refine pure_ (i := 0) (N := some 29) (v := ?_) (a' := ?_) #[true, false, false, false, false, false, false, false] rfl rfl (by kernel_rfl) (fun _ _ _ h => h) (Or.inl ⟨by rfl, ?_⟩) ?_ ?_
      rotate_left
      · intro w'
        go_simp
        with_reducible rfl
      rotate_left
      · simp only [Act.put, List.setIfInBounds_toArray, List.set_cons_zero, List.set_cons_succ, i64_w, i32_w]
        rfl
      refine pure_ (i := 2) (N := some 31) (v := ?_) (a' := ?_) #[true, false, true, false, false, false, false, false] rfl rfl (by kernel_rfl) (fun _ _ _ h => h) (Or.inl ⟨by rfl, ?_⟩) ?_ ?_
      rotate_left
      · intro w'
        go_simp
        with_reducible rfl
      rotate_left
      · simp only [Act.put, List.setIfInBounds_toArray, List.set_cons_zero, List.set_cons_succ, i64_w, i32_w]
        rfl
      refine take_ (i := 1) (N := some 30) (v := ?_) (a' := ?_) #[true, true, true, false, false, false, false, false] rfl rfl (by kernel_rfl) (fun _ _ _ h => h) (Or.inl ⟨by rfl, ?_⟩) hHeld ?_ ?_
      rotate_left
      · intro w' s0
        go_simp
        with_reducible rfl
      rotate_left
      · simp only [Act.put, List.setIfInBounds_toArray, List.set_cons_zero, List.set_cons_succ, i64_w, i32_w]
        rfl
      refine one_ (i := 3) (N := some 32) #[true, true, true, true, false, false, false, false] rfl rfl (by kernel_rfl) (by decide) (fun K hK => ?_)
      refine goesP_ Tryz.func59 (by kernel_rfl) rfl #[.pointer (some ⟨b, 0, none⟩)] (by rfl) rfl rfl (by simp only [List.map_toArray, List.map_cons, List.map_nil]; rfl) ?_
      refine (rulep_any _ (by have := hL.out; omega) HPd2.out).mono ?_
      intro e w4 hp4
      rcases hr4 : ruleP l' with ⟨bad, at_⟩ | ⟨r4, l4⟩
      · obtain ⟨hg, rfl⟩ := hp4.err hr4; exact Or.inr ⟨_, rfl, rfl, PPost.mk_err (HRd2.out.trans (by simp only [hr4, bnd_ok]; rfl)) (grown_trans HGd2.out hg)⟩
      obtain ⟨hg4, ⟨v, rfl, ⟨nv4, kv4, rfl, hn4, hk4⟩⟩, hP4⟩ := hp4.ok hr4
      have HP4 := Aside0.mk hP4
      have HG4 := Aside0.mk (grown_trans HGd2.out hg4)
      have HZ4 := Aside0.mk (blk_grown HZd2.out hg4 (by intro e; have := Option.some.inj e; omega))
      have HC4 := Aside0.mk (blk_grown HCd2.out hg4 (by intro e; have := Option.some.inj e; omega))
      have HN4 := Aside0.mk (R_keep HNd2.out hg4 (by omega))
      have HNV4 := Aside0.mk (Kd.R_lower (Kd.R_mono (Kd.R_bound hn4) (fun k hk => (hk.2.1 : w8.drew.heap.size ≤ k))) (base' := w.heap.size + 2) HSd.out)
      have HKV4 := Aside0.mk (Kd.R_lower (Kd.R_mono (Kd.R_bound hk4) (fun k hk => (hk.2.1 : w8.drew.heap.size ≤ k))) (base' := w.heap.size + 2) HSd.out)
      clear hp4 hg4 hP4 hn4 hk4
      refine Or.inl ⟨_, rfl, ?_⟩
      refine hK.out _ _ (((blk_cell HC4.out 3).trans rfl)) (fun hHeld => ?_)
      clear hK K
      refine norm_ (a' := ?_) ?_ ?_
      rotate_left
      · show Act.put _ (some 32) _ = _
        simp only [Act.put, List.setIfInBounds_toArray, List.set_cons_zero, List.set_cons_succ, i64_w, i32_w]
        rfl
      refine one_ (i := 4) (N := some 33) #[true, true, true, true, true, false, false, false] rfl rfl (by kernel_rfl) (by decide) (fun K hK => ?_)
      refine value_ (w1 := ?_) (v := ?_) (by rfl) rfl ?_ ?_
      rotate_left 2
      · go_simp
        constructor
        · rfl
        · rfl
      refine hK.out _ _ (((blk_cell (blk_alloc HC4.out _) 3).trans rfl)) (fun hHeld => ?_)
      clear hK K
      refine norm_ (a' := ?_) ?_ ?_
      rotate_left
      · show Act.put _ (some 33) _ = _
        simp only [Act.put, List.setIfInBounds_toArray, List.set_cons_zero, List.set_cons_succ, i64_w, i32_w]
        rfl
      refine one_ (i := 5) (N := some 34) #[true, true, true, true, true, true, false, false] rfl rfl (by kernel_rfl) (by decide) (fun K hK => ?_)
      refine Kd.R_append_step k47 (w0 := w4) (w.heap.size + 2) (by rfl) (.tmp 30) (.tmp 33) 23 47 (.agg #[.string ⟨#[]⟩, .int .u64 0, .slice none 0 0, .int .i64 0, .slice none 0 0, .int .i64 0, .int .u64 0, .string ⟨#[]⟩, .int .u64 0]) 120 rfl Tryz.underlying23 infoR rfl (by decide) (by decide) (.slice An acc.length cn) acc r4 [.string r4.f0, .int .u64 r4.f1, nv4, .int .i64 r4.f3.f0, kv4, .int .i64 r4.f3.f2, .int .u64 r4.f3.f3, .string r4.f3.f4, .int .u64 r4.f3.f5] (fun _ => True) (fun k => w8.drew.heap.size ≤ k) rfl rfl ?aP ?aK (fun _ _ => trivial) HN4.out (Below.refl _ _) ?aS ?aL ?_
      case aP => exact k47_mkM _ _ _ r4 HNV4.out HKV4.out
      case aK => exact fun k hk => ⟨trivial, fun e => by have := HOWN.out k e.symm; omega⟩
      case aS => have := blk_lt HC4.out; omega
      case aL => have := hL.out; omega
      intro v5 w5 hR5 hb5 hg5 _
      obtain ⟨A5, c5_, e5_⟩ := Kd.R_slice hR5
      subst e5_
      have HR5 := Aside0.mk hR5
      have HB5 := Aside0.mk hb5
      have HP5 := Aside0.mk (HP4.out.grownB hb5 (by omega) (by omega))
      have HG5 := Aside0.mk (grown_b HG4.out hb5 (by omega))
      have HZ5 := Aside0.mk ((hb5.block _ (by omega)).trans HZ4.out)
      have hC5 := (hb5.block (w.heap.size + 1) (by omega)).trans HC4.out
      have HC5 := Aside0.mk hC5
      have hc52 := (blk_cell hC5 3).trans rfl
      have hf52 := blk_frozen hC5 3
      clear hR5 hb5 hg5 hC5
      refine hK.out _ _ (((blk_cell HC5.out 3).trans rfl)) (fun hHeld => ?_)
      clear hK K
      refine norm_ (a' := ?_) ?_ ?_
      rotate_left
      · show Act.put _ (some 34) _ = _
        simp only [Act.put, List.setIfInBounds_toArray, List.set_cons_zero, List.set_cons_succ, i64_w, i32_w]
        rfl
      refine pure_ (i := 6) (N := some 35) (v := ?_) (a' := ?_) #[true, true, true, true, true, true, true, false] rfl rfl (by kernel_rfl) (fun _ _ _ h => h) (Or.inl ⟨by rfl, ?_⟩) ?_ ?_
      rotate_left
      · intro w'
        go_simp
        with_reducible rfl
      rotate_left
      · simp only [Act.put, List.setIfInBounds_toArray, List.set_cons_zero, List.set_cons_succ, i64_w, i32_w]
        rfl
      refine last_ (i := 7) (N := none) #[true, true, true, true, true, true, true, true] rfl rfl (by kernel_rfl) (by decide) (fun K hK => ?_)
      refine skip_ (w1 := ?_) (by rfl) rfl ?_ ?_
      rotate_left
      · go_simp
        rfl
      refine hK.out _ _ ?_
      clear hK K
      refine done_ (by kernel_rfl) ?_
      have HL4 := Aside0.mk (rule_lt hP.out.pos hr4)
      have HPn := Aside0.mk (HP5.out.far n1_ n2_ 3 (.slice A5 (acc.length + 1) c5_))
      have HGn := Aside0.mk (grown_new HG5.out (c := w.heap.size + 1) (by omega) 3 (.slice A5 (acc.length + 1) c5_))
      have HZn := Aside0.mk ((Below.heap_setCell w5 ⟨w.heap.size + 1, 3, none⟩ (.slice A5 (acc.length + 1) c5_) w.heap.size (by show w.heap.size ≠ w.heap.size + 1; omega)).trans HZ5.out)
      have HCn := Aside0.mk (blk_in (j := 3) HC5.out (.slice A5 (acc.length + 1) c5_))
      have HNn := Aside0.mk (HFAR.out 3 (.slice A5 (acc.length + 1) c5_) HR5.out)
      have HRn := Aside0.mk (HRd2.out.trans (show _ = bnd (bnd (endP l4) fun e => rulesP n' (acc ++ [r4]) e.2) (fun rs => .ok (⟨nm, dn, dt, rs.1⟩, rs.2)) by simp only [hr4, bnd_ok]))
      have hal : (acc ++ [r4]).length = acc.length + 1 := by simp
      clear hHeld hc52 hf52 hcd2
      go_wp2_with fail
      go_at_call 56
      refine (end_any _ HPn.out).mono ?_
      intro e w9 hp9
      cases hr9 : endP l4 with
      | error x =>
        obtain ⟨bad, at_⟩ := x
        obtain ⟨hg, rfl⟩ := hp9.err hr9
        go_wp2_with fail
        exact ⟨rfl, PPost.mk_err (HRn.out.trans (by rw [hr9]; rfl)) (grown_trans HGn.out hg)⟩
      | ok x =>
      obtain ⟨u9, l9⟩ := x
      obtain ⟨hg9, ⟨v, rfl, hv⟩, hP9⟩ := hp9.ok hr9
      unfold unitV at hv
      subst hv
      have HP9 := Aside0.mk hP9
      have HG9 := Aside0.mk (grown_trans HGn.out hg9)
      have HZ9 := Aside0.mk (blk_grown HZn.out hg9 (by intro e; have := Option.some.inj e; omega))
      have HC9 := Aside0.mk (blk_grown HCn.out hg9 (by intro e; have := Option.some.inj e; omega))
      have HN9 := Aside0.mk (R_keep HNn.out hg9 (by omega))
      have HR9 := Aside0.mk (HRn.out.trans (show _ = bnd (rulesP n' (acc ++ [r4]) l9) (fun rs => .ok (⟨nm, dn, dt, rs.1⟩, rs.2)) by simp only [hr9, bnd_ok]))
      have HL9 := Aside0.mk (end_shr _ _ _ hr9)
      clear hp9 hg9 hP9
      go_wp2_with fail
      go_roundw
      case rel =>
        refine ⟨acc ++ [r4], l9, n', c5_, A5, HP9, HG9, HZ9, ⟨by rw [hal]; exact HC9.out⟩, ⟨by have h_ := HN9.out; rw [hal] at h_ ⊢; exact h_⟩, ⟨by have := HL4.out; have := HL9.out; have := hL.out; omega, by have := HL4.out; have := HL9.out; have := hL.out; omega, by rw [hal]; have := HL4.out; have := HL9.out; have := hL.out; omega⟩, HR9⟩
      case measure =>
        rw [HP9.out.len, hP.out.len]
        have := HL4.out
        have := HL9.out
        omega

end Go.Proofs.YtdfjjimmnbijmaaGreatDoor.ZQ

import Derived.Test.YtdfjjimmnbijmaaGreatDoorZQb
namespace Go.Proofs.YtdfjjimmnbijmaaGreatDoor.ZQ
open Go.RowKit Go.Proofs.YtdfjjimmnbijmaaGreatDoorW.PrintWords Go.Proofs.YtdfjjimmnbijmaaGreatDoorW.PrintLast Go.Proofs.YtdfjjimmnbijmaaGreatDoorW.PrintMore Go.Proofs.YtdfjjimmnbijmaaGreatDoor.Base
attribute [local go_sem] max2_int min2_int max_two min_two max_three min_three max_four min_four
set_option linter.unusedVariables false
set_option linter.unusedSimpArgs false
def condCells (c : S28) (kv : Value) : List Value := [.int .i64 c.f0, kv, .int .i64 c.f2, .int .u64 c.f3, .string c.f4, .int .u64 c.f5]
theorem one_R {W : World} {B : Nat} (hB : B ≤ W.heap.size) {c : S28} {kv : Value} (h : k28.R 28 W B (fun _ => True) kv c.f1) :
    k28.R 28 (W.alloc (.cells #[.int .i64 c.f0, kv, .int .i64 c.f2, .int .u64 c.f3, .string c.f4, .int .u64 c.f5] 28)) B (fun _ => True) (.slice (some ⟨W.heap.size, 0, none⟩) 1 1) [c] := by
  have hm := k28_mkM W B (fun _ => True) c h
  have hm2 := Kd.M_below (k28.M_bound hm) ((Below.refl _ _).alloc (Nat.le_refl _) (.cells #[.int .i64 c.f0, kv, .int .i64 c.f2, .int .u64 c.f3, .string c.f4, .int .u64 c.f5] 28))
  refine ⟨fun _ _ => trivial, condCells c kv, ?_, ?_⟩
  · exact World.ownsRow_lit (base := B) (e := 28) (size := 6) W #[.int .i64 c.f0, kv, .int .i64 c.f2, .int .u64 c.f3, .string c.f4, .int .u64 c.f5] 1 hB (by decide) rfl
  · refine ⟨rfl, fun j p hj => ?_⟩
    cases j with
    | zero =>
      simp only [List.getElem?_cons_zero, Option.some.injEq] at hj
      subst hj
      exact k28.M_mono (fun k hk => ⟨trivial, fun e => by have e2 : k = W.heap.size := Option.some.inj e; have := hk.2.2.1; omega⟩) hm2
    | succ j => simp at hj
theorem R_first {W : World} {B : Nat} {c : S28} {r : List S28} {v : Value} (h : k28.R 28 W B (fun _ => True) v (c :: r)) : ∃ g n cap kv, v = .slice (some ⟨g, 0, none⟩) n cap ∧ n = (c :: r).length ∧ B ≤ g ∧ g < W.heap.size ∧ k28.R 28 W B (fun _ => True) kv c.f1 ∧
    (∀ j u, (condCells c kv)[j]? = some u → W.cell? ⟨g, j, none⟩ = some u) := by
  obtain ⟨_, inner, ho, hr⟩ := h
  obtain ⟨hl, ho⟩ := ho
  rcases ho with ⟨_, h0⟩ | ⟨g, cap, cur, rfl, hg, hh, h1, h2, h3, h4⟩
  · simp at h0
  · have hm := hr.2 0 c rfl
    rw [Nat.zero_mul, List.drop_zero] at hm
    obtain ⟨kv, e, hR⟩ := k28_openM hm
    refine ⟨g, _, cap, kv, rfl, rfl, hg, blk_lt hh, Kd.R_mono hR (fun _ _ => trivial), ?_⟩
    intro j u hj
    rw [blk_cell hh j]
    have hj6 : j < 6 := by
      have := (List.getElem?_eq_some_iff.1 hj).1
      simpa [condCells] using this
    have e2 : (inner.take 6)[j]? = some u := by rw [show inner.take 6 = condCells c kv from e]; exact hj
    rw [List.getElem?_take, if_pos hj6, ← h4, List.getElem?_take] at e2
    split at e2
    · simpa using e2
    · cases e2
theorem PInv.grownB {w w' : World} {b tb B : Nat} {cs : Array Value} {l : List S74} {deep : Nat} (h : PInv w b tb cs l deep) (hg : Below B w w') (hb : b < B) (ht : tb < B) : PInv w' b tb cs l deep := by
  obtain ⟨h1, h2, hf, hs, ⟨w0, b1, b2, b3⟩, h3, off, cap, h4, h5⟩ := h
  exact ⟨h1, h2, hf, hs, ⟨w0, b1, b2, b3.trans (hg.mono (by omega))⟩, (hg.block _ ht).trans h3, off, cap, (hg.block _ hb).trans h4, h5⟩
theorem grown_b {w w1 w2 : World} {B : Nat} {row : Option Nat} (h : w.grownBy w1 row) (k : Below B w1 w2) (hB : w.heap.size ≤ B) : w.grownBy w2 row :=
  ⟨k.os.trans h.os, k.tape.trans h.tape, k.output.trans h.output, Nat.le_trans h.size k.size, fun i hi hr => (k.block i (by omega)).trans (h.block i hi hr)⟩
theorem R_keep {α : Type} {d : Kd α} {e : Nat} {W W' : World} {B b : Nat} {ok : Nat → Prop} {v : Value} {xs : List α} (h : d.R e W B ok v xs) (hg : W.grownBy W' (some b)) (hb : b < B) : d.R e W' B ok v xs :=
  Kd.R_mono (Kd.R_step (Kd.R_bound h) (fun k hk hlt => hg.block k hlt (fun e => by have e2 : k = b := Option.some.inj e; have := hk.2.1; omega))) (fun _ hk => hk.1)
def moreP (part : List S74 → Except (Int × Int) (S28 × List S74)) (wd : ByteArray) : Nat → List S28 → List S74 → Except (Int × Int) (List S28 × List S74)
  | 0, acc, l => .ok (acc, l)
  | n + 1, acc, l => if isP 1 wd l = true then bnd (part l.tail) fun c => moreP part wd n (acc ++ [c.1]) c.2 else .ok (acc, l)
def listR (kind : Int) (m : List S28 × List S74) : Except (Int × Int) (S28 × List S74) := .ok ((if m.1.length = 1 then m.1.headD z28 else ⟨kind, m.1, 0, 0, ⟨#[]⟩, 0⟩), m.2)
def listP (part : List S74 → Except (Int × Int) (S28 × List S74)) (wd : ByteArray) (kind : Int) (l : List S74) : Except (Int × Int) (S28 × List S74) :=
  bnd (part l) fun c => bnd (moreP part wd l.length [c.1] c.2) (listR kind)
theorem infoC : (Tryz.prog.info? 28).map (fun i => (i.zero, i.size, i.bytes)) = some (some (.agg #[.int .i64 0, .slice none 0 0, .int .i64 0, .int .u64 0, .string ⟨#[]⟩, .int .u64 0]), 6, 72) := by kernel_rfl
theorem isP_ne {wd : ByteArray} {l : List S74} (h : isP 1 wd l = true) : (hd l).f0 = 1 := by
  unfold isP at h
  rw [Bool.and_eq_true, beq_iff_eq] at h
  exact h.1
theorem take_any0 {k : Int} {l : List S74} (h : (hd l).f0 = k) : takeP k [] l = .ok ((hd l).f1, l.tail) := by
  unfold takeP anyT; rw [h]; simp
set_option maxHeartbeats 6400000 in
set_option maxRecDepth 100000 in
theorem list_any {b tb : Nat} {cs : Array Value} {deep : Nat} (F : Nat) (part : List S74 → Except (Int × Int) (S28 × List S74)) (wd : ByteArray) (kind : Int) (L : Nat)
    (he : ∀ (args : Array Value) (W : World), (callFunc F args).run Tryz.prog W = .ok (.enter F args) W)
    (hp : ∀ (l : List S74) (w : World), l.length ≤ L → PInv w b tb cs l deep → Calls Tryz.prog F #[.pointer (some ⟨b, 0, none⟩)] w (PPost w b tb cs deep (condV w.heap.size) (part l)))
    (hlen : ∀ l c l', part l = .ok (c, l') → l'.length ≤ l.length)
    (l : List S74) (w : World) (hL : l.length ≤ L) (hM : L ≤ 1000000) (h : PInv w b tb cs l deep) :
    Calls Tryz.prog 102 #[.pointer (some ⟨b, 0, none⟩), .string wd, .int .i64 kind, .func (.func F) #[] #[]] w (PPost w b tb cs deep (condV w.heap.size) (listP part wd kind l)) := by
  have HI := Aside0.mk h
  have HL := Aside0.mk hL
  have HM := Aside0.mk hM
  obtain ⟨R, hR⟩ : ∃ R, R = listP part wd kind l := ⟨_, rfl⟩
  rw [← hR]
  have HR := Aside0.mk hR
  have hbw : b < w.heap.size := h.tlt.2
  have htw : tb < w.heap.size := h.tlt.1
  have HP := Aside0.mk hp
  have HLEN := Aside0.mk hlen
  clear h hR hL hp hlen hM
  go_enter Tryz.func102, Tryz.ntmps102
  go_wp2_with fail
  refine (HP.out l _ HL.out (HI.out.al _)).mono ?_
  intro e w1 hp1
  have hb0 : Below w.heap.size w (w.alloc (.cells #[.int .i64 0, .slice none 0 0, .int .i64 0, .int .u64 0, .string ⟨#[]⟩, .int .u64 0] 28)) := (Below.refl _ _).alloc (Nat.le_refl _) _
  cases hr1 : part l with
  | error x =>
    obtain ⟨bad, at_⟩ := x
    obtain ⟨hg, rfl⟩ := hp1.err hr1
    go_wp2_with fail
    exact ⟨rfl, PPost.mk_err (HR.out.trans (by unfold listP; rw [hr1]; rfl)) (grown_below hb0 hg)⟩
  | ok x =>
    obtain ⟨c, l1⟩ := x
    obtain ⟨hg1, ⟨v, rfl, ⟨kv, rfl, hK⟩⟩, hP1⟩ := hp1.ok hr1
    have HRB1 := Aside0.mk (blk_grown (heap_alloc_new w (.cells #[.int .i64 0, .slice none 0 0, .int .i64 0, .int .u64 0, .string ⟨#[]⟩, .int .u64 0] 28)) hg1 (by intro e; have := Option.some.inj e; omega))
    have HG1 := Aside0.mk (grown_below hb0 hg1)
    have HP1 := Aside0.mk hP1
    have HK1 := Aside0.mk (one_R (B := w.heap.size + 1) (by have := blk_lt HRB1.out; omega) (Kd.R_lower hK (base' := w.heap.size + 1) (by simp)))
    have HR1 := Aside0.mk (HR.out.trans (show listP part wd kind l = bnd (moreP part wd l.length [c] l1) (listR kind) by unfold listP; rw [hr1]; rfl))
    have HL1 := Aside0.mk (HLEN.out l c l1 hr1)
    clear hp1 hg1 hP1 hK hb0
    go_wp2_with fail
    go_loopw [9] (fun v9 wr => ∃ (acc : List S28) (l' : List S74) (n : Nat), Aside0 (acc ≠ []) ∧ Aside0 (k28.R 28 wr (w.heap.size + 1) (fun _ => True) v9 acc) ∧ Aside0 (PInv wr b tb cs l' deep) ∧ Aside0 (w.grownBy wr (some b)) ∧ Aside0 (wr.heap[w.heap.size]? = some (.cells #[.int .i64 0, .slice none 0 0, .int .i64 0, .int .u64 0, .string ⟨#[]⟩, .int .u64 0] 28 (0, 0))) ∧ Aside0 (l'.length ≤ n ∧ l'.length ≤ l.length ∧ acc.length + l'.length ≤ l.length + 1) ∧ Aside0 (R = bnd (moreP part wd n acc l') (listR kind)) ∧ Aside0 (w.heap.size < wr.heap.size)) (fun _ wr => lenP b wr)
    case atStart =>
      have hb1 : Below w1.heap.size w1 (w1.alloc (.cells #[.int .i64 c.f0, kv, .int .i64 c.f2, .int .u64 c.f3, .string c.f4, .int .u64 c.f5] 28)) := (Below.refl _ _).alloc (Nat.le_refl _) _
      refine ⟨[c], l1, l.length, ⟨by simp⟩, HK1, ⟨HP1.out.al _⟩, ⟨grown_trans HG1.out (grown_of_below hb1 _)⟩, ⟨blk_alloc HRB1.out _⟩, ⟨HL1.out, HL1.out, by have := HL1.out; simp; omega⟩, HR1, ⟨by have := blk_lt HRB1.out; simp; omega⟩⟩
    case round =>
      obtain ⟨acc, l', n, hne, hK, hP, hG, hZ, hN, hR, hS⟩ := hrel
      cases hi : isP 1 wd l' with
      | true =>
        have HE := Aside0.mk hi
        have hpos := List.length_pos_iff.2 hP.out.pos
        obtain ⟨n', rfl⟩ : ∃ n', n = n' + 1 := ⟨n - 1, by have := hN.out; omega⟩
        have HR2 := Aside0.mk (hR.out.trans (show _ = bnd (bnd (part l'.tail) fun c => moreP part wd n' (acc ++ [c.1]) c.2) (listR kind) by rw [moreP, if_pos hi]))
        clear hR hpos
        go_wp2_with fail
        go_at_call 58
        refine (is_any 1 wd _ hP.out).mono ?_
        rw [HE.out]
        rintro e w2 ⟨rfl, hb2⟩
        go_wp2_with fail
        go_at_call 54
        refine (take_post 1 (by decide) _ [] _ (hP.out.grown hb2) (Or.inl ⟨rfl, rfl⟩)).mono ?_
        intro e w3 hp3
        obtain ⟨hg3, ⟨v, rfl, hv⟩, hP3⟩ := hp3.ok (take_any0 (isP_ne HE.out))
        unfold strV at hv
        subst hv
        have HP3 := Aside0.mk hP3
        have HG3 := Aside0.mk (grown_below hb2 hg3)
        have hlt : l'.tail.length + 1 ≤ l'.length := by have := List.length_pos_iff.2 hP.out.pos; simp; omega
        have HLT := Aside0.mk hlt
        clear hp3 hP3 hg3 hb2 hlt hi
        go_wp2_with fail
        refine (HP.out l'.tail _ (by have := HLT.out; have := hN.out; have := HL.out; omega) HP3.out).mono ?_
        intro e w4 hp4
        cases hr4 : part l'.tail with
        | error x =>
          obtain ⟨bad, at_⟩ := x
          obtain ⟨hg, rfl⟩ := hp4.err hr4
          go_wp2_with fail
          exact ⟨rfl, PPost.mk_err (HR2.out.trans (by simp only [hr4]; rfl)) (grown_trans hG.out (grown_trans HG3.out hg))⟩
        | ok x =>
          obtain ⟨c2, l2⟩ := x
          obtain ⟨hg4, ⟨v, rfl, ⟨kv2, rfl, hK4⟩⟩, hP4⟩ := hp4.ok hr4
          have HG4 := Aside0.mk (grown_trans HG3.out hg4)
          have HP4 := Aside0.mk hP4
          have HKL := Aside0.mk (R_keep hK.out HG4.out (by omega))
          have HKC := Aside0.mk (Kd.R_lower (Kd.R_mono (Kd.R_bound hK4) (fun k hk => (hk.2.1 : w3.heap.size ≤ k))) (base' := w.heap.size + 1) (by have := hS.out; have := HG3.out.size; omega))
          have HOWN := Aside0.mk (show ∀ k, u9.ownBlock = some k → k < wr.heap.size from fun k hk => own_lt (Kd.R_own hK.out).choose_spec k hk)
          have HR3 := Aside0.mk (HR2.out.trans (show _ = bnd (moreP part wd n' (acc ++ [c2]) l2) (listR kind) by simp only [hr4, bnd_ok]))
          have HL2 := Aside0.mk (HLEN.out _ _ _ hr4)
          clear hp4 hg4 hP4 hK4
          go_wp2_with ((with_reducible refine gate_builtin (b := .append) (xs := #[.tmp 19, .tmp 23]) rfl ?_); at_builtin; refine Kd.R_append k28 (w0 := w4) (w.heap.size + 1) rfl (.tmp 19) (.tmp 23) 26 28 (.agg #[.int .i64 0, .slice none 0 0, .int .i64 0, .int .u64 0, .string ⟨#[]⟩, .int .u64 0]) 72 rfl Tryz.underlying26 infoC rfl (by decide) (by omega) u9 acc c2 [.int .i64 c2.f0, kv2, .int .i64 c2.f2, .int .u64 c2.f3, .string c2.f4, .int .u64 c2.f5] (fun _ => True) (fun k => w3.heap.size ≤ k) rfl rfl ?aP ?aK (fun _ _ => trivial) HKL.out (Below.refl _ _) ?aS ?aL ?_)
          case aP => exact k28_mkM _ _ _ c2 HKC.out
          case aK => exact fun k hk => ⟨trivial, fun e => by have := HOWN.out k e.symm; have := HG3.out.size; omega⟩
          case aS => have := hS.out; have := HG4.out.size; omega
          case aL => have := hN.out; have := HL.out; have := HM.out; omega
          intro v1 w5 hR5 hb5 hg5 _
          have HR5 := Aside0.mk hR5
          have HB5 := Aside0.mk hb5
          clear hR5 hb5 hg5
          go_wp2_with fail
          go_roundw
          case rel =>
            have e1 := HL2.out
            have e2 := HLT.out
            have e3 := hN.out
            refine ⟨acc ++ [c2], l2, n', ⟨by simp⟩, HR5, ⟨HP4.out.grownB HB5.out (by omega) (by omega)⟩, ⟨grown_b (grown_trans hG.out HG4.out) HB5.out (by omega)⟩, ⟨(HB5.out.block _ (by omega)).trans (blk_grown hZ.out HG4.out (by intro e; have := Option.some.inj e; omega))⟩, ⟨by omega, by omega, by rw [List.length_append]; simp only [List.length_singleton]; omega⟩, HR3, ⟨by have := HB5.out.size; have := HG4.out.size; have := hS.out; omega⟩⟩
          case measure =>
            rw [(HP4.out.grownB HB5.out (by omega) (by omega)).len, hP.out.len]
            have e1 := HL2.out
            have e2 := HLT.out
            omega
      | false =>
        have HE := Aside0.mk hi
        have HR2 := Aside0.mk (hR.out.trans (show _ = listR kind (acc, l') by cases n with | zero => rfl | succ n => rw [moreP, if_neg (by rw [hi]; decide)]; rfl))
        clear hR hi
        obtain ⟨c0, r0, rfl⟩ : ∃ c0 r0, acc = c0 :: r0 := by cases acc with | nil => exact absurd rfl hne.out | cons x y => exact ⟨x, y, rfl⟩
        obtain ⟨g, nn, cap, kv0, rfl, rfl, hg1, hg2, hK0, hcell⟩ := R_first hK.out
        obtain ⟨A0, cc0, e0⟩ := Kd.R_slice hK0
        subst e0
        go_wp2_with fail
        go_at_call 58
        refine (is_any 1 wd _ hP.out).mono ?_
        rw [HE.out]
        rintro e w2 ⟨rfl, hb2⟩
        have HP2 := Aside0.mk (hP.out.grown hb2)
        have HK2 := Aside0.mk (Kd.R_below hK.out hb2)
        have HK02 := Aside0.mk (Kd.R_below hK0 hb2)
        have hZ2 := blk_below hZ.out hb2
        have HG2 := Aside0.mk (grown_trans hG.out (grown_of_below hb2 (some b)))
        have r0_ : w2.cell? ⟨w.heap.size, 0, none⟩ = some (.int .i64 0) := (blk_cell hZ2 0).trans rfl
        have r1_ : w2.cell? ⟨w.heap.size, 1, none⟩ = some (.slice none 0 0) := (blk_cell hZ2 1).trans rfl
        have r2_ : w2.cell? ⟨w.heap.size, 2, none⟩ = some (.int .i64 0) := (blk_cell hZ2 2).trans rfl
        have r3_ : w2.cell? ⟨w.heap.size, 3, none⟩ = some (.int .u64 0) := (blk_cell hZ2 3).trans rfl
        have r4_ : w2.cell? ⟨w.heap.size, 4, none⟩ = some (.string ⟨#[]⟩) := (blk_cell hZ2 4).trans rfl
        have r5_ : w2.cell? ⟨w.heap.size, 5, none⟩ = some (.int .u64 0) := (blk_cell hZ2 5).trans rfl
        have z0 := blk_frozen hZ2 0
        have z1 := blk_frozen hZ2 1
        have z2 := blk_frozen hZ2 2
        have z3 := blk_frozen hZ2 3
        have z4 := blk_frozen hZ2 4
        have z5 := blk_frozen hZ2 5
        have k0 := pw_cell_below hb2 (hcell 0 _ rfl)
        have k1 := pw_cell_below hb2 (hcell 1 _ rfl)
        have k2 := pw_cell_below hb2 (hcell 2 _ rfl)
        have k3 := pw_cell_below hb2 (hcell 3 _ rfl)
        have k4 := pw_cell_below hb2 (hcell 4 _ rfl)
        have k5 := pw_cell_below hb2 (hcell 5 _ rfl)
        have fin : ∀ (c : S28) (kv : Value) (W : World), W = (((((w2.setCell ⟨w.heap.size, 0, none⟩ (.int .i64 c.f0)).setCell ⟨w.heap.size, 1, none⟩ kv).setCell ⟨w.heap.size, 2, none⟩ (.int .i64 c.f2)).setCell ⟨w.heap.size, 3, none⟩ (.int .u64 c.f3)).setCell ⟨w.heap.size, 4, none⟩ (.string c.f4)).setCell ⟨w.heap.size, 5, none⟩ (.int .u64 c.f5) → R = .ok (c, l') → k28.R 28 w2 (w.heap.size + 1) (fun _ => True) kv c.f1 → PPost w b tb cs deep (condV w.heap.size) R (.returned (.agg #[.int .i64 c.f0, kv, .int .i64 c.f2, .int .u64 c.f3, .string c.f4, .int .u64 c.f5])) W := by
          intro c kv W hW hRc hKc
          subst hW
          have n3 : w.heap.size ≠ tb := by omega
          refine PPost.mk_ok hRc ?_ ⟨kv, rfl, ?_⟩ ?_
          · exact grown_new (grown_new (grown_new (grown_new (grown_new (grown_new HG2.out (Nat.le_refl _) _ _) (Nat.le_refl _) _ _) (Nat.le_refl _) _ _) (Nat.le_refl _) _ _) (Nat.le_refl _) _ _) (Nat.le_refl _) _ _
          · have far : ∀ {W : World} (j : Nat) (u : Value), k28.R 28 W (w.heap.size + 1) (fun _ => True) kv c.f1 → k28.R 28 (W.setCell ⟨w.heap.size, j, none⟩ u) (w.heap.size + 1) (fun _ => True) kv c.f1 := fun j u h => Kd.R_mono (Kd.R_far (Kd.R_bound h) (p := ⟨w.heap.size, j, none⟩) (fun k hk => by have := hk.2.1; show k ≠ w.heap.size; omega) u) (fun _ hk => hk.1)
            exact Kd.R_lower (far _ _ (far _ _ (far _ _ (far _ _ (far _ _ (far _ _ hKc)))))) (by omega)
          · exact (((((HP2.out.far hbw n3 _ _).far hbw n3 _ _).far hbw n3 _ _).far hbw n3 _ _).far hbw n3 _ _).far hbw n3 _ _
        have HFIN := Aside0.mk fin
        have d1 : ¬ w.heap.size = g := by omega
        have d2 : ¬ g = w.heap.size := by omega
        by_cases h1 : r0 = []
        · subst h1
          clear hcell hK0 hb2 fin
          go_wp2_with fail
          refine bodyPost_ret (v := .agg #[.int .i64 c0.f0, .slice A0 c0.f1.length cc0, .int .i64 c0.f2, .int .u64 c0.f3, .string c0.f4, .int .u64 c0.f5]) (by simp [results, Tryz.results102, go_sem, *]) rfl ?_
          exact HFIN.out c0 _ _ rfl (HR2.out.trans rfl) HK02.out
        · have hl2 : ¬ ((c0 :: r0).length = 1) := by
            intro e
            exact h1 (List.length_eq_zero_iff.1 (by simpa using e))
          have hl3 : (((c0 :: r0).length : Int) == 1) = false := by rw [beq_eq_false_iff_ne]; omega
          have HR3 := Aside0.mk (HR2.out.trans (show _ = .ok (⟨kind, c0 :: r0, 0, 0, ⟨#[]⟩, 0⟩, l') by unfold listR; rw [if_neg hl2]))
          obtain ⟨N, hN_⟩ : ∃ N, N = (c0 :: r0).length := ⟨_, rfl⟩
          have HF := HFIN.out ⟨kind, c0 :: r0, 0, 0, ⟨#[]⟩, 0⟩ (.slice (some ⟨g, 0, none⟩) (c0 :: r0).length cap) _ rfl HR3.out HK2.out
          rw [← hN_] at hl3 HF ⊢
          clear hcell hK0 hb2 fin hl2 k0 k1 k2 k3 k4 k5 h1 hN_
          go_wp2_with fail
          refine bodyPost_ret (v := .agg #[.int .i64 kind, .slice (some ⟨g, 0, none⟩) N cap, .int .i64 0, .int .u64 0, .string ⟨#[]⟩, .int .u64 0]) (by simp [results, Tryz.results102, go_sem, *]) rfl ?_
          exact HF
def notT : ByteArray := ⟨#[110, 111, 116]⟩
def opT : ByteArray := ⟨#[40]⟩
def clT : ByteArray := ⟨#[41]⟩
def andT : ByteArray := ⟨#[97, 110, 100]⟩
def orT : ByteArray := ⟨#[111, 114]⟩
def partP (f : List S74 → Except (Int × Int) (S28 × List S74)) (l : List S74) : Except (Int × Int) (S28 × List S74) := listP f andT 1 l
def condP (f : List S74 → Except (Int × Int) (S28 × List S74)) (l : List S74) : Except (Int × Int) (S28 × List S74) := listP (partP f) orT 2 l
def factorP : Nat → Nat → List S74 → Except (Int × Int) (S28 × List S74)
  | 0, _, _ => .error (0, 0)
  | n + 1, deep, l =>
    if 8 < deep then .error (62, (hd l).f2)
    else if isP 1 notT l = true then bnd (factorP n (deep + 1) l.tail) fun c => .ok (⟨3, [c.1], 0, 0, ⟨#[]⟩, 0⟩, c.2)
    else if isP 3 opT l = true then bnd (condP (factorP n (deep + 1)) l.tail) fun c => bnd (takeP 3 [clT] c.2) fun s => .ok (c.1, s.2)
    else testP l
/-! what is read is never longer than what there was -/
def Shr {α : Type} (f : List S74 → Except (Int × Int) (α × List S74)) : Prop := ∀ l c l', f l = .ok (c, l') → l'.length ≤ l.length
theorem bnd_inv {α β : Type} {r : Except (Int × Int) α} {f : α → Except (Int × Int) β} {y : β} (h : bnd r f = .ok y) : ∃ a, r = .ok a ∧ f a = .ok y := by
  cases r with
  | error e => cases h
  | ok a => exact ⟨a, rfl, h⟩
theorem take_shr (k : Int) (xs : List ByteArray) : Shr (takeP k xs) := fun l c l' h => by
  obtain ⟨_, rfl, _⟩ := takeP_ok h
  simp
theorem num_shr : Shr numP := fun l c l' h => by
  obtain ⟨⟨s, l1⟩, h1, h2⟩ := bnd_inv h
  cases h2
  exact take_shr 2 [] l s _ h1
theorem mask_shr : Shr maskP := fun l c l' h => by
  unfold maskP at h
  split at h
  · obtain ⟨⟨s, l1⟩, h1, h2⟩ := bnd_inv h
    have e1 := take_shr _ _ _ _ _ h1
    have e2 := num_shr _ _ _ h2
    exact Nat.le_trans e2 e1
  · cases h; exact Nat.le_refl _
theorem test_shr : Shr testP := fun l c l' h => by
  obtain ⟨⟨s, l1⟩, h1, h2⟩ := bnd_inv h
  obtain ⟨⟨m, l2⟩, h3, h4⟩ := bnd_inv h2
  obtain ⟨⟨g, l3⟩, h5, h6⟩ := bnd_inv h4
  obtain ⟨⟨v, l4⟩, h7, h8⟩ := bnd_inv h6
  cases h8
  have e1 := take_shr _ _ _ _ _ h1
  have e2 := mask_shr _ _ _ h3
  have e3 := take_shr _ _ _ _ _ h5
  have e4 := num_shr _ _ _ h7
  exact Nat.le_trans e4 (Nat.le_trans e3 (Nat.le_trans e2 e1))
theorem more_shr {part : List S74 → Except (Int × Int) (S28 × List S74)} (hp : Shr part) (wd : ByteArray) : ∀ n acc l m l', moreP part wd n acc l = .ok (m, l') → l'.length ≤ l.length
  | 0, acc, l, m, l', h => by cases h; exact Nat.le_refl _
  | n + 1, acc, l, m, l', h => by
    rw [moreP] at h
    split at h
    · obtain ⟨⟨c, l1⟩, h1, h2⟩ := bnd_inv h
      have e1 := hp _ _ _ h1
      have e2 := more_shr hp wd n _ _ _ _ h2
      have e3 : l.tail.length ≤ l.length := by simp
      exact Nat.le_trans e2 (Nat.le_trans e1 e3)
    · cases h; exact Nat.le_refl _
theorem list_shr {part : List S74 → Except (Int × Int) (S28 × List S74)} (hp : Shr part) (wd : ByteArray) (kind : Int) : Shr (listP part wd kind) := fun l c l' h => by
  obtain ⟨⟨c1, l1⟩, h1, h2⟩ := bnd_inv h
  obtain ⟨⟨m, l2⟩, h3, h4⟩ := bnd_inv h2
  cases h4
  exact Nat.le_trans (more_shr hp wd _ _ _ _ _ h3) (hp _ _ _ h1)
theorem factor_shr : ∀ n deep, Shr (factorP n deep)
  | 0, deep => fun l c l' h => by cases h
  | n + 1, deep => fun l c l' h => by
    rw [factorP] at h
    have e3 : l.tail.length ≤ l.length := by simp
    split at h
    · cases h
    split at h
    · obtain ⟨⟨c1, l1⟩, h1, h2⟩ := bnd_inv h
      cases h2
      exact Nat.le_trans (factor_shr n (deep + 1) _ _ _ h1) e3
    split at h
    · obtain ⟨⟨c1, l1⟩, h1, h2⟩ := bnd_inv h
      obtain ⟨⟨s, l2⟩, h3, h4⟩ := bnd_inv h2
      cases h4
      exact Nat.le_trans (take_shr _ _ _ _ _ h3) (Nat.le_trans (list_shr (list_shr (factor_shr n (deep + 1)) andT 1) orT 2 _ _ _ h1) e3)
    · exact test_shr _ _ _ h
theorem cond_store {w w2 : World} {b tb : Nat} {cs : Array Value} {l' : List S74} {deep : Nat} {R : Except (Int × Int) (S28 × List S74)} (hbw : b < w.heap.size) (htw : tb < w.heap.size) (hP : PInv w2 b tb cs l' deep) (hG : w.grownBy w2 (some b)) (c : S28) (kv : Value) (hR : R = .ok (c, l')) (hK : k28.R 28 w2 (w.heap.size + 1) (fun _ => True) kv c.f1) :
    PPost w b tb cs deep (condV w.heap.size) R (.returned (.agg #[.int .i64 c.f0, kv, .int .i64 c.f2, .int .u64 c.f3, .string c.f4, .int .u64 c.f5])) ((((((w2.setCell ⟨w.heap.size, 0, none⟩ (.int .i64 c.f0)).setCell ⟨w.heap.size, 1, none⟩ kv).setCell ⟨w.heap.size, 2, none⟩ (.int .i64 c.f2)).setCell ⟨w.heap.size, 3, none⟩ (.int .u64 c.f3)).setCell ⟨w.heap.size, 4, none⟩ (.string c.f4)).setCell ⟨w.heap.size, 5, none⟩ (.int .u64 c.f5)) := by
  have n3 : w.heap.size ≠ tb := by omega
  refine PPost.mk_ok hR ?_ ⟨kv, rfl, ?_⟩ ?_
  · exact grown_new (grown_new (grown_new (grown_new (grown_new (grown_new hG (Nat.le_refl _) _ _) (Nat.le_refl _) _ _) (Nat.le_refl _) _ _) (Nat.le_refl _) _ _) (Nat.le_refl _) _ _) (Nat.le_refl _) _ _
  · have far : ∀ {W : World} (j : Nat) (u : Value), k28.R 28 W (w.heap.size + 1) (fun _ => True) kv c.f1 → k28.R 28 (W.setCell ⟨w.heap.size, j, none⟩ u) (w.heap.size + 1) (fun _ => True) kv c.f1 := fun j u h => Kd.R_mono (Kd.R_far (Kd.R_bound h) (p := ⟨w.heap.size, j, none⟩) (fun k hk => by have := hk.2.1; show k ≠ w.heap.size; omega) u) (fun _ hk => hk.1)
    exact Kd.R_lower (far _ _ (far _ _ (far _ _ (far _ _ (far _ _ (far _ _ hK)))))) (by omega)
  · exact (((((hP.far hbw n3 _ _).far hbw n3 _ _).far hbw n3 _ _).far hbw n3 _ _).far hbw n3 _ _).far hbw n3 _ _
set_option maxHeartbeats 3200000 in
set_option maxRecDepth 100000 in
theorem part_any {b tb : Nat} {cs : Array Value} {deep : Nat} (f : List S74 → Except (Int × Int) (S28 × List S74)) (L : Nat) (hM : L ≤ 1000000)
    (hp : ∀ (l : List S74) (w : World), l.length ≤ L → PInv w b tb cs l deep → Calls Tryz.prog 122 #[.pointer (some ⟨b, 0, none⟩)] w (PPost w b tb cs deep (condV w.heap.size) (f l))) (hs : Shr f)
    (l : List S74) (w : World) (hL : l.length ≤ L) (h : PInv w b tb cs l deep) :
    Calls Tryz.prog 103 #[.pointer (some ⟨b, 0, none⟩)] w (PPost w b tb cs deep (condV w.heap.size) (partP f l)) := by
  have HI := Aside0.mk h
  have hlist := fun (w : World) (h : PInv w b tb cs l deep) => list_any 122 (f) andT 1 L (fun args W => enters_ Tryz.func122 (by kernel_rfl) rfl args W) (hp) (hs) l w hL hM h
  obtain ⟨R, hR⟩ : ∃ R, R = partP f l := ⟨_, rfl⟩
  have hlist2 : ∀ (w : World) (h : PInv w b tb cs l deep), Calls Tryz.prog 102 #[.pointer (some ⟨b, 0, none⟩), .string ⟨#[97, 110, 100]⟩, .int .i64 1, .func (.func 122) #[] #[]] w (PPost w b tb cs deep (condV w.heap.size) R) := fun w h => by rw [hR]; exact hlist w h
  rw [← hR]
  have HLI := Aside0.mk hlist2
  have hbw : b < w.heap.size := h.tlt.2
  have htw : tb < w.heap.size := h.tlt.1
  clear h hR hlist hlist2 hp hs
  go_enter Tryz.func103, Tryz.ntmps103
  go_wp2_with fail
  go_at_call 102
  refine (HLI.out _ (HI.out.al _)).mono ?_
  intro e w2 hp2
  have hb0 : Below w.heap.size w (w.alloc (.cells #[.int .i64 0, .slice none 0 0, .int .i64 0, .int .u64 0, .string ⟨#[]⟩, .int .u64 0] 28)) := (Below.refl _ _).alloc (Nat.le_refl _) _
  rcases R with ⟨bad, at_⟩ | ⟨c, l'⟩
  · obtain ⟨hg, rfl⟩ := hp2.err rfl
    go_wp2_with fail
    exact ⟨rfl, PPost.mk_err rfl (grown_below hb0 hg)⟩
  · obtain ⟨hg, ⟨v, rfl, ⟨kv, rfl, hK⟩⟩, hP⟩ := hp2.ok rfl
    obtain ⟨A0, cc0, e0⟩ := Kd.R_slice hK
    subst e0
    have HG := Aside0.mk (grown_below hb0 hg)
    have hZ := blk_grown (heap_alloc_new w (.cells #[.int .i64 0, .slice none 0 0, .int .i64 0, .int .u64 0, .string ⟨#[]⟩, .int .u64 0] 28)) hg (by intro e; have := Option.some.inj e; omega)
    have HP := Aside0.mk hP
    have HK := Aside0.mk (Kd.R_lower hK (base' := w.heap.size + 1) (by simp))
    have r0_ : w2.cell? ⟨w.heap.size, 0, none⟩ = some (.int .i64 0) := (blk_cell hZ 0).trans rfl
    have r1_ : w2.cell? ⟨w.heap.size, 1, none⟩ = some (.slice none 0 0) := (blk_cell hZ 1).trans rfl
    have r2_ : w2.cell? ⟨w.heap.size, 2, none⟩ = some (.int .i64 0) := (blk_cell hZ 2).trans rfl
    have r3_ : w2.cell? ⟨w.heap.size, 3, none⟩ = some (.int .u64 0) := (blk_cell hZ 3).trans rfl
    have r4_ : w2.cell? ⟨w.heap.size, 4, none⟩ = some (.string ⟨#[]⟩) := (blk_cell hZ 4).trans rfl
    have r5_ : w2.cell? ⟨w.heap.size, 5, none⟩ = some (.int .u64 0) := (blk_cell hZ 5).trans rfl
    have z0 := blk_frozen hZ 0
    have z1 := blk_frozen hZ 1
    have z2 := blk_frozen hZ 2
    have z3 := blk_frozen hZ 3
    have z4 := blk_frozen hZ 4
    have z5 := blk_frozen hZ 5
    clear hp2 hg hP hK hb0
    go_wp2_with fail
    refine bodyPost_ret (v := .agg #[.int .i64 c.f0, .slice A0 c.f1.length cc0, .int .i64 c.f2, .int .u64 c.f3, .string c.f4, .int .u64 c.f5]) (by simp [results, Tryz.results103, go_sem, *]) rfl ?_
    exact cond_store hbw htw HP.out HG.out c _ rfl HK.out
set_option maxHeartbeats 3200000 in
set_option maxRecDepth 100000 in
theorem condp_any {b tb : Nat} {cs : Array Value} {deep : Nat} (f : List S74 → Except (Int × Int) (S28 × List S74)) (L : Nat) (hM : L ≤ 1000000)
    (hp : ∀ (l : List S74) (w : World), l.length ≤ L → PInv w b tb cs l deep → Calls Tryz.prog 122 #[.pointer (some ⟨b, 0, none⟩)] w (PPost w b tb cs deep (condV w.heap.size) (f l))) (hs : Shr f)
    (l : List S74) (w : World) (hL : l.length ≤ L) (h : PInv w b tb cs l deep) :
    Calls Tryz.prog 83 #[.pointer (some ⟨b, 0, none⟩)] w (PPost w b tb cs deep (condV w.heap.size) (condP f l)) := by
  have HI := Aside0.mk h
  have hlist := fun (w : World) (h : PInv w b tb cs l deep) => list_any 103 (partP f) orT 2 L (fun args W => enters_ Tryz.func103 (by kernel_rfl) rfl args W) (fun l w hl h => part_any f L hM hp hs l w hl h) (list_shr hs andT 1) l w hL hM h
  obtain ⟨R, hR⟩ : ∃ R, R = condP f l := ⟨_, rfl⟩
  have hlist2 : ∀ (w : World) (h : PInv w b tb cs l deep), Calls Tryz.prog 102 #[.pointer (some ⟨b, 0, none⟩), .string ⟨#[111, 114]⟩, .int .i64 2, .func (.func 103) #[] #[]] w (PPost w b tb cs deep (condV w.heap.size) R) := fun w h => by rw [hR]; exact hlist w h
  rw [← hR]
  have HLI := Aside0.mk hlist2
  have hbw : b < w.heap.size := h.tlt.2
  have htw : tb < w.heap.size := h.tlt.1
  clear h hR hlist hlist2 hp hs
  go_enter Tryz.func83, Tryz.ntmps83
  go_wp2_with fail
  go_at_call 102
  refine (HLI.out _ (HI.out.al _)).mono ?_
  intro e w2 hp2
  have hb0 : Below w.heap.size w (w.alloc (.cells #[.int .i64 0, .slice none 0 0, .int .i64 0, .int .u64 0, .string ⟨#[]⟩, .int .u64 0] 28)) := (Below.refl _ _).alloc (Nat.le_refl _) _
  rcases R with ⟨bad, at_⟩ | ⟨c, l'⟩
  · obtain ⟨hg, rfl⟩ := hp2.err rfl
    go_wp2_with fail
    exact ⟨rfl, PPost.mk_err rfl (grown_below hb0 hg)⟩
  · obtain ⟨hg, ⟨v, rfl, ⟨kv, rfl, hK⟩⟩, hP⟩ := hp2.ok rfl
    obtain ⟨A0, cc0, e0⟩ := Kd.R_slice hK
    subst e0
    have HG := Aside0.mk (grown_below hb0 hg)
    have hZ := blk_grown (heap_alloc_new w (.cells #[.int .i64 0, .slice none 0 0, .int .i64 0, .int .u64 0, .string ⟨#[]⟩, .int .u64 0] 28)) hg (by intro e; have := Option.some.inj e; omega)
    have HP := Aside0.mk hP
    have HK := Aside0.mk (Kd.R_lower hK (base' := w.heap.size + 1) (by simp))
    have r0_ : w2.cell? ⟨w.heap.size, 0, none⟩ = some (.int .i64 0) := (blk_cell hZ 0).trans rfl
    have r1_ : w2.cell? ⟨w.heap.size, 1, none⟩ = some (.slice none 0 0) := (blk_cell hZ 1).trans rfl
    have r2_ : w2.cell? ⟨w.heap.size, 2, none⟩ = some (.int .i64 0) := (blk_cell hZ 2).trans rfl
    have r3_ : w2.cell? ⟨w.heap.size, 3, none⟩ = some (.int .u64 0) := (blk_cell hZ 3).trans rfl
    have r4_ : w2.cell? ⟨w.heap.size, 4, none⟩ = some (.string ⟨#[]⟩) := (blk_cell hZ 4).trans rfl
    have r5_ : w2.cell? ⟨w.heap.size, 5, none⟩ = some (.int .u64 0) := (blk_cell hZ 5).trans rfl
    have z0 := blk_frozen hZ 0
    have z1 := blk_frozen hZ 1
    have z2 := blk_frozen hZ 2
    have z3 := blk_frozen hZ 3
    have z4 := blk_frozen hZ 4
    have z5 := blk_frozen hZ 5
    clear hp2 hg hP hK hb0
    go_wp2_with fail
    refine bodyPost_ret (v := .agg #[.int .i64 c.f0, .slice A0 c.f1.length cc0, .int .i64 c.f2, .int .u64 c.f3, .string c.f4, .int .u64 c.f5]) (by simp [results, Tryz.results83, go_sem, *]) rfl ?_
    exact cond_store hbw htw HP.out HG.out c _ rfl HK.out

end Go.Proofs.YtdfjjimmnbijmaaGreatDoor.ZQ

import Derived.Test.YtdfjjimmnbijmaaDoorPPg
namespace Go.Proofs.YtdfjjimmnbijmaaDoor.PP
open Go.RowKit Go.Proofs.YtdfjjimmnbijmaaDoorW.PrintWords Go.Proofs.YtdfjjimmnbijmaaDoorW.PrintLast Go.Proofs.YtdfjjimmnbijmaaDoorW.PrintMore Go.Proofs.YtdfjjimmnbijmaaDoor.Base
attribute [local go_sem] max2_int min2_int max_two min_two max_three min_three max_four min_four
set_option linter.unusedVariables false
set_option linter.unusedSimpArgs false
def notT : ByteArray := ⟨#[110, 111, 116]⟩
def opT : ByteArray := ⟨#[40]⟩
def clT : ByteArray := ⟨#[41]⟩
def andT : ByteArray := ⟨#[97, 110, 100]⟩
def orT : ByteArray := ⟨#[111, 114]⟩
def partP (f : List S34 → Except (Int × Int) (S47 × List S34)) (l : List S34) : Except (Int × Int) (S47 × List S34) := listP f andT 1 l
def condP (f : List S34 → Except (Int × Int) (S47 × List S34)) (l : List S34) : Except (Int × Int) (S47 × List S34) := listP (partP f) orT 2 l
def factorP : Nat → Nat → List S34 → Except (Int × Int) (S47 × List S34)
  | 0, _, _ => .error (0, 0)
  | n + 1, deep, l =>
    if 8 < deep then .error (62, (hd l).f2)
    else if isP 1 notT l = true then bnd (factorP n (deep + 1) l.tail) fun c => .ok (⟨3, [c.1], 0, 0, ⟨#[]⟩, 0⟩, c.2)
    else if isP 3 opT l = true then bnd (condP (factorP n (deep + 1)) l.tail) fun c => bnd (takeP 3 [clT] c.2) fun s => .ok (c.1, s.2)
    else testP l
/-! what is read is never longer than what there was -/
def Shr {α : Type} (f : List S34 → Except (Int × Int) (α × List S34)) : Prop := ∀ l c l', f l = .ok (c, l') → l'.length ≤ l.length
theorem bnd_inv {α β : Type} {r : Except (Int × Int) α} {f : α → Except (Int × Int) β} {y : β} (h : bnd r f = .ok y) : ∃ a, r = .ok a ∧ f a = .ok y := by
  cases r with
  | error e => cases h
  | ok a => exact ⟨a, rfl, h⟩
theorem take_shr (k : Int) (xs : List ByteArray) : Shr (takeP k xs) := fun l c l' h => by
  obtain ⟨_, rfl, _⟩ := takeP_ok h
  simp
theorem num_shr : Shr numP := fun l c l' h => by
  obtain ⟨⟨s, l1⟩, h1, h2⟩ := bnd_inv h
  cases h2
  exact take_shr 2 [] l s _ h1
theorem mask_shr : Shr maskP := fun l c l' h => by
  unfold maskP at h
  split at h
  · obtain ⟨⟨s, l1⟩, h1, h2⟩ := bnd_inv h
    have e1 := take_shr _ _ _ _ _ h1
    have e2 := num_shr _ _ _ h2
    exact Nat.le_trans e2 e1
  · cases h; exact Nat.le_refl _
theorem test_shr : Shr testP := fun l c l' h => by
  obtain ⟨⟨s, l1⟩, h1, h2⟩ := bnd_inv h
  obtain ⟨⟨m, l2⟩, h3, h4⟩ := bnd_inv h2
  obtain ⟨⟨g, l3⟩, h5, h6⟩ := bnd_inv h4
  obtain ⟨⟨v, l4⟩, h7, h8⟩ := bnd_inv h6
  cases h8
  have e1 := take_shr _ _ _ _ _ h1
  have e2 := mask_shr _ _ _ h3
  have e3 := take_shr _ _ _ _ _ h5
  have e4 := num_shr _ _ _ h7
  exact Nat.le_trans e4 (Nat.le_trans e3 (Nat.le_trans e2 e1))
theorem more_shr {part : List S34 → Except (Int × Int) (S47 × List S34)} (hp : Shr part) (wd : ByteArray) : ∀ n acc l m l', moreP part wd n acc l = .ok (m, l') → l'.length ≤ l.length
  | 0, acc, l, m, l', h => by cases h; exact Nat.le_refl _
  | n + 1, acc, l, m, l', h => by
    rw [moreP] at h
    split at h
    · obtain ⟨⟨c, l1⟩, h1, h2⟩ := bnd_inv h
      have e1 := hp _ _ _ h1
      have e2 := more_shr hp wd n _ _ _ _ h2
      have e3 : l.tail.length ≤ l.length := by simp
      exact Nat.le_trans e2 (Nat.le_trans e1 e3)
    · cases h; exact Nat.le_refl _
theorem list_shr {part : List S34 → Except (Int × Int) (S47 × List S34)} (hp : Shr part) (wd : ByteArray) (kind : Int) : Shr (listP part wd kind) := fun l c l' h => by
  obtain ⟨⟨c1, l1⟩, h1, h2⟩ := bnd_inv h
  obtain ⟨⟨m, l2⟩, h3, h4⟩ := bnd_inv h2
  cases h4
  exact Nat.le_trans (more_shr hp wd _ _ _ _ _ h3) (hp _ _ _ h1)
theorem factor_shr : ∀ n deep, Shr (factorP n deep)
  | 0, deep => fun l c l' h => by cases h
  | n + 1, deep => fun l c l' h => by
    rw [factorP] at h
    have e3 : l.tail.length ≤ l.length := by simp
    split at h
    · cases h
    split at h
    · obtain ⟨⟨c1, l1⟩, h1, h2⟩ := bnd_inv h
      cases h2
      exact Nat.le_trans (factor_shr n (deep + 1) _ _ _ h1) e3
    split at h
    · obtain ⟨⟨c1, l1⟩, h1, h2⟩ := bnd_inv h
      obtain ⟨⟨s, l2⟩, h3, h4⟩ := bnd_inv h2
      cases h4
      exact Nat.le_trans (take_shr _ _ _ _ _ h3) (Nat.le_trans (list_shr (list_shr (factor_shr n (deep + 1)) andT 1) orT 2 _ _ _ h1) e3)
    · exact test_shr _ _ _ h
theorem cond_store {w w2 : World} {b tb : Nat} {cs : Array Value} {l' : List S34} {deep : Nat} {R : Except (Int × Int) (S47 × List S34)} (hbw : b < w.heap.size) (htw : tb < w.heap.size) (hP : PInv w2 b tb cs l' deep) (hG : w.grownBy w2 (some b)) (c : S47) (kv : Value) (hR : R = .ok (c, l')) (hK : k47.R 47 w2 (w.heap.size + 1) (fun _ => True) kv c.f1) :
    PPost w b tb cs deep (condV w.heap.size) R (.returned (.agg #[.int .i64 c.f0, kv, .int .i64 c.f2, .int .u64 c.f3, .string c.f4, .int .u64 c.f5])) ((((((w2.setCell ⟨w.heap.size, 0, none⟩ (.int .i64 c.f0)).setCell ⟨w.heap.size, 1, none⟩ kv).setCell ⟨w.heap.size, 2, none⟩ (.int .i64 c.f2)).setCell ⟨w.heap.size, 3, none⟩ (.int .u64 c.f3)).setCell ⟨w.heap.size, 4, none⟩ (.string c.f4)).setCell ⟨w.heap.size, 5, none⟩ (.int .u64 c.f5)) := by
  have n3 : w.heap.size ≠ tb := by omega
  refine PPost.mk_ok hR ?_ ⟨kv, rfl, ?_⟩ ?_
  · exact grown_new (grown_new (grown_new (grown_new (grown_new (grown_new hG (Nat.le_refl _) _ _) (Nat.le_refl _) _ _) (Nat.le_refl _) _ _) (Nat.le_refl _) _ _) (Nat.le_refl _) _ _) (Nat.le_refl _) _ _
  · have far : ∀ {W : World} (j : Nat) (u : Value), k47.R 47 W (w.heap.size + 1) (fun _ => True) kv c.f1 → k47.R 47 (W.setCell ⟨w.heap.size, j, none⟩ u) (w.heap.size + 1) (fun _ => True) kv c.f1 := fun j u h => Kd.R_mono (Kd.R_far (Kd.R_bound h) (p := ⟨w.heap.size, j, none⟩) (fun k hk => by have := hk.2.1; show k ≠ w.heap.size; omega) u) (fun _ hk => hk.1)
    exact Kd.R_lower (far _ _ (far _ _ (far _ _ (far _ _ (far _ _ (far _ _ hK)))))) (by omega)
  · exact (((((hP.far hbw n3 _ _).far hbw n3 _ _).far hbw n3 _ _).far hbw n3 _ _).far hbw n3 _ _).far hbw n3 _ _
set_option maxHeartbeats 3200000 in
set_option maxRecDepth 100000 in
theorem part_any {b tb : Nat} {cs : Array Value} {deep : Nat} (f : List S34 → Except (Int × Int) (S47 × List S34)) (L : Nat) (hM : L ≤ 1000000)
    (hp : ∀ (l : List S34) (w : World), l.length ≤ L → PInv w b tb cs l deep → Calls Tryd.prog 145 #[.pointer (some ⟨b, 0, none⟩)] w (PPost w b tb cs deep (condV w.heap.size) (f l))) (hs : Shr f)
    (l : List S34) (w : World) (hL : l.length ≤ L) (h : PInv w b tb cs l deep) :
    Calls Tryd.prog 138 #[.pointer (some ⟨b, 0, none⟩)] w (PPost w b tb cs deep (condV w.heap.size) (partP f l)) := by
  have HI := Aside0.mk h
  have hlist := fun (w : World) (h : PInv w b tb cs l deep) => list_any 145 (f) andT 1 L (fun args W => enters_ Tryd.func145 (by kernel_rfl) rfl args W) (hp) (hs) l w hL hM h
  obtain ⟨R, hR⟩ : ∃ R, R = partP f l := ⟨_, rfl⟩
  have hlist2 : ∀ (w : World) (h : PInv w b tb cs l deep), Calls Tryd.prog 137 #[.pointer (some ⟨b, 0, none⟩), .string ⟨#[97, 110, 100]⟩, .int .i64 1, .func (.func 145) #[] #[]] w (PPost w b tb cs deep (condV w.heap.size) R) := fun w h => by rw [hR]; exact hlist w h
  rw [← hR]
  have HLI := Aside0.mk hlist2
  have hbw : b < w.heap.size := h.tlt.2
  have htw : tb < w.heap.size := h.tlt.1
  clear h hR hlist hlist2 hp hs
  go_enter Tryd.func138, Tryd.ntmps138
  go_wp2_with fail
  go_at_call 137
  refine (HLI.out _ (HI.out.al _)).mono ?_
  intro e w2 hp2
  have hb0 : Below w.heap.size w (w.alloc (.cells #[.int .i64 0, .slice none 0 0, .int .i64 0, .int .u64 0, .string ⟨#[]⟩, .int .u64 0] 47)) := (Below.refl _ _).alloc (Nat.le_refl _) _
  rcases R with ⟨bad, at_⟩ | ⟨c, l'⟩
  · obtain ⟨hg, rfl⟩ := hp2.err rfl
    go_wp2_with fail
    exact ⟨rfl, PPost.mk_err rfl (grown_below hb0 hg)⟩
  · obtain ⟨hg, ⟨v, rfl, ⟨kv, rfl, hK⟩⟩, hP⟩ := hp2.ok rfl
    obtain ⟨A0, cc0, e0⟩ := Kd.R_slice hK
    subst e0
    have HG := Aside0.mk (grown_below hb0 hg)
    have hZ := blk_grown (heap_alloc_new w (.cells #[.int .i64 0, .slice none 0 0, .int .i64 0, .int .u64 0, .string ⟨#[]⟩, .int .u64 0] 47)) hg (by intro e; have := Option.some.inj e; omega)
    have HP := Aside0.mk hP
    have HK := Aside0.mk (Kd.R_lower hK (base' := w.heap.size + 1) (by simp))
    have r0_ : w2.cell? ⟨w.heap.size, 0, none⟩ = some (.int .i64 0) := (blk_cell hZ 0).trans rfl
    have r1_ : w2.cell? ⟨w.heap.size, 1, none⟩ = some (.slice none 0 0) := (blk_cell hZ 1).trans rfl
    have r2_ : w2.cell? ⟨w.heap.size, 2, none⟩ = some (.int .i64 0) := (blk_cell hZ 2).trans rfl
    have r3_ : w2.cell? ⟨w.heap.size, 3, none⟩ = some (.int .u64 0) := (blk_cell hZ 3).trans rfl
    have r4_ : w2.cell? ⟨w.heap.size, 4, none⟩ = some (.string ⟨#[]⟩) := (blk_cell hZ 4).trans rfl
    have r5_ : w2.cell? ⟨w.heap.size, 5, none⟩ = some (.int .u64 0) := (blk_cell hZ 5).trans rfl
    have z0 := blk_frozen hZ 0
    have z1 := blk_frozen hZ 1
    have z2 := blk_frozen hZ 2
    have z3 := blk_frozen hZ 3
    have z4 := blk_frozen hZ 4
    have z5 := blk_frozen hZ 5
    clear hp2 hg hP hK hb0
    go_wp2_with fail
    refine bodyPost_ret (v := .agg #[.int .i64 c.f0, .slice A0 c.f1.length cc0, .int .i64 c.f2, .int .u64 c.f3, .string c.f4, .int .u64 c.f5]) (by simp [results, Tryd.results138, go_sem, *]) rfl ?_
    exact cond_store hbw htw HP.out HG.out c _ rfl HK.out
set_option maxHeartbeats 3200000 in
set_option maxRecDepth 100000 in
theorem cond_any {b tb : Nat} {cs : Array Value} {deep : Nat} (f : List S34 → Except (Int × Int) (S47 × List S34)) (L : Nat) (hM : L ≤ 1000000)
    (hp : ∀ (l : List S34) (w : World), l.length ≤ L → PInv w b tb cs l deep → Calls Tryd.prog 145 #[.pointer (some ⟨b, 0, none⟩)] w (PPost w b tb cs deep (condV w.heap.size) (f l))) (hs : Shr f)
    (l : List S34) (w : World) (hL : l.length ≤ L) (h : PInv w b tb cs l deep) :
    Calls Tryd.prog 118 #[.pointer (some ⟨b, 0, none⟩)] w (PPost w b tb cs deep (condV w.heap.size) (condP f l)) := by
  have HI := Aside0.mk h
  have hlist := fun (w : World) (h : PInv w b tb cs l deep) => list_any 138 (partP f) orT 2 L (fun args W => enters_ Tryd.func138 (by kernel_rfl) rfl args W) (fun l w hl h => part_any f L hM hp hs l w hl h) (list_shr hs andT 1) l w hL hM h
  obtain ⟨R, hR⟩ : ∃ R, R = condP f l := ⟨_, rfl⟩
  have hlist2 : ∀ (w : World) (h : PInv w b tb cs l deep), Calls Tryd.prog 137 #[.pointer (some ⟨b, 0, none⟩), .string ⟨#[111, 114]⟩, .int .i64 2, .func (.func 138) #[] #[]] w (PPost w b tb cs deep (condV w.heap.size) R) := fun w h => by rw [hR]; exact hlist w h
  rw [← hR]
  have HLI := Aside0.mk hlist2
  have hbw : b < w.heap.size := h.tlt.2
  have htw : tb < w.heap.size := h.tlt.1
  clear h hR hlist hlist2 hp hs
  go_enter Tryd.func118, Tryd.ntmps118
  go_wp2_with fail
  go_at_call 137
  refine (HLI.out _ (HI.out.al _)).mono ?_
  intro e w2 hp2
  have hb0 : Below w.heap.size w (w.alloc (.cells #[.int .i64 0, .slice none 0 0, .int .i64 0, .int .u64 0, .string ⟨#[]⟩, .int .u64 0] 47)) := (Below.refl _ _).alloc (Nat.le_refl _) _
  rcases R with ⟨bad, at_⟩ | ⟨c, l'⟩
  · obtain ⟨hg, rfl⟩ := hp2.err rfl
    go_wp2_with fail
    exact ⟨rfl, PPost.mk_err rfl (grown_below hb0 hg)⟩
  · obtain ⟨hg, ⟨v, rfl, ⟨kv, rfl, hK⟩⟩, hP⟩ := hp2.ok rfl
    obtain ⟨A0, cc0, e0⟩ := Kd.R_slice hK
    subst e0
    have HG := Aside0.mk (grown_below hb0 hg)
    have hZ := blk_grown (heap_alloc_new w (.cells #[.int .i64 0, .slice none 0 0, .int .i64 0, .int .u64 0, .string ⟨#[]⟩, .int .u64 0] 47)) hg (by intro e; have := Option.some.inj e; omega)
    have HP := Aside0.mk hP
    have HK := Aside0.mk (Kd.R_lower hK (base' := w.heap.size + 1) (by simp))
    have r0_ : w2.cell? ⟨w.heap.size, 0, none⟩ = some (.int .i64 0) := (blk_cell hZ 0).trans rfl
    have r1_ : w2.cell? ⟨w.heap.size, 1, none⟩ = some (.slice none 0 0) := (blk_cell hZ 1).trans rfl
    have r2_ : w2.cell? ⟨w.heap.size, 2, none⟩ = some (.int .i64 0) := (blk_cell hZ 2).trans rfl
    have r3_ : w2.cell? ⟨w.heap.size, 3, none⟩ = some (.int .u64 0) := (blk_cell hZ 3).trans rfl
    have r4_ : w2.cell? ⟨w.heap.size, 4, none⟩ = some (.string ⟨#[]⟩) := (blk_cell hZ 4).trans rfl
    have r5_ : w2.cell? ⟨w.heap.size, 5, none⟩ = some (.int .u64 0) := (blk_cell hZ 5).trans rfl
    have z0 := blk_frozen hZ 0
    have z1 := blk_frozen hZ 1
    have z2 := blk_frozen hZ 2
    have z3 := blk_frozen hZ 3
    have z4 := blk_frozen hZ 4
    have z5 := blk_frozen hZ 5
    clear hp2 hg hP hK hb0
    go_wp2_with fail
    refine bodyPost_ret (v := .agg #[.int .i64 c.f0, .slice A0 c.f1.length cc0, .int .i64 c.f2, .int .u64 c.f3, .string c.f4, .int .u64 c.f5]) (by simp [results, Tryd.results118, go_sem, *]) rfl ?_
    exact cond_store hbw htw HP.out HG.out c _ rfl HK.out

end Go.Proofs.YtdfjjimmnbijmaaDoor.PP

import Derived.Test.YtdfjjimmnbijmaaGreatDoorZQg
namespace Go.Proofs.YtdfjjimmnbijmaaGreatDoor.ZQ
open Go.RowKit Go.Proofs.YtdfjjimmnbijmaaGreatDoorW.PrintWords Go.Proofs.YtdfjjimmnbijmaaGreatDoorW.PrintLast Go.Proofs.YtdfjjimmnbijmaaGreatDoorW.PrintMore Go.Proofs.YtdfjjimmnbijmaaGreatDoor.Base
attribute [local go_sem] max2_int min2_int max_two min_two max_three min_three max_four min_four
set_option linter.unusedVariables false
set_option linter.unusedSimpArgs false
def parseR : Except (Int × Int) (S25 × List S74) → ByteArray × ByteArray × Int × List S47 × Int × Int
  | .ok x => (x.1.f0, x.1.f1, x.1.f2, x.1.f3, 0, 0)
  | .error e => (⟨#[]⟩, ⟨#[]⟩, 0, [], e.1, e.2)
def parseS (s : ByteArray) : ByteArray × ByteArray × Int × List S47 × Int × Int := if (lexS s).2.1 = 0 then parseR (policyP (lexS s).1) else parseR (.error ((lexS s).2.1, (lexS s).2.2))
theorem lexG_lim (s : ByteArray) : ∀ (d p : Nat) (l : List S74), lexG s d p = .ok l → l.length ≤ d ∧ ∀ t ∈ l, t.f1.size ≤ s.size
  | 0, p, l, h => by cases h; exact ⟨Nat.le_refl _, fun t ht => by cases ht⟩
  | d + 1, p, l, h => by
    rw [lexG] at h
    split at h
    · split at h
      · cases h
      · obtain ⟨h1, h2⟩ := lexG_lim s d _ l h
        exact ⟨by omega, h2⟩
      · split at h
        · cases h
        · rename_i m hm
          obtain ⟨h1, h2⟩ := lexG_lim s d _ m hm
          cases h
          refine ⟨by simp; omega, fun t ht => ?_⟩
          rcases List.mem_cons.1 ht with e | e
          · subst e; show (ByteArray.extract _ _ _).size ≤ _; simp; omega
          · exact h2 t e
    · cases h; exact ⟨by simp, fun t ht => by cases ht⟩
theorem lexS_fin {s : ByteArray} (h : (lexS s).2.1 = 0) : (lexS s).1 ≠ [] ∧ ((lexS s).1.getLast?).map (·.f0) = some 0 ∧ (∀ t ∈ (lexS s).1, t.f1.size ≤ 1000000) ∧ (lexS s).1.length ≤ 1000000 := by
  unfold lexS at h ⊢
  split at h
  · cases h
  · rename_i hs
    rw [if_neg hs]
    cases hg : lexG s s.size 0 with
    | error e => rw [hg] at h; cases h
    | ok l =>
      obtain ⟨h1, h2⟩ := lexG_lim s _ _ _ hg
      refine ⟨by simp [lexR], by simp [lexR], fun t ht => ?_, by simp [lexR]; omega⟩
      rcases List.mem_append.1 ht with e | e
      · have := h2 t e; omega
      · simp at e; subst e; simp
theorem toks_row {w : World} {B : Nat} {v : Value} {l : List S74} (h : k74.R 74 w B (fun _ => True) v l) (h0 : l ≠ []) : ∃ g cap cs, v = .slice (some ⟨g, 0, none⟩) l.length cap ∧ l.length ≤ cap ∧ B ≤ g ∧ w.heap[g]? = some (.cells cs 74 (0, 0)) ∧ ∀ (j : Nat) (t : S74), l[j]? = some t → cs[0 + j * 3]? = some (.int .i64 t.f0) ∧ cs[0 + j * 3 + 1]? = some (.string t.f1) ∧ cs[0 + j * 3 + 2]? = some (.int .i64 t.f2) := by
  obtain ⟨_, inner, ho, hr⟩ := h
  obtain ⟨hl, ho⟩ := ho
  rcases ho with ⟨_, e0⟩ | ⟨g, cap, cur, rfl, hg, hh, h1, h2, h3, h4⟩
  · exact absurd (List.length_eq_zero_iff.1 e0) h0
  · refine ⟨g, cap, cur, rfl, h1, hg, hh, fun j t hj => ?_⟩
    have hm := k74_openM (hr.2 j t hj)
    have hjl := (List.getElem?_eq_some_iff.1 hj).1
    have key : ∀ i, i < 3 → cur[0 + j * 3 + i]? = ([Value.int .i64 t.f0, .string t.f1, .int .i64 t.f2] : List Value)[i]? := by
      intro i hi
      rw [← hm, List.getElem?_take, if_pos (by exact hi), List.getElem?_drop, ← h4, List.getElem?_take, if_pos (by show j * 3 + i < l.length * 3; omega), Nat.zero_add]
      show _ = cur.toList[j * 3 + i]?
      simp
    exact ⟨key 0 (by omega), key 1 (by omega), key 2 (by omega)⟩
def onlyN (Q : Exit → Act → World → Prop) : Exit → Act → World → Prop
  | .normal, a, w => Q .normal a w
  | _, _, _ => False
theorem wp_only {P : Program} {c : Code} {Q : Exit → Act → World → Prop} {a : Act} {w : World} (h : Code.wp P c (onlyN Q) a w) : Code.wp P c Q a w :=
  Code.wp_mono (fun e a w q => by cases e <;> first | exact q | exact q.elim) h
theorem csame {W : World} {p : Addr} {v x : Value} (hx : W.cell? p = some x) : (W.setCell p v).cell? p = some v := World.cell?_setCell_same W p v hx
set_option maxHeartbeats 6400000 in
set_option maxRecDepth 100000 in
theorem parse_any (s : ByteArray) (w : World) (hLd : LaidAt w) :
    Calls Tryz.prog 15 #[.string s] w fun e w' => ∃ v3_ : Value, e = .returned (.tuple #[.agg #[.string (parseS s).1, .string (parseS s).2.1, .int .u64 (parseS s).2.2.1, v3_], .int .i64 (parseS s).2.2.2.2.1, .int .i64 (parseS s).2.2.2.2.2]) ∧ Kd.R k47 47 w' w.heap.size (fun _ => True) v3_ (parseS s).2.2.2.1 ∧ Below w.heap.size w w' := by
  have hmf : ∀ (fn : Fn) (first cap : Array Value) (w : World), (Instr.makeFunc fn first cap).run Tryz.prog w = .ok (.func fn first cap) w := fun _ _ _ _ => rfl
  have HLD := Aside0.mk hLd
  obtain ⟨R, hR⟩ : ∃ R, R = parseS s := ⟨_, rfl⟩
  rw [← hR]
  have hF := fun h => lexS_fin (s := s) h
  have hlex := fun w h => lex_any s w h
  unfold parseS at hR
  obtain ⟨⟨toks, bad, at_⟩, hL⟩ : ∃ L, L = lexS s := ⟨_, rfl⟩
  rw [← hL] at hR hF hlex
  simp only at hR hF hlex
  have HR := Aside0.mk hR
  have HF := Aside0.mk hF
  have HX := Aside0.mk hlex
  clear hR hF hlex hL hLd
  have hb0 : Below w.heap.size w (((w.alloc (.cells #[.string ⟨#[]⟩, .string ⟨#[]⟩, .int .u64 0, .slice none 0 0] 25)).alloc (.cells #[.int .i64 0] 33)).alloc (.cells #[.int .i64 0] 3)) := (((Below.refl _ _).alloc (Nat.le_refl _) _).alloc (by simp) _).alloc (by simp; omega) _
  have HB0 := Aside0.mk hb0
  have HZ0 := Aside0.mk (show (((w.alloc (.cells #[.string ⟨#[]⟩, .string ⟨#[]⟩, .int .u64 0, .slice none 0 0] 25)).alloc (.cells #[.int .i64 0] 33)).alloc (.cells #[.int .i64 0] 3)).heap[w.heap.size]? = some (.cells #[.string ⟨#[]⟩, .string ⟨#[]⟩, .int .u64 0, .slice none 0 0] 25 (0, 0)) from blk_alloc (blk_alloc (blk_new w _) _) _)
  have HZ1 := Aside0.mk (show (((w.alloc (.cells #[.string ⟨#[]⟩, .string ⟨#[]⟩, .int .u64 0, .slice none 0 0] 25)).alloc (.cells #[.int .i64 0] 33)).alloc (.cells #[.int .i64 0] 3)).heap[w.heap.size + 1]? = some (.cells #[.int .i64 0] 33 (0, 0)) from blk_alloc (by have h_ := blk_new (w.alloc (.cells #[.string ⟨#[]⟩, .string ⟨#[]⟩, .int .u64 0, .slice none 0 0] 25)) (.cells #[.int .i64 0] 33); rw [World.size_alloc] at h_; exact h_) _)
  have HZ2 := Aside0.mk (show (((w.alloc (.cells #[.string ⟨#[]⟩, .string ⟨#[]⟩, .int .u64 0, .slice none 0 0] 25)).alloc (.cells #[.int .i64 0] 33)).alloc (.cells #[.int .i64 0] 3)).heap[w.heap.size + 2]? = some (.cells #[.int .i64 0] 3 (0, 0)) from by have h_ := blk_new ((w.alloc (.cells #[.string ⟨#[]⟩, .string ⟨#[]⟩, .int .u64 0, .slice none 0 0] 25)).alloc (.cells #[.int .i64 0] 33)) (.cells #[.int .i64 0] 3); rw [World.size_alloc, World.size_alloc] at h_; exact h_)
  clear hb0
  go_enter_defers Tryz.func15, Tryz.ntmps15
  go_wp2_with fail
  go_at_call 29
  refine (HX.out _ (LaidAt.of HLD.out HB0.out)).mono ?_
  rintro e w1 ⟨v0, rfl, hT, hb1⟩
  have hsz : w.heap.size + 3 ≤ w1.heap.size := by have := hb1.size; simp at this; omega
  have HT := Aside0.mk (show Kd.R k74 74 w1 (w.heap.size + 3) (fun _ => True) v0 toks from Kd.R_lower hT (by simp))
  have HY0 := Aside0.mk (blk_below HZ0.out hb1)
  have HY1 := Aside0.mk (blk_below HZ1.out hb1)
  have HY2 := Aside0.mk (blk_below HZ2.out hb1)
  have HB1 := Aside0.mk (HB0.out.trans (hb1.mono (by simp; omega)))
  clear hT hb1
  have c1 : w1.cell? ⟨w.heap.size + 1, 0, none⟩ = some (.int .i64 0) := blk_cell HY1.out 0
  have c2 : w1.cell? ⟨w.heap.size + 2, 0, none⟩ = some (.int .i64 0) := blk_cell HY2.out 0
  have z1 := blk_frozen HY1.out 0
  have z2 := blk_frozen HY2.out 0
  have hTd := HT.out
  obtain ⟨A0, cc0, e0⟩ := Kd.R_slice hTd
  clear hTd
  have BEL2 : ∀ x y : Value, Below w.heap.size w ((w1.setCell ⟨w.heap.size + 1, 0, none⟩ x).setCell ⟨w.heap.size + 1 + 1, 0, none⟩ y) := fun x y => (HB1.out.setCell (by show w.heap.size ≤ w.heap.size + 1; omega) _).setCell (by show w.heap.size ≤ w.heap.size + 1 + 1; omega) _
  have U0 := Aside0.mk (show ((w1.setCell ⟨w.heap.size + 1, 0, none⟩ (.int .i64 bad)).setCell ⟨w.heap.size + 1 + 1, 0, none⟩ (.int .i64 at_)).heap[w.heap.size]? = some (.cells #[.string ⟨#[]⟩, .string ⟨#[]⟩, .int .u64 0, .slice none 0 0] 25 (0, 0)) from blk_far (blk_far HY0.out (p := ⟨w.heap.size + 1, 0, none⟩) (by show w.heap.size ≠ w.heap.size + 1; omega) _) (p := ⟨w.heap.size + 1 + 1, 0, none⟩) (by show w.heap.size ≠ w.heap.size + 1 + 1; omega) _)
  have U1 := Aside0.mk (show ((w1.setCell ⟨w.heap.size + 1, 0, none⟩ (.int .i64 bad)).setCell ⟨w.heap.size + 1 + 1, 0, none⟩ (.int .i64 at_)).heap[w.heap.size + 1]? = some (.cells #[.int .i64 bad] 33 (0, 0)) from blk_far (blk_put HY1.out 0 (.int .i64 bad) rfl) (p := ⟨w.heap.size + 1 + 1, 0, none⟩) (by show w.heap.size + 1 ≠ w.heap.size + 1 + 1; omega) _)
  have U2 := Aside0.mk (show ((w1.setCell ⟨w.heap.size + 1, 0, none⟩ (.int .i64 bad)).setCell ⟨w.heap.size + 1 + 1, 0, none⟩ (.int .i64 at_)).heap[w.heap.size + 1 + 1]? = some (.cells #[.int .i64 at_] 3 (0, 0)) from blk_put (blk_far HY2.out (p := ⟨w.heap.size + 1, 0, none⟩) (by show w.heap.size + 2 ≠ w.heap.size + 1; omega) (.int .i64 bad)) 0 (.int .i64 at_) rfl)
  have UB := Aside0.mk (BEL2 (.int .i64 bad) (.int .i64 at_))
  clear BEL2
  cases hbd : (bad != 0) with
  | true =>
    subst e0
    go_wp2_with fail
    clear c1 c2 z1 z2
    obtain ⟨W2, hW2⟩ : ∃ W2, W2 = (w1.setCell ⟨w.heap.size + 1, 0, none⟩ (.int .i64 bad)).setCell ⟨w.heap.size + 1 + 1, 0, none⟩ (.int .i64 at_) := ⟨_, rfl⟩
    rw [← hW2] at U0 U1 U2 UB ⊢
    clear hW2
    have c1 : W2.cell? ⟨w.heap.size + 1, 0, none⟩ = some (.int .i64 bad) := blk_cell U1.out 0
    have c2 : W2.cell? ⟨w.heap.size + 1 + 1, 0, none⟩ = some (.int .i64 at_) := blk_cell U2.out 0
    have z1 := blk_frozen U1.out 0
    have z2 := blk_frozen U2.out 0
    have b0 : W2.cell? ⟨w.heap.size, 0, none⟩ = some (.string ⟨#[]⟩) := blk_cell U0.out 0
    have b1 : W2.cell? ⟨w.heap.size, 1, none⟩ = some (.string ⟨#[]⟩) := blk_cell U0.out 1
    have b2 : W2.cell? ⟨w.heap.size, 2, none⟩ = some (.int .u64 0) := blk_cell U0.out 2
    have b3 : W2.cell? ⟨w.heap.size, 3, none⟩ = some (.slice none 0 0) := blk_cell U0.out 3
    have y0 := blk_frozen U0.out 0
    have y1 := blk_frozen U0.out 1
    have y2 := blk_frozen U0.out 2
    have y3 := blk_frozen U0.out 3
    have C1 := Aside0.mk c1
    have C2 := Aside0.mk c2
    have n1 : w.heap.size ≠ w.heap.size + 1 := by omega
    have n2 : w.heap.size ≠ w.heap.size + 1 + 1 := by omega
    have n3 : w.heap.size + 1 ≠ w.heap.size + 1 + 1 := by omega
    refine wp_only ?_
    refine start_ (n := 6) (S := fun w' => w'.cell? ⟨w.heap.size + 1, 0, none⟩ = some (.int .i64 bad) ∧ w'.cell? ⟨w.heap.size + 1 + 1, 0, none⟩ = some (.int .i64 at_)) (ds := [5]) #[false, false, false, false, false, false] (by kernel_rfl) rfl rfl ⟨(cdr c1), (cdr c2)⟩ (fun hHeld => ?_)
    refine pure_ (i := 0) (N := some 15) (v := ?_) (a' := ?_) #[true, false, false, false, false, false] rfl rfl (by kernel_rfl) (fun _ _ _ h => h) (Or.inl ⟨by rfl, ?_⟩) ?_ ?_
    rotate_left
    · intro w'
      go_simp
      with_reducible rfl
    rotate_left
    · simp only [Act.put, List.setIfInBounds_toArray, List.set_cons_zero, List.set_cons_succ, i64_w, i32_w]
      rfl
    refine take_ (i := 1) (N := some 16) (v := ?_) (a' := ?_) #[true, true, false, false, false, false] rfl rfl (by kernel_rfl) (fun _ _ _ h => h) (Or.inl ⟨by rfl, ?_⟩) hHeld ?_ ?_
    rotate_left
    · rintro w' ⟨s0, s1⟩
      go_simp
      with_reducible rfl
    rotate_left
    · simp only [Act.put, List.setIfInBounds_toArray, List.set_cons_zero, List.set_cons_succ, i64_w, i32_w]
      rfl
    refine take_ (i := 2) (N := some 17) (v := ?_) (a' := ?_) #[true, true, true, false, false, false] rfl rfl (by kernel_rfl) (fun _ _ _ h => h) (Or.inl ⟨by rfl, ?_⟩) hHeld ?_ ?_
    rotate_left
    · rintro w' ⟨s0, s1⟩
      go_simp
      with_reducible rfl
    rotate_left
    · simp only [Act.put, List.setIfInBounds_toArray, List.set_cons_zero, List.set_cons_succ, i64_w, i32_w]
      rfl
    refine one_ (i := 3) (N := none) #[true, true, true, true, false, false] rfl rfl (by kernel_rfl) (by decide) (fun K hK => ?_)
    refine skip_ (w1 := ?_) (by rfl) rfl ?_ ?_
    rotate_left
    · go_simp
      rfl
    refine hK.out _ _ ⟨cdr (cfar n1 (cfar n1 (cfar n1 (cfar n1 C1.out)))), cdr (cfar n2 (cfar n2 (cfar n2 (cfar n2 C2.out))))⟩ (fun hHeld => ?_)
    clear hK K
    refine one_ (i := 4) (N := none) #[true, true, true, true, true, false] rfl rfl (by kernel_rfl) (by decide) (fun K hK => ?_)
    refine skip_ (w1 := ?_) (by rfl) rfl ?_ ?_
    rotate_left
    · go_simp
      rfl
    refine hK.out _ _ ⟨cdr (csame (cfar n1 (cfar n1 (cfar n1 (cfar n1 C1.out))))), cdr (cfar n3 (cfar n2 (cfar n2 (cfar n2 (cfar n2 C2.out)))))⟩ (fun hHeld => ?_)
    clear hK K
    refine last_ (i := 5) (N := none) #[true, true, true, true, true, true] rfl rfl (by kernel_rfl) (by decide) (fun K hK => ?_)
    refine skip_ (w1 := ?_) (by rfl) rfl ?_ ?_
    rotate_left
    · go_simp
      rfl
    refine hK.out _ _ ?_
    clear hK K
    refine done_ (by kernel_rfl) ?_
    have m01 : w.heap.size ≠ w.heap.size + 1 := by omega
    have m02 : w.heap.size ≠ w.heap.size + 1 + 1 := by omega
    have m10 : w.heap.size + 1 ≠ w.heap.size := by omega
    have m12 : w.heap.size + 1 ≠ w.heap.size + 1 + 1 := by omega
    have m20 : w.heap.size + 1 + 1 ≠ w.heap.size := by omega
    have m21 : w.heap.size + 1 + 1 ≠ w.heap.size + 1 := by omega
    have g1 := blk_put (cs' := #[.string ⟨#[]⟩, .string ⟨#[]⟩, .int .u64 0, .slice none 0 0]) U0.out 0 (.string ⟨#[]⟩) rfl
    have g2 := blk_put (cs' := #[.string ⟨#[]⟩, .string ⟨#[]⟩, .int .u64 0, .slice none 0 0]) g1 1 (.string ⟨#[]⟩) rfl
    have g3 := blk_put (cs' := #[.string ⟨#[]⟩, .string ⟨#[]⟩, .int .u64 0, .slice none 0 0]) g2 2 (.int .u64 0) rfl
    have g4 := blk_put (cs' := #[.string ⟨#[]⟩, .string ⟨#[]⟩, .int .u64 0, .slice none 0 0]) g3 3 (.slice none 0 0) rfl
    have g5 := blk_far g4 (p := ⟨w.heap.size + 1, 0, none⟩) m01 (.int .i64 bad)
    have g6 := blk_far g5 (p := ⟨w.heap.size + 1 + 1, 0, none⟩) m02 (.int .i64 at_)
    have k1 := blk_far U1.out (p := ⟨w.heap.size, 0, none⟩) m10 (.string ⟨#[]⟩)
    have k2 := blk_far k1 (p := ⟨w.heap.size, 1, none⟩) m10 (.string ⟨#[]⟩)
    have k3 := blk_far k2 (p := ⟨w.heap.size, 2, none⟩) m10 (.int .u64 0)
    have k4 := blk_far k3 (p := ⟨w.heap.size, 3, none⟩) m10 (.slice none 0 0)
    have k5 := blk_put (cs' := #[.int .i64 bad]) k4 0 (.int .i64 bad) rfl
    have k6 := blk_far k5 (p := ⟨w.heap.size + 1 + 1, 0, none⟩) m12 (.int .i64 at_)
    have j1 := blk_far U2.out (p := ⟨w.heap.size, 0, none⟩) m20 (.string ⟨#[]⟩)
    have j2 := blk_far j1 (p := ⟨w.heap.size, 1, none⟩) m20 (.string ⟨#[]⟩)
    have j3 := blk_far j2 (p := ⟨w.heap.size, 2, none⟩) m20 (.int .u64 0)
    have j4 := blk_far j3 (p := ⟨w.heap.size, 3, none⟩) m20 (.slice none 0 0)
    have j5 := blk_far j4 (p := ⟨w.heap.size + 1, 0, none⟩) m21 (.int .i64 bad)
    have j6 := blk_put (cs' := #[.int .i64 at_]) j5 0 (.int .i64 at_) rfl
    have q0 := bdr g6
    have q1 := bdr k6
    have q2 := bdr j6
    have qB := ((((((UB.out.setCell (p := ⟨w.heap.size, 0, none⟩) (Nat.le_refl _) (.string ⟨#[]⟩)).setCell (p := ⟨w.heap.size, 1, none⟩) (Nat.le_refl _) (.string ⟨#[]⟩)).setCell (p := ⟨w.heap.size, 2, none⟩) (Nat.le_refl _) (.int .u64 0)).setCell (p := ⟨w.heap.size, 3, none⟩) (Nat.le_refl _) (.slice none 0 0)).setCell (p := ⟨w.heap.size + 1, 0, none⟩) (by show w.heap.size ≤ w.heap.size + 1; omega) (.int .i64 bad)).setCell (p := ⟨w.heap.size + 1 + 1, 0, none⟩) (by show w.heap.size ≤ w.heap.size + 1 + 1; omega) (.int .i64 at_)).drew
    clear g1 g2 g3 g4 g5 g6 k1 k2 k3 k4 k5 k6 j1 j2 j3 j4 j5 j6
    have V0 := Aside0.mk q0
    have V1 := Aside0.mk q1
    have V2 := Aside0.mk q2
    have VB := Aside0.mk qB
    clear q0 q1 q2 qB
    obtain ⟨X, hX⟩ : ∃ X, X = ((((((W2.setCell ⟨w.heap.size, 0, none⟩ (.string ⟨#[]⟩)).setCell ⟨w.heap.size, 1, none⟩ (.string ⟨#[]⟩)).setCell ⟨w.heap.size, 2, none⟩ (.int .u64 0)).setCell ⟨w.heap.size, 3, none⟩ (.slice none 0 0)).setCell ⟨w.heap.size + 1, 0, none⟩ (.int .i64 bad)).setCell ⟨w.heap.size + 1 + 1, 0, none⟩ (.int .i64 at_)).drew := ⟨_, rfl⟩
    rw [← hX] at V0 V1 V2 VB ⊢
    clear hX
    simp only [onlyN]
    go_wp2_with fail
    refine leaves_cons (f := 28) (args := #[.pointer (some ⟨w.heap.size, 0, none⟩), .pointer (some ⟨w.heap.size + 1, 0, none⟩), .pointer (some ⟨w.heap.size + 1 + 1, 0, none⟩)]) (by simp) (by simp [go_sem]) ?_
    refine (catch_idle _ _ _ _).mono ?_
    rintro e u' w'' ⟨rfl, rfl, hXX⟩
    rw [hXX]
    clear hXX
    have V0 := V0.out
    have V1 := V1.out
    have V2 := V2.out
    have d0 : X.cell? ⟨w.heap.size, 0, none⟩ = some (.string ⟨#[]⟩) := blk_cell V0 0
    have d1 : X.cell? ⟨w.heap.size, 1, none⟩ = some (.string ⟨#[]⟩) := blk_cell V0 1
    have d2 : X.cell? ⟨w.heap.size, 2, none⟩ = some (.int .u64 0) := blk_cell V0 2
    have d3 : X.cell? ⟨w.heap.size, 3, none⟩ = some (.slice none 0 0) := blk_cell V0 3
    have d4 : X.cell? ⟨w.heap.size + 1, 0, none⟩ = some (.int .i64 bad) := blk_cell V1 0
    have d5 : X.cell? ⟨w.heap.size + 1 + 1, 0, none⟩ = some (.int .i64 at_) := blk_cell V2 0
    have hR2 : R = parseR (.error (bad, at_)) := HR.out.trans (if_neg (by simpa using hbd))
    rw [hR2]
    exact ⟨.tuple #[.agg #[.string ⟨#[]⟩, .string ⟨#[]⟩, .int .u64 0, .slice none 0 0], .int .i64 bad, .int .i64 at_], by simp [results, Tryz.results15, go_sem, d0, d1, d2, d3, d4, d5], _, rfl, Kd.R_nil _ _ _ _ _, VB.out⟩
  | false =>
    have hbad : bad = 0 := by simpa using hbd
    obtain ⟨f1_, f2_, f3_, f4_⟩ := HF.out hbad
    obtain ⟨g, cap, cs, rfl, hcap, hg3, hgk, hcells⟩ := toks_row HT.out f1_
    have hgl := blk_lt hgk
    clear e0
    have HP := Aside0.mk (show PInv (((w1.setCell ⟨w.heap.size + 1, 0, none⟩ (.int .i64 bad)).setCell ⟨w.heap.size + 1 + 1, 0, none⟩ (.int .i64 at_)).alloc (.cells #[.slice (some ⟨g, 0, none⟩) toks.length cap, .int .i64 0] 63)) w1.heap.size g cs toks 0 from by
      refine ⟨by omega, f1_, f2_, f3_, ⟨w, HLD.out, by omega, UB.out.alloc (by simp [World.setCell]; omega) _⟩, blk_alloc (blk_far (blk_far hgk (p := ⟨w.heap.size + 1, 0, none⟩) (by show g ≠ w.heap.size + 1; omega) _) (p := ⟨w.heap.size + 1 + 1, 0, none⟩) (by show g ≠ w.heap.size + 1 + 1; omega) _) _, 0, cap, ?_, hcap, hcells⟩
      have h_ := blk_new ((w1.setCell ⟨w.heap.size + 1, 0, none⟩ (.int .i64 bad)).setCell ⟨w.heap.size + 1 + 1, 0, none⟩ (.int .i64 at_)) (.cells #[.slice (some ⟨g, 0, none⟩) toks.length cap, .int .i64 0] 63)
      simpa [World.setCell] using h_)
    have HM := Aside0.mk f4_
    have HS := Aside0.mk (show ((w1.setCell ⟨w.heap.size + 1, 0, none⟩ (.int .i64 bad)).setCell ⟨w.heap.size + 1 + 1, 0, none⟩ (.int .i64 at_)).heap.size = w1.heap.size by simp [World.setCell])
    have HR2 := Aside0.mk (show R = parseR (policyP toks) from HR.out.trans (if_pos hbad))
    clear f1_ f2_ f3_ f4_ hcap hgk hcells hbad
    go_wp2_with fail
    clear c1 c2 z1 z2
    obtain ⟨W2, hW2⟩ : ∃ W2, W2 = (w1.setCell ⟨w.heap.size + 1, 0, none⟩ (.int .i64 bad)).setCell ⟨w.heap.size + 1 + 1, 0, none⟩ (.int .i64 at_) := ⟨_, rfl⟩
    rw [← hW2] at U0 U1 U2 UB HP HS ⊢
    clear hW2
    have U0' := Aside0.mk (blk_alloc U0.out (.cells #[.slice (some ⟨g, 0, none⟩) toks.length cap, .int .i64 0] 63))
    have U1' := Aside0.mk (blk_alloc U1.out (.cells #[.slice (some ⟨g, 0, none⟩) toks.length cap, .int .i64 0] 63))
    have U2' := Aside0.mk (blk_alloc U2.out (.cells #[.slice (some ⟨g, 0, none⟩) toks.length cap, .int .i64 0] 63))
    have UB' := Aside0.mk (UB.out.alloc (by rw [HS.out]; omega) (.cells #[.slice (some ⟨g, 0, none⟩) toks.length cap, .int .i64 0] 63))
    have hS3 : w1.heap.size + 1 = (W2.alloc (.cells #[.slice (some ⟨g, 0, none⟩) toks.length cap, .int .i64 0] 63)).heap.size := by rw [World.size_alloc, HS.out]
    obtain ⟨W3, hW3⟩ : ∃ W3, W3 = W2.alloc (.cells #[.slice (some ⟨g, 0, none⟩) toks.length cap, .int .i64 0] 63) := ⟨_, rfl⟩
    rw [← hW3] at U0' U1' U2' UB' HP hS3 ⊢
    have HS3 := Aside0.mk hS3
    clear hW3 U0 U1 U2 UB hS3
    go_at_call 30
    refine (policy_any _ HM.out HP.out).mono ?_
    intro e w4 hp4
    have keep : ∀ {k : Nat} {o : Obj}, k < w.heap.size + 3 → W3.heap[k]? = some o → W3.grownBy w4 (some w1.heap.size) → w4.heap[k]? = some o := fun hk h hg => blk_grown h hg (by intro e; have := Option.some.inj e; omega)
    cases hr4 : policyP toks with
    | error x =>
      obtain ⟨bad', at'⟩ := x
      obtain ⟨hg, rfl⟩ := hp4.err hr4
      have HQ0 := Aside0.mk (keep (by omega) U0'.out hg)
      have HQ1 := Aside0.mk (keep (by omega) U1'.out hg)
      have HQ2 := Aside0.mk (keep (by omega) U2'.out hg)
      have HQB := Aside0.mk (show Below w.heap.size w w4 from ⟨hg.os.trans UB'.out.os, hg.tape.trans UB'.out.tape, hg.output.trans UB'.out.output, Nat.le_trans UB'.out.size hg.size, fun k hk => (hg.block k (Nat.lt_of_lt_of_le hk UB'.out.size) (by intro e; have := Option.some.inj e; omega)).trans (UB'.out.block k hk)⟩)
      clear hp4 hg keep
      go_wp2_with fail
      refine leaves_cons (f := 28) (args := #[.pointer (some ⟨w.heap.size, 0, none⟩), .pointer (some ⟨w.heap.size + 1, 0, none⟩), .pointer (some ⟨w.heap.size + 1 + 1, 0, none⟩)]) (by simp) (by simp [go_sem]) ?_
      refine (catch_stop w.heap.size bad' at' bad at_ _ _ _ _ [] w4 HQ0.out HQ1.out HQ2.out).mono ?_
      rintro e u' X ⟨rfl, rfl, hb, V0, V1, V2⟩
      have d0 : X.cell? ⟨w.heap.size, 0, none⟩ = some (.string ⟨#[]⟩) := blk_cell V0 0
      have d1 : X.cell? ⟨w.heap.size, 1, none⟩ = some (.string ⟨#[]⟩) := blk_cell V0 1
      have d2 : X.cell? ⟨w.heap.size, 2, none⟩ = some (.int .u64 0) := blk_cell V0 2
      have d3 : X.cell? ⟨w.heap.size, 3, none⟩ = some (.slice none 0 0) := blk_cell V0 3
      have d4 : X.cell? ⟨w.heap.size + 1, 0, none⟩ = some (.int .i64 bad') := blk_cell V1 0
      have d5 : X.cell? ⟨w.heap.size + 1 + 1, 0, none⟩ = some (.int .i64 at') := blk_cell V2 0
      have hR3 : R = parseR (.error (bad', at')) := HR2.out.trans (by rw [hr4])
      rw [hR3]
      exact ⟨.tuple #[.agg #[.string ⟨#[]⟩, .string ⟨#[]⟩, .int .u64 0, .slice none 0 0], .int .i64 bad', .int .i64 at'], by simp [results, Tryz.results15, go_sem, d0, d1, d2, d3, d4, d5], _, rfl, Kd.R_nil _ _ _ _ _, HQB.out.trans hb⟩
    | ok x =>
      obtain ⟨pl, l4⟩ := x
      obtain ⟨hg, ⟨v, rfl, ⟨rv, rfl, hrv⟩⟩, hP4⟩ := hp4.ok hr4
      have HQ0 := Aside0.mk (keep (by omega) U0'.out hg)
      have HQ1 := Aside0.mk (keep (by omega) U1'.out hg)
      have HQ2 := Aside0.mk (keep (by omega) U2'.out hg)
      have HQB := Aside0.mk (show Below w.heap.size w w4 from ⟨hg.os.trans UB'.out.os, hg.tape.trans UB'.out.tape, hg.output.trans UB'.out.output, Nat.le_trans UB'.out.size hg.size, fun k hk => (hg.block k (Nat.lt_of_lt_of_le hk UB'.out.size) (by intro e; have := Option.some.inj e; omega)).trans (UB'.out.block k hk)⟩)
      have HRV := Aside0.mk (show Kd.R k47 47 w4 (w.heap.size + 3) (fun _ => True) rv pl.f3 from Kd.R_lower (Kd.R_mono (Kd.R_bound hrv) (fun k hk => trivial)) (by rw [← HS3.out]; omega))
      clear hp4 hg keep hrv hP4
      obtain ⟨Ar, cr, er⟩ := Kd.R_slice HRV.out
      subst er
      have b0 : w4.cell? ⟨w.heap.size, 0, none⟩ = some (.string ⟨#[]⟩) := blk_cell HQ0.out 0
      have b1 : w4.cell? ⟨w.heap.size, 1, none⟩ = some (.string ⟨#[]⟩) := blk_cell HQ0.out 1
      have b2 : w4.cell? ⟨w.heap.size, 2, none⟩ = some (.int .u64 0) := blk_cell HQ0.out 2
      have b3 : w4.cell? ⟨w.heap.size, 3, none⟩ = some (.slice none 0 0) := blk_cell HQ0.out 3
      have y0 := blk_frozen HQ0.out 0
      have y1 := blk_frozen HQ0.out 1
      have y2 := blk_frozen HQ0.out 2
      have y3 := blk_frozen HQ0.out 3
      have c1 : w4.cell? ⟨w.heap.size + 1, 0, none⟩ = some (.int .i64 bad) := blk_cell HQ1.out 0
      have c2 : w4.cell? ⟨w.heap.size + 1 + 1, 0, none⟩ = some (.int .i64 at_) := blk_cell HQ2.out 0
      have z1 := blk_frozen HQ1.out 0
      have z2 := blk_frozen HQ2.out 0
      go_wp2_with fail
      clear b0 b1 b2 b3 y0 y1 y2 y3 c1 c2 z1 z2
      have m01 : w.heap.size ≠ w.heap.size + 1 := by omega
      have m02 : w.heap.size ≠ w.heap.size + 1 + 1 := by omega
      have m10 : w.heap.size + 1 ≠ w.heap.size := by omega
      have m12 : w.heap.size + 1 ≠ w.heap.size + 1 + 1 := by omega
      have m20 : w.heap.size + 1 + 1 ≠ w.heap.size := by omega
      have m21 : w.heap.size + 1 + 1 ≠ w.heap.size + 1 := by omega
      have g1 := blk_put (cs' := #[.string pl.f0, .string ⟨#[]⟩, .int .u64 0, .slice none 0 0]) HQ0.out 0 (.string pl.f0) rfl
      have g2 := blk_put (cs' := #[.string pl.f0, .string pl.f1, .int .u64 0, .slice none 0 0]) g1 1 (.string pl.f1) rfl
      have g3 := blk_put (cs' := #[.string pl.f0, .string pl.f1, .int .u64 pl.f2, .slice none 0 0]) g2 2 (.int .u64 pl.f2) rfl
      have g4 := blk_put (cs' := #[.string pl.f0, .string pl.f1, .int .u64 pl.f2, .slice Ar pl.f3.length cr]) g3 3 (.slice Ar pl.f3.length cr) rfl
      have g5 := blk_far g4 (p := ⟨w.heap.size + 1, 0, none⟩) m01 (.int .i64 0)
      have g6 := blk_far g5 (p := ⟨w.heap.size + 1 + 1, 0, none⟩) m02 (.int .i64 0)
      have k1 := blk_far HQ1.out (p := ⟨w.heap.size, 0, none⟩) m10 (.string pl.f0)
      have k2 := blk_far k1 (p := ⟨w.heap.size, 1, none⟩) m10 (.string pl.f1)
      have k3 := blk_far k2 (p := ⟨w.heap.size, 2, none⟩) m10 (.int .u64 pl.f2)
      have k4 := blk_far k3 (p := ⟨w.heap.size, 3, none⟩) m10 (.slice Ar pl.f3.length cr)
      have k5 := blk_put (cs' := #[.int .i64 0]) k4 0 (.int .i64 0) rfl
      have k6 := blk_far k5 (p := ⟨w.heap.size + 1 + 1, 0, none⟩) m12 (.int .i64 0)
      have j1 := blk_far HQ2.out (p := ⟨w.heap.size, 0, none⟩) m20 (.string pl.f0)
      have j2 := blk_far j1 (p := ⟨w.heap.size, 1, none⟩) m20 (.string pl.f1)
      have j3 := blk_far j2 (p := ⟨w.heap.size, 2, none⟩) m20 (.int .u64 pl.f2)
      have j4 := blk_far j3 (p := ⟨w.heap.size, 3, none⟩) m20 (.slice Ar pl.f3.length cr)
      have j5 := blk_far j4 (p := ⟨w.heap.size + 1, 0, none⟩) m21 (.int .i64 0)
      have j6 := blk_put (cs' := #[.int .i64 0]) j5 0 (.int .i64 0) rfl
      have qB := (((((HQB.out.setCell (p := ⟨w.heap.size, 0, none⟩) (Nat.le_refl _) (.string pl.f0)).setCell (p := ⟨w.heap.size, 1, none⟩) (Nat.le_refl _) (.string pl.f1)).setCell (p := ⟨w.heap.size, 2, none⟩) (Nat.le_refl _) (.int .u64 pl.f2)).setCell (p := ⟨w.heap.size, 3, none⟩) (Nat.le_refl _) (.slice Ar pl.f3.length cr)).setCell (p := ⟨w.heap.size + 1, 0, none⟩) (by show w.heap.size ≤ w.heap.size + 1; omega) (.int .i64 0)).setCell (p := ⟨w.heap.size + 1 + 1, 0, none⟩) (by show w.heap.size ≤ w.heap.size + 1 + 1; omega) (.int .i64 0)
      have far : ∀ {α : Type} {d : Kd α} {e : Nat} {v : Value} {xs : List α} {W : World} (c : Nat) (j : Nat) (u : Value), c < w.heap.size + 3 → d.R e W (w.heap.size + 3) (fun _ => True) v xs → d.R e (W.setCell ⟨c, j, none⟩ u) (w.heap.size + 3) (fun _ => True) v xs := fun c j u hc h => Kd.R_mono (Kd.R_far (Kd.R_bound h) (p := ⟨c, j, none⟩) (fun k hk => by have := hk.2.1; show k ≠ c; omega) u) (fun _ hk => hk.1)
      have qR := far (w.heap.size + 1 + 1) 0 (.int .i64 0) (by omega) (far (w.heap.size + 1) 0 (.int .i64 0) (by omega) (far w.heap.size 3 (.slice Ar pl.f3.length cr) (by omega) (far w.heap.size 2 (.int .u64 pl.f2) (by omega) (far w.heap.size 1 (.string pl.f1) (by omega) (far w.heap.size 0 (.string pl.f0) (by omega) HRV.out)))))
      clear g1 g2 g3 g4 g5 k1 k2 k3 k4 k5 j1 j2 j3 j4 j5 far
      have V0 := Aside0.mk g6
      have V1 := Aside0.mk k6
      have V2 := Aside0.mk j6
      have VB := Aside0.mk qB
      have VR := Aside0.mk qR
      clear g6 k6 j6 qB qR
      obtain ⟨X, hX⟩ : ∃ X, X = ((((((w4.setCell ⟨w.heap.size, 0, none⟩ (.string pl.f0)).setCell ⟨w.heap.size, 1, none⟩ (.string pl.f1)).setCell ⟨w.heap.size, 2, none⟩ (.int .u64 pl.f2)).setCell ⟨w.heap.size, 3, none⟩ (.slice Ar pl.f3.length cr)).setCell ⟨w.heap.size + 1, 0, none⟩ (.int .i64 0)).setCell ⟨w.heap.size + 1 + 1, 0, none⟩ (.int .i64 0)) := ⟨_, rfl⟩
      rw [← hX] at V0 V1 V2 VB VR ⊢
      clear hX
      refine leaves_cons (f := 28) (args := #[.pointer (some ⟨w.heap.size, 0, none⟩), .pointer (some ⟨w.heap.size + 1, 0, none⟩), .pointer (some ⟨w.heap.size + 1 + 1, 0, none⟩)]) (by simp) (by simp [go_sem]) ?_
      refine (catch_idle _ _ _ _).mono ?_
      rintro e u' w'' ⟨rfl, rfl, hXX⟩
      rw [hXX]
      clear hXX
      have V0 := V0.out
      have V1 := V1.out
      have V2 := V2.out
      have d0 : X.cell? ⟨w.heap.size, 0, none⟩ = some (.string pl.f0) := blk_cell V0 0
      have d1 : X.cell? ⟨w.heap.size, 1, none⟩ = some (.string pl.f1) := blk_cell V0 1
      have d2 : X.cell? ⟨w.heap.size, 2, none⟩ = some (.int .u64 pl.f2) := blk_cell V0 2
      have d3 : X.cell? ⟨w.heap.size, 3, none⟩ = some (.slice Ar pl.f3.length cr) := blk_cell V0 3
      have d4 : X.cell? ⟨w.heap.size + 1, 0, none⟩ = some (.int .i64 0) := blk_cell V1 0
      have d5 : X.cell? ⟨w.heap.size + 1 + 1, 0, none⟩ = some (.int .i64 0) := blk_cell V2 0
      have hR3 : R = parseR (.ok (pl, l4)) := HR2.out.trans (by rw [hr4])
      rw [hR3]
      exact ⟨.tuple #[.agg #[.string pl.f0, .string pl.f1, .int .u64 pl.f2, .slice Ar pl.f3.length cr], .int .i64 0, .int .i64 0], by simp [results, Tryz.results15, go_sem, d0, d1, d2, d3, d4, d5], _, rfl, Kd.R_lower VR.out (by omega), VB.out⟩

end Go.Proofs.YtdfjjimmnbijmaaGreatDoor.ZQ

import Derived.Test.YtdfjjimmnbijmaaDoorPPa
namespace Go.Proofs.YtdfjjimmnbijmaaDoor.PP
open Go.RowKit Go.Proofs.YtdfjjimmnbijmaaDoorW.PrintWords Go.Proofs.YtdfjjimmnbijmaaDoorW.PrintLast Go.Proofs.YtdfjjimmnbijmaaDoorW.PrintMore Go.Proofs.YtdfjjimmnbijmaaDoor.Base
attribute [local go_sem] max2_int min2_int max_two min_two max_three min_three max_four min_four
set_option linter.unusedVariables false
set_option linter.unusedSimpArgs false
/-- Any text, if none is named; else one of these. -/
def anyT (xs : List ByteArray) (s : ByteArray) : Bool := xs.isEmpty || Lib.containsS xs s
def takeP (k : Int) (xs : List ByteArray) (l : List S34) : Except (Int × Int) (ByteArray × List S34) :=
  if ((hd l).f0 == k && anyT xs (hd l).f1) = true then .ok ((hd l).f1, l.tail) else .error (61, (hd l).f2)
/-- A row of texts. -/
def Txts (w : World) (tv : Value) (xs : List ByteArray) : Prop := (tv = .slice none 0 0 ∧ xs = []) ∨ ∃ xb c : Nat, tv = .slice (some ⟨xb, 0, none⟩) xs.length c ∧ xs ≠ [] ∧ xb < w.heap.size ∧ xs.length ≤ 1000 ∧ ∀ j, j < xs.length → w.cell? ⟨xb, 0 + j, none⟩ = some (.string (xs.getD j ByteArray.empty))
theorem Txts.grown {w w' : World} {tv : Value} {xs : List ByteArray} (h : Txts w tv xs) (hg : Below w.heap.size w w') : Txts w' tv xs := by
  rcases h with h | ⟨xb, c, h1, h2, h3, h5, h4⟩
  · exact Or.inl h
  · exact Or.inr ⟨xb, c, h1, h2, Nat.lt_of_lt_of_le h3 hg.size, h5, fun j hj => pw_cell_below hg (h4 j hj)⟩
theorem tail_fin {t : S34} {r : List S34} (h : (((t :: r).getLast?).map (·.f0)) = some 0) (h0 : t.f0 ≠ 0) : r ≠ [] ∧ (r.getLast?).map (·.f0) = some 0 := by
  cases r with
  | nil =>
    simp at h
    exact absurd h h0
  | cons x y => exact ⟨by simp, by rw [← h]; rfl⟩
theorem grown_refl (w : World) (row : Option Nat) : w.grownBy w row := ⟨rfl, rfl, rfl, Nat.le_refl _, fun _ _ _ => rfl⟩
theorem grown_trans {w w1 w2 : World} {row : Option Nat} (h : w.grownBy w1 row) (k : w1.grownBy w2 row) : w.grownBy w2 row :=
  ⟨k.os.trans h.os, k.tape.trans h.tape, k.output.trans h.output, Nat.le_trans h.size k.size, fun i hi hr => (k.block i (Nat.lt_of_lt_of_le hi h.size) hr).trans (h.block i hi hr)⟩
theorem grown_set {w w1 : World} {b : Nat} (h : w.grownBy w1 (some b)) (j : Nat) (u : Value) : w.grownBy (w1.setCell ⟨b, j, none⟩ u) (some b) :=
  ⟨h.os, h.tape, h.output, by simpa [World.setCell] using h.size, fun i hi hr => (Below.heap_setCell w1 ⟨b, j, none⟩ u i (fun e => hr (by rw [e]))).trans (h.block i hi hr)⟩
/-- The parser behind a token that it has read. -/
theorem PInv.tail {w : World} {b tb : Nat} {cs : Array Value} {l : List S34} {deep : Nat} (h : PInv w b tb cs l deep) (h0 : (hd l).f0 ≠ 0) : ∃ off cap : Nat, w.cell? ⟨b, 0, none⟩ = some (.slice (some ⟨tb, off, none⟩) l.length cap) ∧ 2 ≤ l.length ∧ l.length ≤ cap ∧ w.frozen? ⟨b, 0, none⟩ = false ∧ PInv (w.setCell ⟨b, 0, none⟩ (.slice (some ⟨tb, off + 3, none⟩) (l.length - 1) (cap - 1))) b tb cs l.tail deep := by
  obtain ⟨h1, h2, hf, hs, ⟨w0, b1, b2, b3⟩, h3, off, cap, h4, h5, h6⟩ := h
  cases l with
  | nil => exact absurd rfl h2
  | cons t r =>
    obtain ⟨g1, g2⟩ := tail_fin hf h0
    have hlen : 1 ≤ r.length := List.length_pos_iff.2 g1
    refine ⟨off, cap, blk_cell h4 0, by simp; omega, h5, blk_frozen h4 0, h1, g1, g2, fun x hx => hs x (List.mem_cons_of_mem _ hx), ⟨w0, b1, b2, b3.setCell b2 _⟩, (Below.heap_setCell _ _ _ _ h1.symm).trans h3, off + 3, cap - 1, ?_, by simp at h5 ⊢; omega, ?_⟩
    · rw [heap_setCell_same _ _ _ _ _ _ h4]; rfl
    · intro j x hj
      have h7 := h6 (j + 1) x hj
      rw [show off + (j + 1) * 3 = off + 3 + j * 3 by omega] at h7
      exact h7
theorem sl1 (W : World) (tb off n cap : Nat) (h : 2 ≤ n) (h2 : n ≤ cap) : (Instr.slice 23 (.slice (some ⟨tb, off, none⟩) n cap) (some (.int .i64 1)) none none).run Tryd.prog W = .ok (.slice (some ⟨tb, off + 3, none⟩) (n - 1) (cap - 1)) W := by
  have h3 : ¬ cap = 1 := by omega
  have h4 : (1 : Int) ≤ (n : Int) := by omega
  go_simp
set_option maxHeartbeats 6400000 in
set_option maxRecDepth 100000 in
theorem take_any {b tb : Nat} {cs : Array Value} {l : List S34} {deep : Nat} (k : Int) (hk : k ≠ 0) (tv : Value) (xs : List ByteArray) (w : World) (h : PInv w b tb cs l deep) (ht : Txts w tv xs) :
    Calls Tryd.prog 76 #[.pointer (some ⟨b, 0, none⟩), .int .i64 k, tv] w fun e w' => w.grownBy w' (some b) ∧ match takeP k xs l with
      | .ok (s, l') => e = .returned (.string s) ∧ PInv w' b tb cs l' deep
      | .error (bad, at_) => e = .panicked [stopV bad at_] := by
  have HI := Aside0.mk h
  have HT := Aside0.mk ht
  obtain ⟨t, ht_⟩ : ∃ t, t = hd l := ⟨_, rfl⟩
  have hn : ∀ w, PInv w b tb cs l deep → Calls Tryd.prog 113 #[.pointer (some ⟨b, 0, none⟩)] w fun e w' => e = .returned (.agg #[.int .i64 t.f0, .string t.f1, .int .i64 t.f2]) ∧ Below w.heap.size w w' := fun w h => ht_ ▸ next_any w h
  have hfl : ∀ w, PInv w b tb cs l deep → Calls Tryd.prog 115 #[.pointer (some ⟨b, 0, none⟩), .int .i64 61] w fun e w' => e = .panicked [stopV 61 t.f2] ∧ Below w.heap.size w w' := fun w h => ht_ ▸ fail_any 61 w h
  have HN := Aside0.mk hn
  have HF := Aside0.mk hfl
  have bad : ((t.f0 == k) && anyT xs t.f1) = false → takeP k xs l = .error (61, t.f2) := fun e => by
    unfold takeP; rw [← ht_, e]; rfl
  have good : ((t.f0 == k) && anyT xs t.f1) = true → takeP k xs l = .ok (t.f1, l.tail) := fun e => by
    unfold takeP; rw [← ht_, e]; rfl
  have k0 : (k != 0) = true := by simpa using hk
  by_cases e1 : (t.f0 != k) = true
  · have e1' : (t.f0 == k) = false := by simpa [bne] using e1
    rw [bad (by rw [e1']; rfl)]
    clear bad good ht_ hn hfl h ht
    go_enter Tryd.func76, Tryd.ntmps76
    go_wp2_with (first | (go_at_call 113; refine (HN.out _ HI.out).mono ?_; rintro e w1 ⟨rfl, hb⟩) | (go_at_call 115; refine (HF.out _ (HI.out.grown (hb.alloc hb.size _))).mono ?_; rintro e w2 ⟨rfl, hb2⟩))
    exact ⟨rfl, grown_of_below ((hb.alloc hb.size _).trans (hb2.mono (Nat.le_trans hb.size (by simp)))) _, rfl⟩
  · have e1' : (t.f0 == k) = true := by simpa [bne] using e1
    have e1n : (t.f0 != k) = false := by simpa [bne] using e1
    have ht0 : (hd l).f0 ≠ 0 := by rw [← ht_, beq_iff_eq.1 e1']; exact hk
    rw [e1', Bool.true_and] at bad good
    -- what is asked behind the test: the token's text is passed, and the row moves on
    have HTL := Aside0.mk (fun (w : World) (h : PInv w b tb cs l deep) => h.tail ht0)
    rcases ht with ⟨rfl, rfl⟩ | ⟨xb, c, rfl, hx1, hx2, hx3, hx4⟩
    · rw [good rfl]
      clear bad good ht_ hn hfl ht0
      clear h
      go_enter Tryd.func76, Tryd.ntmps76
      go_wp2_with fail
      go_at_call 113
      refine (HN.out _ HI.out).mono ?_
      rintro e w1 ⟨rfl, hb⟩
      have hb1 := hb.alloc hb.size (.cells #[.int .i64 t.f0, .string t.f1, .int .i64 t.f2] 34)
      obtain ⟨off, cap, hc, hl2, hlc, hz, hT⟩ := HTL.out _ (HI.out.grown hb1)
      have HB1 := Aside0.mk hb1
      have HT2 := Aside0.mk hT
      have hs := fun W => sl1 W tb off l.length cap hl2 hlc
      have hbs : ¬ w1.heap.size = b := fun e => by
        obtain ⟨o_, c_, h_, _⟩ := HI.out.at0
        have := World.block_lt_of_cell? _ _ h_
        have := hb.size
        simp at *; omega
      clear hb1 hT hb hl2 hlc
      go_wp2_with fail
      go_ret
      exact ⟨grown_set (grown_of_below HB1.out (some b)) 0 _, rfl, HT2.out⟩
    · have hemp : ¬ xs.isEmpty = true := by cases xs with | nil => exact absurd rfl hx1 | cons x y => simp
      have hany : anyT xs t.f1 = Lib.containsS xs t.f1 := by
        unfold anyT
        cases hq : xs.isEmpty with
        | true => exact absurd hq hemp
        | false => rfl
      rw [hany] at bad good
      have hlen : 0 < xs.length := List.length_pos_iff.2 hx1
      have hC : ∀ w1, Below w.heap.size w w1 → Calls Tryd.prog 114 #[.slice (some ⟨xb, 0, none⟩) xs.length c, .string t.f1] w1 fun e w' => e = .returned (.bool (Lib.containsS xs t.f1)) ∧ w' = w1 := by
        intro w1 hb
        have := Tryd.slices_Contains_string xb 0 xs.length c xs t.f1 w1 (Nat.le_refl _) (by omega) (fun j hj => pw_cell_below hb (hx4 j hj))
        rwa [List.take_length] at this
      have HC := Aside0.mk hC
      have p1 : ((xs.length : Int) > 0) = True := eq_true (by omega)
      have p2 : decide ((xs.length : Int) > 0) = true := decide_eq_true (by omega)
      have p3 : (0 < (xs.length : Int)) = True := eq_true (by omega)
      have p4 : decide (0 < (xs.length : Int)) = true := decide_eq_true (by omega)
      cases hcs : Lib.containsS xs t.f1 with
      | true =>
        rw [good hcs]
        rw [hcs] at HC
        clear bad good ht_ hn hfl ht0 h hC hany hemp hx1 hx2 hx3 hx4 p1 p2 p3 p4
        go_enter Tryd.func76, Tryd.ntmps76
        go_wp2_with fail
        go_at_call 113
        refine (HN.out _ HI.out).mono ?_
        rintro e w1 ⟨rfl, hb⟩
        have hb1 := hb.alloc hb.size (.cells #[.int .i64 t.f0, .string t.f1, .int .i64 t.f2] 34)
        obtain ⟨off, cap, hc, hl2, hlc, hz, hT⟩ := HTL.out _ (HI.out.grown hb1)
        have HB1 := Aside0.mk hb1
        have HT2 := Aside0.mk hT
        have hs := fun W => sl1 W tb off l.length cap hl2 hlc
        have hbs : ¬ w1.heap.size = b := fun e => by
          obtain ⟨o_, c_, h_, _⟩ := HI.out.at0
          have := World.block_lt_of_cell? _ _ h_
          have := hb.size
          simp at *; omega
        clear hb1 hT hb hl2 hlc
        go_wp2_with fail
        go_at_call 114
        refine (HC.out _ HB1.out).mono ?_
        rintro e w2 ⟨rfl, rfl⟩
        go_wp2_with fail
        go_ret
        exact ⟨grown_set (grown_of_below HB1.out (some b)) 0 _, rfl, HT2.out⟩
      | false =>
        rw [bad hcs]
        rw [hcs] at HC
        clear bad good ht_ hn hfl ht0 h hC hany hemp hx1 hx2 hx3 hx4 p1 p2 p3 p4
        go_enter Tryd.func76, Tryd.ntmps76
        go_wp2_with fail
        go_at_call 113
        refine (HN.out _ HI.out).mono ?_
        rintro e w1 ⟨rfl, hb⟩
        have hb1 := hb.alloc hb.size (.cells #[.int .i64 t.f0, .string t.f1, .int .i64 t.f2] 34)
        obtain ⟨off, cap, hc, hl2, hlc, hz, hT⟩ := HTL.out _ (HI.out.grown hb1)
        have HB1 := Aside0.mk hb1
        have HT2 := Aside0.mk hT
        have hs := fun W => sl1 W tb off l.length cap hl2 hlc
        have hbs : ¬ w1.heap.size = b := fun e => by
          obtain ⟨o_, c_, h_, _⟩ := HI.out.at0
          have := World.block_lt_of_cell? _ _ h_
          have := hb.size
          simp at *; omega
        clear hb1 hT hb hl2 hlc
        go_wp2_with fail
        go_at_call 114
        refine (HC.out _ HB1.out).mono ?_
        rintro e w2 ⟨rfl, rfl⟩
        go_wp2_with fail
        go_at_call 115
        refine (HF.out _ (HI.out.grown HB1.out)).mono ?_
        rintro e w2 ⟨rfl, hb2⟩
        go_wp2_with fail
        exact ⟨rfl, grown_of_below (HB1.out.trans (hb2.mono (Nat.le_trans HB1.out.size (Nat.le_refl _)))) _, rfl⟩

end Go.Proofs.YtdfjjimmnbijmaaDoor.PP

import Derived.Test.YtdfjjimmnbijmaaGreatDoorZQ11
import Derived.Defers
import Derived.Recover
import Derived.WalkLawsBesides
namespace Go.Proofs.YtdfjjimmnbijmaaGreatDoor.ZQ
open Go.RowKit Go.Proofs.YtdfjjimmnbijmaaGreatDoorW.PrintWords Go.Proofs.YtdfjjimmnbijmaaGreatDoorW.PrintLast Go.Proofs.YtdfjjimmnbijmaaGreatDoorW.PrintMore Go.Proofs.YtdfjjimmnbijmaaGreatDoor.Base
attribute [local go_sem] max2_int min2_int max_two min_two max_three min_three max_four min_four
set_option linter.unusedVariables false
set_option linter.unusedSimpArgs false
/-! ### the parser: its state in memory -/
def hd (l : List S74) : S74 := l.headD z74
def ppA (b : Nat) : Value := .pointer (some ⟨b, 0, none⟩)
structure PInv (w : World) (b tb : Nat) (cs : Array Value) (l : List S74) (deep : Nat) : Prop where
  ne : b ≠ tb
  pos : l ≠ []
  fin : (l.getLast?).map (·.f0) = some 0
  sz : ∀ t ∈ l, t.f1.size ≤ 1000000
  base : ∃ w0, LaidAt w0 ∧ w0.heap.size ≤ b ∧ Below w0.heap.size w0 w
  tk : w.heap[tb]? = some (.cells cs 74 (0, 0))
  ps : ∃ off cap : Nat, w.heap[b]? = some (.cells #[.slice (some ⟨tb, off, none⟩) l.length cap, .int .i64 deep] 63 (0, 0)) ∧ l.length ≤ cap ∧ ∀ (j : Nat) (t : S74), l[j]? = some t → cs[off + j * 3]? = some (.int .i64 t.f0) ∧ cs[off + j * 3 + 1]? = some (.string t.f1) ∧ cs[off + j * 3 + 2]? = some (.int .i64 t.f2)
theorem PInv.grown {w w' : World} {b tb : Nat} {cs : Array Value} {l : List S74} {deep : Nat} (h : PInv w b tb cs l deep) (hg : Below w.heap.size w w') : PInv w' b tb cs l deep := by
  obtain ⟨h1, h2, hf, hs, ⟨w0, b1, b2, b3⟩, h3, off, cap, h4, h5⟩ := h
  exact ⟨h1, h2, hf, hs, ⟨w0, b1, b2, b3.trans (hg.mono b3.size)⟩, blk_below h3 hg, off, cap, blk_below h4 hg, h5⟩
theorem PInv.laid {w : World} {b tb : Nat} {cs : Array Value} {l : List S74} {deep : Nat} (h : PInv w b tb cs l deep) : LaidAt w := by
  obtain ⟨w0, b1, b2, b3⟩ := h.base
  exact b1.of b3
theorem PInv.at0 {w : World} {b tb : Nat} {cs : Array Value} {l : List S74} {deep : Nat} (h : PInv w b tb cs l deep) : ∃ off cap : Nat, w.cell? ⟨b, 0, none⟩ = some (.slice (some ⟨tb, off, none⟩) l.length cap) ∧ 1 ≤ l.length ∧ l.length ≤ cap ∧
    w.cell? ⟨tb, off, none⟩ = some (.int .i64 (hd l).f0) ∧ w.cell? ⟨tb, off + 1, none⟩ = some (.string (hd l).f1) ∧ w.cell? ⟨tb, off + 2, none⟩ = some (.int .i64 (hd l).f2) := by
  obtain ⟨h1, h2, hf, hs, hbs, h3, off, cap, h4, h5, h6⟩ := h
  cases l with
  | nil => exact absurd rfl h2
  | cons t r =>
    have h7 := h6 0 t rfl
    simp only [Nat.zero_mul, Nat.add_zero] at h7
    exact ⟨off, cap, blk_cell h4 0, by simp, h5, (blk_cell h3 _).trans h7.1, (blk_cell h3 _).trans h7.2.1, (blk_cell h3 _).trans h7.2.2⟩
theorem PInv.al {w : World} {b tb : Nat} {cs : Array Value} {l : List S74} {deep : Nat} (h : PInv w b tb cs l deep) (o : Obj) : PInv (w.alloc o) b tb cs l deep := h.grown ((Below.refl _ _).alloc (Nat.le_refl _) o)
theorem PInv.at1 {w : World} {b tb : Nat} {cs : Array Value} {l : List S74} {deep : Nat} (h : PInv w b tb cs l deep) : ∃ off cap : Nat, (∀ o, (w.alloc o).cell? ⟨b, 0, none⟩ = some (.slice (some ⟨tb, off, none⟩) l.length cap)) ∧ 1 ≤ l.length ∧ l.length ≤ cap ∧
    (∀ o, (w.alloc o).cell? ⟨tb, off, none⟩ = some (.int .i64 (hd l).f0)) ∧ (∀ o, (w.alloc o).cell? ⟨tb, off + 1, none⟩ = some (.string (hd l).f1)) ∧ (∀ o, (w.alloc o).cell? ⟨tb, off + 2, none⟩ = some (.int .i64 (hd l).f2)) := by
  obtain ⟨off, cap, h0, h1, h2, h3, h4, h5⟩ := h.at0
  have hb : ∀ o, Below w.heap.size w (w.alloc o) := fun o => (Below.refl _ _).alloc (Nat.le_refl _) o
  exact ⟨off, cap, fun o => pw_cell_below (hb o) h0, h1, h2, fun o => pw_cell_below (hb o) h3, fun o => pw_cell_below (hb o) h4, fun o => pw_cell_below (hb o) h5⟩
set_option maxHeartbeats 1600000 in
set_option maxRecDepth 100000 in
theorem next_any {b tb : Nat} {cs : Array Value} {l : List S74} {deep : Nat} (w : World) (h : PInv w b tb cs l deep) :
    Calls Tryz.prog 79 #[.pointer (some ⟨b, 0, none⟩)] w fun e w' => e = .returned (.agg #[.int .i64 (hd l).f0, .string (hd l).f1, .int .i64 (hd l).f2]) ∧ Below w.heap.size w w' := by
  obtain ⟨off, cap, h0, h1, h2, h3, h4, h5⟩ := h.at1
  clear h
  have b1 : ((0 : Int) < (l.length : Int)) = True := eq_true (by omega)
  generalize hd l = t at h3 h4 h5 ⊢
  go_enter Tryz.func79, Tryz.ntmps79
  go_wp2_with fail
  refine bodyPost_ret (v := .agg #[.int .i64 t.f0, .string t.f1, .int .i64 t.f2]) (by simp [results, Tryz.results79, go_sem]) rfl ⟨rfl, ?_⟩
  exact (Below.refl _ _).alloc (Nat.le_refl _) _
def stopV (bad at_ : Int) : PanicEntry := { v := .iface 56 (.agg #[.int .i64 bad, .int .i64 at_]), recovered := false }
set_option maxHeartbeats 1600000 in
set_option maxRecDepth 100000 in
theorem fail_any {b tb : Nat} {cs : Array Value} {l : List S74} {deep : Nat} (bad : Int) (w : World) (h : PInv w b tb cs l deep) :
    Calls Tryz.prog 81 #[.pointer (some ⟨b, 0, none⟩), .int .i64 bad] w fun e w' => e = .panicked [stopV bad (hd l).f2] ∧ Below w.heap.size w w' := by
  have HI := Aside0.mk h
  clear h
  go_enter Tryz.func81, Tryz.ntmps81
  go_wp2_with (go_at_call 79; refine (next_any _ HI.out).mono ?_; rintro e w' ⟨rfl, hb⟩)
  rename_i a0_
  apply a0_
  go_wp2
  exact ⟨rfl, rfl, hb⟩
def isP (k : Int) (x : ByteArray) (l : List S74) : Bool := (hd l).f0 == k && (x.toList.isEmpty || (hd l).f1.toList == x.toList)
set_option maxHeartbeats 3200000 in
set_option maxRecDepth 100000 in
theorem is_any {b tb : Nat} {cs : Array Value} {l : List S74} {deep : Nat} (k : Int) (x : ByteArray) (w : World) (h : PInv w b tb cs l deep) :
    Calls Tryz.prog 58 #[.pointer (some ⟨b, 0, none⟩), .int .i64 k, .string x] w fun e w' => e = .returned (.bool (isP k x l)) ∧ Below w.heap.size w w' := by
  have HI := Aside0.mk h
  clear h
  unfold isP
  obtain ⟨t, ht⟩ : ∃ t, t = hd l := ⟨_, rfl⟩
  have hn : ∀ w, PInv w b tb cs l deep → Calls Tryz.prog 79 #[.pointer (some ⟨b, 0, none⟩)] w fun e w' => e = .returned (.agg #[.int .i64 t.f0, .string t.f1, .int .i64 t.f2]) ∧ Below w.heap.size w w' := fun w h => ht ▸ next_any w h
  rw [← ht]
  have HN := Aside0.mk hn
  clear ht hn
  cases e1 : (t.f0 == k) with
  | false =>
    go_enter Tryz.func58, Tryz.ntmps58
    go_wp2_with (go_at_call 79; refine (HN.out _ HI.out).mono ?_; rintro e w' ⟨rfl, hb⟩)
    go_ret
    exact ⟨rfl, hb.alloc hb.size _⟩
  | true =>
    cases e2 : x.toList.isEmpty with
    | true =>
      go_enter Tryz.func58, Tryz.ntmps58
      go_wp2_with (go_at_call 79; refine (HN.out _ HI.out).mono ?_; rintro e w' ⟨rfl, hb⟩)
      go_ret
      exact ⟨rfl, hb.alloc hb.size _⟩
    | false =>
      go_enter Tryz.func58, Tryz.ntmps58
      go_wp2_with (go_at_call 79; refine (HN.out _ HI.out).mono ?_; rintro e w' ⟨rfl, hb⟩)
      go_ret
      exact ⟨by simp, hb.alloc hb.size _⟩
/-- Any text, if none is named; else one of these. -/
def anyT (xs : List ByteArray) (s : ByteArray) : Bool := xs.isEmpty || Lib.containsS xs s
def takeP (k : Int) (xs : List ByteArray) (l : List S74) : Except (Int × Int) (ByteArray × List S74) :=
  if ((hd l).f0 == k && anyT xs (hd l).f1) = true then .ok ((hd l).f1, l.tail) else .error (61, (hd l).f2)
/-- A row of texts. -/
def Txts (w : World) (tv : Value) (xs : List ByteArray) : Prop := (tv = .slice none 0 0 ∧ xs = []) ∨ ∃ xb c : Nat, tv = .slice (some ⟨xb, 0, none⟩) xs.length c ∧ xs ≠ [] ∧ xb < w.heap.size ∧ xs.length ≤ 1000 ∧ ∀ j, j < xs.length → w.cell? ⟨xb, 0 + j, none⟩ = some (.string (xs.getD j ByteArray.empty))
theorem Txts.grown {w w' : World} {tv : Value} {xs : List ByteArray} (h : Txts w tv xs) (hg : Below w.heap.size w w') : Txts w' tv xs := by
  rcases h with h | ⟨xb, c, h1, h2, h3, h5, h4⟩
  · exact Or.inl h
  · exact Or.inr ⟨xb, c, h1, h2, Nat.lt_of_lt_of_le h3 hg.size, h5, fun j hj => pw_cell_below hg (h4 j hj)⟩
theorem tail_fin {t : S74} {r : List S74} (h : (((t :: r).getLast?).map (·.f0)) = some 0) (h0 : t.f0 ≠ 0) : r ≠ [] ∧ (r.getLast?).map (·.f0) = some 0 := by
  cases r with
  | nil =>
    simp at h
    exact absurd h h0
  | cons x y => exact ⟨by simp, by rw [← h]; rfl⟩
theorem grown_refl (w : World) (row : Option Nat) : w.grownBy w row := ⟨rfl, rfl, rfl, Nat.le_refl _, fun _ _ _ => rfl⟩
theorem grown_trans {w w1 w2 : World} {row : Option Nat} (h : w.grownBy w1 row) (k : w1.grownBy w2 row) : w.grownBy w2 row :=
  ⟨k.os.trans h.os, k.tape.trans h.tape, k.output.trans h.output, Nat.le_trans h.size k.size, fun i hi hr => (k.block i (Nat.lt_of_lt_of_le hi h.size) hr).trans (h.block i hi hr)⟩
theorem grown_set {w w1 : World} {b : Nat} (h : w.grownBy w1 (some b)) (j : Nat) (u : Value) : w.grownBy (w1.setCell ⟨b, j, none⟩ u) (some b) :=
  ⟨h.os, h.tape, h.output, by simpa [World.setCell] using h.size, fun i hi hr => (Below.heap_setCell w1 ⟨b, j, none⟩ u i (fun e => hr (by rw [e]))).trans (h.block i hi hr)⟩
/-- The parser behind a token that it has read. -/
theorem PInv.tail {w : World} {b tb : Nat} {cs : Array Value} {l : List S74} {deep : Nat} (h : PInv w b tb cs l deep) (h0 : (hd l).f0 ≠ 0) : ∃ off cap : Nat, w.cell? ⟨b, 0, none⟩ = some (.slice (some ⟨tb, off, none⟩) l.length cap) ∧ 2 ≤ l.length ∧ l.length ≤ cap ∧ w.frozen? ⟨b, 0, none⟩ = false ∧ PInv (w.setCell ⟨b, 0, none⟩ (.slice (some ⟨tb, off + 3, none⟩) (l.length - 1) (cap - 1))) b tb cs l.tail deep := by
  obtain ⟨h1, h2, hf, hs, ⟨w0, b1, b2, b3⟩, h3, off, cap, h4, h5, h6⟩ := h
  cases l with
  | nil => exact absurd rfl h2
  | cons t r =>
    obtain ⟨g1, g2⟩ := tail_fin hf h0
    have hlen : 1 ≤ r.length := List.length_pos_iff.2 g1
    refine ⟨off, cap, blk_cell h4 0, by simp; omega, h5, blk_frozen h4 0, h1, g1, g2, fun x hx => hs x (List.mem_cons_of_mem _ hx), ⟨w0, b1, b2, b3.setCell b2 _⟩, (Below.heap_setCell _ _ _ _ h1.symm).trans h3, off + 3, cap - 1, ?_, by simp at h5 ⊢; omega, ?_⟩
    · rw [heap_setCell_same _ _ _ _ _ _ h4]; rfl
    · intro j x hj
      have h7 := h6 (j + 1) x hj
      rw [show off + (j + 1) * 3 = off + 3 + j * 3 by omega] at h7
      exact h7
theorem sl1 (W : World) (tb off n cap : Nat) (h : 2 ≤ n) (h2 : n ≤ cap) : (Instr.slice 58 (.slice (some ⟨tb, off, none⟩) n cap) (some (.int .i64 1)) none none).run Tryz.prog W = .ok (.slice (some ⟨tb, off + 3, none⟩) (n - 1) (cap - 1)) W := by
  have h3 : ¬ cap = 1 := by omega
  have h4 : (1 : Int) ≤ (n : Int) := by omega
  go_simp
set_option maxHeartbeats 6400000 in
set_option maxRecDepth 100000 in
theorem take_any {b tb : Nat} {cs : Array Value} {l : List S74} {deep : Nat} (k : Int) (hk : k ≠ 0) (tv : Value) (xs : List ByteArray) (w : World) (h : PInv w b tb cs l deep) (ht : Txts w tv xs) :
    Calls Tryz.prog 54 #[.pointer (some ⟨b, 0, none⟩), .int .i64 k, tv] w fun e w' => w.grownBy w' (some b) ∧ match takeP k xs l with
      | .ok (s, l') => e = .returned (.string s) ∧ PInv w' b tb cs l' deep
      | .error (bad, at_) => e = .panicked [stopV bad at_] := by
  have HI := Aside0.mk h
  have HT := Aside0.mk ht
  obtain ⟨t, ht_⟩ : ∃ t, t = hd l := ⟨_, rfl⟩
  have hn : ∀ w, PInv w b tb cs l deep → Calls Tryz.prog 79 #[.pointer (some ⟨b, 0, none⟩)] w fun e w' => e = .returned (.agg #[.int .i64 t.f0, .string t.f1, .int .i64 t.f2]) ∧ Below w.heap.size w w' := fun w h => ht_ ▸ next_any w h
  have hfl : ∀ w, PInv w b tb cs l deep → Calls Tryz.prog 81 #[.pointer (some ⟨b, 0, none⟩), .int .i64 61] w fun e w' => e = .panicked [stopV 61 t.f2] ∧ Below w.heap.size w w' := fun w h => ht_ ▸ fail_any 61 w h
  have HN := Aside0.mk hn
  have HF := Aside0.mk hfl
  have bad : ((t.f0 == k) && anyT xs t.f1) = false → takeP k xs l = .error (61, t.f2) := fun e => by
    unfold takeP; rw [← ht_, e]; rfl
  have good : ((t.f0 == k) && anyT xs t.f1) = true → takeP k xs l = .ok (t.f1, l.tail) := fun e => by
    unfold takeP; rw [← ht_, e]; rfl
  have k0 : (k != 0) = true := by simpa using hk
  by_cases e1 : (t.f0 != k) = true
  · have e1' : (t.f0 == k) = false := by simpa [bne] using e1
    rw [bad (by rw [e1']; rfl)]
    clear bad good ht_ hn hfl h ht
    go_enter Tryz.func54, Tryz.ntmps54
    go_wp2_with (first | (go_at_call 79; refine (HN.out _ HI.out).mono ?_; rintro e w1 ⟨rfl, hb⟩) | (go_at_call 81; refine (HF.out _ (HI.out.grown (hb.alloc hb.size _))).mono ?_; rintro e w2 ⟨rfl, hb2⟩))
    exact ⟨rfl, grown_of_below ((hb.alloc hb.size _).trans (hb2.mono (Nat.le_trans hb.size (by simp)))) _, rfl⟩
  · have e1' : (t.f0 == k) = true := by simpa [bne] using e1
    have e1n : (t.f0 != k) = false := by simpa [bne] using e1
    have ht0 : (hd l).f0 ≠ 0 := by rw [← ht_, beq_iff_eq.1 e1']; exact hk
    rw [e1', Bool.true_and] at bad good
    -- what is asked behind the test: the token's text is passed, and the row moves on
    have HTL := Aside0.mk (fun (w : World) (h : PInv w b tb cs l deep) => h.tail ht0)
    rcases ht with ⟨rfl, rfl⟩ | ⟨xb, c, rfl, hx1, hx2, hx3, hx4⟩
    · rw [good rfl]
      clear bad good ht_ hn hfl ht0
      clear h
      go_enter Tryz.func54, Tryz.ntmps54
      go_wp2_with fail
      go_at_call 79
      refine (HN.out _ HI.out).mono ?_
      rintro e w1 ⟨rfl, hb⟩
      have hb1 := hb.alloc hb.size (.cells #[.int .i64 t.f0, .string t.f1, .int .i64 t.f2] 74)
      obtain ⟨off, cap, hc, hl2, hlc, hz, hT⟩ := HTL.out _ (HI.out.grown hb1)
      have HB1 := Aside0.mk hb1
      have HT2 := Aside0.mk hT
      have hs := fun W => sl1 W tb off l.length cap hl2 hlc
      have hbs : ¬ w1.heap.size = b := fun e => by
        obtain ⟨o_, c_, h_, _⟩ := HI.out.at0
        have := World.block_lt_of_cell? _ _ h_
        have := hb.size
        simp at *; omega
      clear hb1 hT hb hl2 hlc
      go_wp2_with fail
      go_ret
      exact ⟨grown_set (grown_of_below HB1.out (some b)) 0 _, rfl, HT2.out⟩
    · have hemp : ¬ xs.isEmpty = true := by cases xs with | nil => exact absurd rfl hx1 | cons x y => simp
      have hany : anyT xs t.f1 = Lib.containsS xs t.f1 := by
        unfold anyT
        cases hq : xs.isEmpty with
        | true => exact absurd hq hemp
        | false => rfl
      rw [hany] at bad good
      have hlen : 0 < xs.length := List.length_pos_iff.2 hx1
      have hC : ∀ w1, Below w.heap.size w w1 → Calls Tryz.prog 80 #[.slice (some ⟨xb, 0, none⟩) xs.length c, .string t.f1] w1 fun e w' => e = .returned (.bool (Lib.containsS xs t.f1)) ∧ w' = w1 := by
        intro w1 hb
        have := Tryz.slices_Contains_string xb 0 xs.length c xs t.f1 w1 (Nat.le_refl _) (by omega) (fun j hj => pw_cell_below hb (hx4 j hj))
        rwa [List.take_length] at this
      have HC := Aside0.mk hC
      have p1 : ((xs.length : Int) > 0) = True := eq_true (by omega)
      have p2 : decide ((xs.length : Int) > 0) = true := decide_eq_true (by omega)
      have p3 : (0 < (xs.length : Int)) = True := eq_true (by omega)
      have p4 : decide (0 < (xs.length : Int)) = true := decide_eq_true (by omega)
      cases hcs : Lib.containsS xs t.f1 with
      | true =>
        rw [good hcs]
        rw [hcs] at HC
        clear bad good ht_ hn hfl ht0 h hC hany hemp hx1 hx2 hx3 hx4 p1 p2 p3 p4
        go_enter Tryz.func54, Tryz.ntmps54
        go_wp2_with fail
        go_at_call 79
        refine (HN.out _ HI.out).mono ?_
        rintro e w1 ⟨rfl, hb⟩
        have hb1 := hb.alloc hb.size (.cells #[.int .i64 t.f0, .string t.f1, .int .i64 t.f2] 74)
        obtain ⟨off, cap, hc, hl2, hlc, hz, hT⟩ := HTL.out _ (HI.out.grown hb1)
        have HB1 := Aside0.mk hb1
        have HT2 := Aside0.mk hT
        have hs := fun W => sl1 W tb off l.length cap hl2 hlc
        have hbs : ¬ w1.heap.size = b := fun e => by
          obtain ⟨o_, c_, h_, _⟩ := HI.out.at0
          have := World.block_lt_of_cell? _ _ h_
          have := hb.size
          simp at *; omega
        clear hb1 hT hb hl2 hlc
        go_wp2_with fail
        go_at_call 80
        refine (HC.out _ HB1.out).mono ?_
        rintro e w2 ⟨rfl, rfl⟩
        go_wp2_with fail
        go_ret
        exact ⟨grown_set (grown_of_below HB1.out (some b)) 0 _, rfl, HT2.out⟩
      | false =>
        rw [bad hcs]
        rw [hcs] at HC
        clear bad good ht_ hn hfl ht0 h hC hany hemp hx1 hx2 hx3 hx4 p1 p2 p3 p4
        go_enter Tryz.func54, Tryz.ntmps54
        go_wp2_with fail
        go_at_call 79
        refine (HN.out _ HI.out).mono ?_
        rintro e w1 ⟨rfl, hb⟩
        have hb1 := hb.alloc hb.size (.cells #[.int .i64 t.f0, .string t.f1, .int .i64 t.f2] 74)
        obtain ⟨off, cap, hc, hl2, hlc, hz, hT⟩ := HTL.out _ (HI.out.grown hb1)
        have HB1 := Aside0.mk hb1
        have HT2 := Aside0.mk hT
        have hs := fun W => sl1 W tb off l.length cap hl2 hlc
        have hbs : ¬ w1.heap.size = b := fun e => by
          obtain ⟨o_, c_, h_, _⟩ := HI.out.at0
          have := World.block_lt_of_cell? _ _ h_
          have := hb.size
          simp at *; omega
        clear hb1 hT hb hl2 hlc
        go_wp2_with fail
        go_at_call 80
        refine (HC.out _ HB1.out).mono ?_
        rintro e w2 ⟨rfl, rfl⟩
        go_wp2_with fail
        go_at_call 81
        refine (HF.out _ (HI.out.grown HB1.out)).mono ?_
        rintro e w2 ⟨rfl, hb2⟩
        go_wp2_with fail
        exact ⟨rfl, grown_of_below (HB1.out.trans (hb2.mono (Nat.le_trans HB1.out.size (Nat.le_refl _)))) _, rfl⟩
theorem lit_txts (xs : List ByteArray) (h : xs ≠ []) (hl : xs.length ≤ 1000) (w : World) : Txts (w.alloc (.cells (xs.map Value.string).toArray 9)) (.slice (some ⟨w.heap.size, 0, none⟩) xs.length xs.length) xs := by
  refine Or.inr ⟨w.heap.size, xs.length, rfl, h, by simp, hl, fun j hj => ?_⟩
  rw [blk_cell (heap_alloc_new w _)]
  simp [hj, List.getD_eq_getElem?_getD]
def resL : List ByteArray := [⟨#[105, 102]⟩, ⟨#[97, 110, 100]⟩, ⟨#[111, 114]⟩, ⟨#[110, 111, 116]⟩]
def resS (s : ByteArray) : Bool := Lib.containsS resL s
set_option maxHeartbeats 1600000 in
set_option maxRecDepth 100000 in
theorem res_any (s : ByteArray) (w : World) : Calls Tryz.prog 60 #[.string s] w fun e w' => e = .returned (.bool (resS s)) ∧ Below w.heap.size w w' := by
  have hT := lit_txts resL (by decide) (by decide) w
  have hC : Calls Tryz.prog 80 #[.slice (some ⟨w.heap.size, 0, none⟩) 4 4, .string s] (w.alloc (.cells #[.string ⟨#[105, 102]⟩, .string ⟨#[97, 110, 100]⟩, .string ⟨#[111, 114]⟩, .string ⟨#[110, 111, 116]⟩] 9)) fun e w' => e = .returned (.bool (resS s)) ∧ w' = (w.alloc (.cells #[.string ⟨#[105, 102]⟩, .string ⟨#[97, 110, 100]⟩, .string ⟨#[111, 114]⟩, .string ⟨#[110, 111, 116]⟩] 9)) := by
    rcases hT with ⟨h, _⟩ | ⟨xb, c, h1, h2, h3, h4, h5⟩
    · cases h
    · cases h1
      have := Tryz.slices_Contains_string w.heap.size 0 4 4 resL s _ (by decide) (by decide) h5
      exact this
  have HC := Aside0.mk hC
  clear hC hT
  go_enter Tryz.func60, Tryz.ntmps60
  go_wp2_with fail
  go_at_call 80
  refine HC.out.mono ?_
  rintro e w' ⟨rfl, rfl⟩
  go_wp2_with fail
  go_ret
  exact ⟨rfl, (Below.refl _ _).alloc (Nat.le_refl _) _⟩
def wordP (l : List S74) : Except (Int × Int) (ByteArray × List S74) := if resS (hd l).f1 = true then .error (61, (hd l).f2) else takeP 1 [] l
/-- What a step of the parser leaves: a value, and the parser; or a panic that tells the error and its place. -/
def PPost {α : Type} (w : World) (b tb : Nat) (cs : Array Value) (deep : Nat) (V : α → World → Value → Prop) (r : Except (Int × Int) (α × List S74)) (e : Ending) (w' : World) : Prop :=
  w.grownBy w' (some b) ∧ match r with
    | .ok (x, l') => (∃ v, e = .returned v ∧ V x w' v) ∧ PInv w' b tb cs l' deep
    | .error (bad, at_) => e = .panicked [stopV bad at_]
theorem PPost.ok {α : Type} {w : World} {b tb : Nat} {cs : Array Value} {deep : Nat} {V : α → World → Value → Prop} {r : Except (Int × Int) (α × List S74)} {e : Ending} {w' : World} {x : α} {l' : List S74} (h : PPost w b tb cs deep V r e w') (hr : r = .ok (x, l')) : w.grownBy w' (some b) ∧ (∃ v, e = .returned v ∧ V x w' v) ∧ PInv w' b tb cs l' deep := by
  subst hr; exact h
theorem PPost.err {α : Type} {w : World} {b tb : Nat} {cs : Array Value} {deep : Nat} {V : α → World → Value → Prop} {r : Except (Int × Int) (α × List S74)} {e : Ending} {w' : World} {bad at_ : Int} (h : PPost w b tb cs deep V r e w') (hr : r = .error (bad, at_)) : w.grownBy w' (some b) ∧ e = .panicked [stopV bad at_] := by
  subst hr; exact h
theorem PPost.mk_ok {α : Type} {w : World} {b tb : Nat} {cs : Array Value} {deep : Nat} {V : α → World → Value → Prop} {r : Except (Int × Int) (α × List S74)} {w' : World} {x : α} {l' : List S74} {v : Value} (hr : r = .ok (x, l')) (hg : w.grownBy w' (some b)) (hv : V x w' v) (hP : PInv w' b tb cs l' deep) : PPost w b tb cs deep V r (.returned v) w' := by
  subst hr; exact ⟨hg, ⟨_, rfl, hv⟩, hP⟩
theorem PPost.mk_err {α : Type} {w : World} {b tb : Nat} {cs : Array Value} {deep : Nat} {V : α → World → Value → Prop} {r : Except (Int × Int) (α × List S74)} {w' : World} {bad at_ : Int} (hr : r = .error (bad, at_)) (hg : w.grownBy w' (some b)) : PPost w b tb cs deep V r (.panicked [stopV bad at_]) w' := by
  subst hr; exact ⟨hg, rfl⟩
def strV (s : ByteArray) (_ : World) (v : Value) : Prop := v = .string s
theorem take_post {b tb : Nat} {cs : Array Value} {l : List S74} {deep : Nat} (k : Int) (hk : k ≠ 0) (tv : Value) (xs : List ByteArray) (w : World) (h : PInv w b tb cs l deep) (ht : Txts w tv xs) :
    Calls Tryz.prog 54 #[.pointer (some ⟨b, 0, none⟩), .int .i64 k, tv] w (PPost w b tb cs deep strV (takeP k xs l)) := by
  refine (take_any k hk tv xs w h ht).mono ?_
  rintro e w' ⟨h1, h2⟩
  unfold PPost
  refine ⟨h1, ?_⟩
  cases hr : takeP k xs l with
  | ok x => obtain ⟨s, l'⟩ := x; rw [hr] at h2; exact ⟨⟨_, h2.1, rfl⟩, h2.2⟩
  | error x => obtain ⟨s, l'⟩ := x; rw [hr] at h2; exact h2
theorem grown_below {w w1 w2 : World} {b : Nat} (h : Below w.heap.size w w1) (k : w1.grownBy w2 (some b)) : w.grownBy w2 (some b) := grown_trans (grown_of_below h _) k
set_option maxHeartbeats 1600000 in
set_option maxRecDepth 100000 in
theorem wordp_any {b tb : Nat} {cs : Array Value} {l : List S74} {deep : Nat} (w : World) (h : PInv w b tb cs l deep) :
    Calls Tryz.prog 55 #[.pointer (some ⟨b, 0, none⟩)] w (PPost w b tb cs deep strV (wordP l)) := by
  have HI := Aside0.mk h
  clear h
  cases hr : resS (hd l).f1 with
  | true =>
    have hw : wordP l = .error (61, (hd l).f2) := by unfold wordP; rw [if_pos hr]
    rw [hw]
    clear hw
    go_enter Tryz.func55, Tryz.ntmps55
    go_wp2_with (go_at_call 79; refine (next_any _ HI.out).mono ?_; rintro e w1 ⟨rfl, hb⟩)
    rename_i a0_
    apply a0_
    go_wp2_with (go_at_call 60; refine (res_any _ _).mono ?_; rintro e w2 ⟨rfl, hb2⟩)
    go_at_call 81
    refine (fail_any 61 _ ((HI.out.grown hb).grown hb2)).mono ?_
    rintro e w3 ⟨rfl, hb3⟩
    go_wp2_with fail
    exact ⟨rfl, grown_of_below (hb.trans ((hb2.trans (hb3.mono hb2.size)).mono hb.size)) _, rfl⟩
  | false =>
    obtain ⟨r, hr2⟩ : ∃ r, r = takeP 1 [] l := ⟨_, rfl⟩
    have hw : wordP l = r := by unfold wordP; rw [if_neg (by rw [hr]; decide), hr2]
    have HT := Aside0.mk (fun w (h : PInv w b tb cs l deep) => (by rw [hr2]; exact take_post 1 (by decide) _ [] w h (Or.inl ⟨rfl, rfl⟩) : Calls Tryz.prog 54 #[.pointer (some ⟨b, 0, none⟩), .int .i64 1, .slice none 0 0] w (PPost w b tb cs deep strV r)))
    rw [hw]
    clear hw hr2
    go_enter Tryz.func55, Tryz.ntmps55
    go_wp2_with (go_at_call 79; refine (next_any _ HI.out).mono ?_; rintro e w1 ⟨rfl, hb⟩)
    rename_i a0_
    apply a0_
    go_wp2_with (go_at_call 60; refine (res_any _ _).mono ?_; rintro e w2 ⟨rfl, hb2⟩)
    go_at_call 54
    refine (HT.out _ ((HI.out.grown hb).grown hb2)).mono ?_
    intro e w3 hp
    rcases r with ⟨bad, at_⟩ | ⟨s, l'⟩
    · obtain ⟨hg, rfl⟩ := hp.err rfl
      go_wp2_with fail
      exact ⟨rfl, PPost.mk_err rfl (grown_below (hb.trans (hb2.mono hb.size)) hg)⟩
    · obtain ⟨hg, ⟨v, rfl, hv⟩, hP⟩ := hp.ok rfl
      unfold strV at hv
      subst hv
      go_wp2_with fail
      go_ret
      exact PPost.mk_ok rfl (grown_below (hb.trans (hb2.mono hb.size)) hg) rfl hP
def intV (k : IntKind) (x : Int) (_ : World) (v : Value) : Prop := v = .int k x
def bnd {α β : Type} (r : Except (Int × Int) α) (f : α → Except (Int × Int) β) : Except (Int × Int) β := match r with
  | .ok a => f a
  | .error e => .error e
def numP (l : List S74) : Except (Int × Int) (Int × List S74) := bnd (takeP 2 [] l) fun x => .ok ((numR (numS x.1)).1, x.2)
theorem takeP_ok {k : Int} {xs : List ByteArray} {l l' : List S74} {s : ByteArray} (h : takeP k xs l = .ok (s, l')) : s = (hd l).f1 ∧ l' = l.tail ∧ (hd l).f0 = k ∧ anyT xs s = true := by
  unfold takeP at h
  split at h
  · rename_i hc
    rw [Bool.and_eq_true, beq_iff_eq] at hc
    obtain ⟨rfl, rfl⟩ := Prod.mk.inj (Except.ok.inj h)
    exact ⟨rfl, rfl, hc⟩
  · cases h
theorem hd_mem {l : List S74} (h : l ≠ []) : hd l ∈ l := by
  cases l with
  | nil => exact absurd rfl h
  | cons t r => exact List.mem_cons_self
set_option maxHeartbeats 1600000 in
set_option maxRecDepth 100000 in
theorem number_any {b tb : Nat} {cs : Array Value} {l : List S74} {deep : Nat} (w : World) (h : PInv w b tb cs l deep) :
    Calls Tryz.prog 82 #[.pointer (some ⟨b, 0, none⟩)] w (PPost w b tb cs deep (intV .u64) (numP l)) := by
  have HI := Aside0.mk h
  obtain ⟨r, hr2⟩ : ∃ r, r = takeP 2 [] l := ⟨_, rfl⟩
  have HT := Aside0.mk (fun w (h : PInv w b tb cs l deep) => (by rw [hr2]; exact take_post 2 (by decide) _ [] w h (Or.inl ⟨rfl, rfl⟩) : Calls Tryz.prog 54 #[.pointer (some ⟨b, 0, none⟩), .int .i64 2, .slice none 0 0] w (PPost w b tb cs deep strV r)))
  have hsz : ∀ s l', r = .ok (s, l') → s.size ≤ 1000000 := by
    intro s l' e
    obtain ⟨e1, _⟩ := takeP_ok (hr2 ▸ e)
    rw [e1]; exact h.sz _ (hd_mem h.pos)
  have HSZ := Aside0.mk hsz
  have hn : numP l = bnd r fun x => .ok ((numR (numS x.1)).1, x.2) := by unfold numP; rw [hr2]
  rw [hn]
  clear hn hr2 h hsz
  go_enter Tryz.func82, Tryz.ntmps82
  go_wp2_with fail
  go_at_call 54
  refine (HT.out _ HI.out).mono ?_
  intro e w3 hp
  rcases r with ⟨bad, at_⟩ | ⟨s, l'⟩
  · obtain ⟨hg, rfl⟩ := hp.err rfl
    go_wp2_with fail
    exact ⟨rfl, PPost.mk_err rfl hg⟩
  · obtain ⟨hg, ⟨v, rfl, hv⟩, hP⟩ := hp.ok rfl
    unfold strV at hv
    subst hv
    go_wp2_with (go_at_call 51; refine (num_any s (HSZ.out s l' rfl) _ hP.laid).mono ?_; rintro e w4 ⟨rfl, hb⟩)
    go_ret
    exact PPost.mk_ok rfl (grown_trans hg (grown_of_below hb _)) rfl (hP.grown hb)
def linesP : List S74 → List S74
  | [] => []
  | t :: r => if t.f0 = 4 then linesP r else t :: r
theorem isP_kind (k : Int) (l : List S74) : isP k ⟨#[]⟩ l = ((hd l).f0 == k) := by
  unfold isP
  have : (⟨#[]⟩ : ByteArray).toList.isEmpty = true := by rw [Lib.toList_data]; rfl
  rw [this, Bool.true_or, Bool.and_true]
def unitV (_ : Unit) (_ : World) (v : Value) : Prop := v = .tuple #[]
theorem linesP_not {l : List S74} (h : (hd l).f0 ≠ 4) : linesP l = l := by
  cases l with
  | nil => rfl
  | cons t r => exact if_neg h
theorem linesP_yes {l : List S74} (h0 : l ≠ []) (h : (hd l).f0 = 4) : linesP l = linesP l.tail := by
  cases l with
  | nil => exact absurd rfl h0
  | cons t r => exact if_pos h
def lenP (b : Nat) (w : World) : Nat := match w.cell? ⟨b, 0, none⟩ with | some (.slice _ n _) => n | _ => 0
theorem PInv.len {w : World} {b tb : Nat} {cs : Array Value} {l : List S74} {deep : Nat} (h : PInv w b tb cs l deep) : lenP b w = l.length := by
  obtain ⟨off, cap, h0, _⟩ := h.at0
  unfold lenP; rw [h0]
theorem take_line {l : List S74} (h : (hd l).f0 = 4) : takeP 4 [] l = .ok ((hd l).f1, l.tail) := by
  unfold takeP anyT; rw [h]; rfl
set_option maxHeartbeats 1600000 in
set_option maxRecDepth 100000 in
theorem lines_any {b tb : Nat} {cs : Array Value} {l : List S74} {deep : Nat} (w : World) (h : PInv w b tb cs l deep) :
    Calls Tryz.prog 53 #[.pointer (some ⟨b, 0, none⟩)] w (PPost w b tb cs deep unitV (.ok ((), linesP l))) := by
  have HI := Aside0.mk h
  clear h
  go_enter Tryz.func53, Tryz.ntmps53
  go_wp2_with fail
  go_loopw [] (fun wr => ∃ l' : List S74, PInv wr b tb cs l' deep ∧ Aside0 (w.grownBy wr (some b)) ∧ Aside0 (linesP l = linesP l')) (fun wr => lenP b wr)
  case atStart => exact ⟨l, HI.out, ⟨grown_refl _ _⟩, ⟨rfl⟩⟩
  case round =>
    obtain ⟨l', hP, hg, hl⟩ := hrel
    have HP := Aside0.mk hP
    clear hP
    have hK := isP_kind 4 l'
    by_cases h4 : (hd l').f0 = 4
    · have e4 : isP 4 ⟨#[]⟩ l' = true := by rw [hK, h4]; rfl
      have HE := Aside0.mk e4
      clear hK
      go_wp2_with (first | (go_at_call 58; refine (is_any 4 ⟨#[]⟩ _ HP.out).mono ?_; rw [HE.out]; rintro e w1 ⟨rfl, hb⟩))
      go_at_call 54
      refine (take_post 4 (by decide) _ [] _ (HP.out.grown hb) (Or.inl ⟨rfl, rfl⟩)).mono ?_
      intro e w3 hp
      obtain ⟨hg3, ⟨v, rfl, hv⟩, hP3⟩ := hp.ok (take_line h4)
      unfold strV at hv
      subst hv
      go_wp2_with fail
      go_roundw
      case rel => exact ⟨l'.tail, hP3, ⟨grown_trans hg.out (grown_below hb hg3)⟩, ⟨hl.out.trans (linesP_yes HP.out.pos h4)⟩⟩
      case measure =>
        rw [hP3.len, HP.out.len]
        have := List.length_pos_iff.2 HP.out.pos
        simp; omega
    · have e4 : isP 4 ⟨#[]⟩ l' = false := by rw [hK, beq_eq_false_iff_ne]; exact h4
      have HE := Aside0.mk e4
      clear hK
      go_wp2_with (first | (go_at_call 58; refine (is_any 4 ⟨#[]⟩ _ HP.out).mono ?_; rw [HE.out]; rintro e w1 ⟨rfl, hb⟩))
      go_end0
      exact PPost.mk_ok rfl (grown_trans hg.out (grown_of_below hb _)) rfl (by rw [hl.out, linesP_not h4]; exact HP.out.grown hb)
def endP (l : List S74) : Except (Int × Int) (Unit × List S74) := if (hd l).f0 = 0 then .ok ((), linesP l) else bnd (takeP 4 [] l) fun x => .ok ((), linesP x.2)
set_option maxHeartbeats 1600000 in
set_option maxRecDepth 100000 in
theorem end_any {b tb : Nat} {cs : Array Value} {l : List S74} {deep : Nat} (w : World) (h : PInv w b tb cs l deep) :
    Calls Tryz.prog 56 #[.pointer (some ⟨b, 0, none⟩)] w (PPost w b tb cs deep unitV (endP l)) := by
  have HI := Aside0.mk h
  have hK := isP_kind 0 l
  by_cases h0 : (hd l).f0 = 0
  · have HE := Aside0.mk (show isP 0 ⟨#[]⟩ l = true by rw [hK, h0]; rfl)
    have hw : endP l = .ok ((), linesP l) := by unfold endP; rw [if_pos h0]
    rw [hw]
    clear hw hK h
    go_enter Tryz.func56, Tryz.ntmps56
    go_wp2_with (first | (go_at_call 58; refine (is_any 0 ⟨#[]⟩ _ HI.out).mono ?_; rw [HE.out]; rintro e w1 ⟨rfl, hb⟩))
    go_at_call 53
    refine (lines_any _ (HI.out.grown hb)).mono ?_
    intro e w3 hp
    obtain ⟨hg, ⟨v, rfl, hv⟩, hP⟩ := hp.ok rfl
    unfold unitV at hv
    subst hv
    go_wp2_with fail
    go_end0
    exact PPost.mk_ok rfl (grown_below hb hg) rfl hP
  · have HE := Aside0.mk (show isP 0 ⟨#[]⟩ l = false by rw [hK, beq_eq_false_iff_ne]; exact h0)
    obtain ⟨r, hr2⟩ : ∃ r, r = takeP 4 [] l := ⟨_, rfl⟩
    have HT := Aside0.mk (fun w (h : PInv w b tb cs l deep) => (by rw [hr2]; exact take_post 4 (by decide) _ [] w h (Or.inl ⟨rfl, rfl⟩) : Calls Tryz.prog 54 #[.pointer (some ⟨b, 0, none⟩), .int .i64 4, .slice none 0 0] w (PPost w b tb cs deep strV r)))
    have hw : endP l = bnd r fun x => .ok ((), linesP x.2) := by unfold endP; rw [if_neg h0, hr2]
    rw [hw]
    clear hw hK h hr2
    go_enter Tryz.func56, Tryz.ntmps56
    go_wp2_with (first | (go_at_call 58; refine (is_any 0 ⟨#[]⟩ _ HI.out).mono ?_; rw [HE.out]; rintro e w1 ⟨rfl, hb⟩))
    go_at_call 54
    refine (HT.out _ (HI.out.grown hb)).mono ?_
    intro e w3 hp
    rcases r with ⟨bad, at_⟩ | ⟨s, l'⟩
    · obtain ⟨hg, rfl⟩ := hp.err rfl
      go_wp2_with fail
      exact ⟨rfl, PPost.mk_err rfl (grown_below hb hg)⟩
    · obtain ⟨hg, ⟨v, rfl, hv⟩, hP⟩ := hp.ok rfl
      unfold strV at hv
      subst hv
      go_wp2_with fail
      go_at_call 53
      refine (lines_any _ hP).mono ?_
      intro e w4 hp4
      obtain ⟨hg4, ⟨v, rfl, hv⟩, hP4⟩ := hp4.ok rfl
      unfold unitV at hv
      subst hv
      go_wp2_with fail
      go_end0
      exact PPost.mk_ok rfl (grown_below hb (grown_trans hg hg4)) rfl hP4
def actP (l : List S74) : Except (Int × Int) ((ByteArray × Int) × List S74) :=
  bnd (wordP l) fun x => if (hd x.2).f0 = 2 then bnd (numP x.2) fun y => .ok ((x.1, y.1), y.2) else .ok ((x.1, 0), x.2)
def actV (x : ByteArray × Int) (_ : World) (v : Value) : Prop := v = .tuple #[.string x.1, .int .u64 x.2]
set_option maxHeartbeats 1600000 in
set_option maxRecDepth 100000 in
theorem actionp_any {b tb : Nat} {cs : Array Value} {l : List S74} {deep : Nat} (w : World) (h : PInv w b tb cs l deep) :
    Calls Tryz.prog 57 #[.pointer (some ⟨b, 0, none⟩)] w (PPost w b tb cs deep actV (actP l)) := by
  have HI := Aside0.mk h
  have HW := Aside0.mk (wordp_any w h)
  obtain ⟨R, hR⟩ : ∃ R, R = actP l := ⟨_, rfl⟩
  rw [← hR]
  have HR := Aside0.mk hR
  clear h hR
  go_enter Tryz.func57, Tryz.ntmps57
  go_wp2_with fail
  go_at_call 55
  refine HW.out.mono ?_
  intro e w1 hp
  cases hr : wordP l with
  | error x =>
    obtain ⟨bad, at_⟩ := x
    obtain ⟨hg, rfl⟩ := hp.err hr
    go_wp2_with fail
    exact ⟨rfl, PPost.mk_err (HR.out.trans (by unfold actP; rw [hr]; rfl)) hg⟩
  | ok x =>
    obtain ⟨s, l'⟩ := x
    obtain ⟨hg, ⟨v, rfl, hv⟩, hP⟩ := hp.ok hr
    unfold strV at hv
    subst hv
    have hK := isP_kind 2 l'
    have HP := Aside0.mk hP
    by_cases h2 : (hd l').f0 = 2
    · have HE := Aside0.mk (show isP 2 ⟨#[]⟩ l' = true by rw [hK, h2]; rfl)
      have HR2 := Aside0.mk (HR.out.trans (show actP l = bnd (numP l') fun y => .ok ((s, y.1), y.2) by unfold actP; rw [hr]; exact if_pos h2))
      clear hK hP hp
      go_wp2_with (first | (go_at_call 58; refine (is_any 2 ⟨#[]⟩ _ HP.out).mono ?_; rw [HE.out]; rintro e w2 ⟨rfl, hb⟩))
      go_at_call 82
      refine (number_any _ (HP.out.grown hb)).mono ?_
      intro e w3 hp3
      cases hr3 : numP l' with
      | error x =>
        obtain ⟨bad, at_⟩ := x
        obtain ⟨hg3, rfl⟩ := hp3.err hr3
        go_wp2_with fail
        exact ⟨rfl, PPost.mk_err (HR2.out.trans (by rw [hr3]; rfl)) (grown_trans hg (grown_below hb hg3))⟩
      | ok x =>
        obtain ⟨n, l3⟩ := x
        obtain ⟨hg3, ⟨v, rfl, hv⟩, hP3⟩ := hp3.ok hr3
        unfold intV at hv
        subst hv
        go_wp2_with fail
        go_ret2
        exact PPost.mk_ok (x := (s, n)) (l' := l3) (HR2.out.trans (by rw [hr3]; rfl)) (grown_trans hg (grown_below hb hg3)) rfl hP3
    · have HE := Aside0.mk (show isP 2 ⟨#[]⟩ l' = false by rw [hK, beq_eq_false_iff_ne]; exact h2)
      have HR2 := Aside0.mk (HR.out.trans (show actP l = .ok ((s, 0), l') by unfold actP; rw [hr]; exact if_neg h2))
      clear hK hP hp
      go_wp2_with (first | (go_at_call 58; refine (is_any 2 ⟨#[]⟩ _ HP.out).mono ?_; rw [HE.out]; rintro e w2 ⟨rfl, hb⟩))
      go_ret2
      exact PPost.mk_ok HR2.out (grown_trans hg (grown_of_below hb _)) rfl (HP.out.grown hb)

end Go.Proofs.YtdfjjimmnbijmaaGreatDoor.ZQ

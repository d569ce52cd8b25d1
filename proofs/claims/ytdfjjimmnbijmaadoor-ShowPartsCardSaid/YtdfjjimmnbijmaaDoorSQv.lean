import Derived.Test.YtdfjjimmnbijmaaDoorSQ13
import Derived.Test.YtdfjjimmnbijmaaDoorSQ3
namespace Go.Proofs.YtdfjjimmnbijmaaDoor.SQ
open Go.RowKit Go.Proofs.YtdfjjimmnbijmaaDoorW.PrintWords Go.Proofs.YtdfjjimmnbijmaaDoorW.PrintLast Go.Proofs.YtdfjjimmnbijmaaDoorW.PrintMore Go.Proofs.YtdfjjimmnbijmaaDoor.Base
attribute [local go_sem] max2_int min2_int max_two min_two max_three min_three max_four min_four
set_option linter.unusedVariables false
set_option linter.unusedSimpArgs false
/-! ### the reference's fits and Right in plain words; alive -/
theorem sign16_f (s : ByteArray) : doorwardref16_sign.f s = some (sgnB s) := by
  unfold doorwardref16_sign.f sgnB sgnL
  rw [List.contains_eq_any_beq]
  simp only [List.any_cons, List.any_nil, Bool.or_false]
  by_cases h1 : s.toList = [61, 61]
  · rw [if_pos h1, h1]; rfl
  rw [if_neg h1]
  by_cases h2 : s.toList = [33, 61]
  · rw [if_pos h2, h2]; rfl
  rw [if_neg h2]
  by_cases h3 : s.toList = [60]
  · rw [if_pos h3, h3]; rfl
  rw [if_neg h3]
  by_cases h4 : s.toList = [60, 61]
  · rw [if_pos h4, h4]; rfl
  rw [if_neg h4]
  by_cases h5 : s.toList = [62]
  · rw [if_pos h5, h5]; rfl
  rw [if_neg h5]
  have e : ∀ l : List UInt8, ¬ s.toList = l → (s.toList == l) = false := fun l h => by rw [beq_eq_false_iff_ne]; exact h
  rw [e _ h1, e _ h2, e _ h3, e _ h4, e _ h5]; rfl
theorem bare16_f (c : CN) : doorwardref16_bare.f c.f0 c.f1 c.f2 c.f3 c.f4 c.f5 = some (bareS c) := by
  unfold doorwardref16_bare.f bareS
  by_cases h2 : c.f2 = 0
  · rw [if_pos h2, decide_eq_true h2, Bool.true_and]
    by_cases h3 : c.f3 = 0
    · rw [if_pos h3, decide_eq_true h3, Bool.true_and]
      by_cases h4 : c.f4.toList = []
      · rw [if_pos h4, h4, List.isEmpty_nil, Bool.true_and]; rfl
      · rw [if_neg h4]
        have : c.f4.toList.isEmpty = false := by cases hq : c.f4.toList with | nil => exact absurd hq h4 | cons a r => rfl
        rw [this, Bool.false_and]
    · rw [if_neg h3, decide_eq_false h3, Bool.false_and]
  · rw [if_neg h2, decide_eq_false h2, Bool.false_and]
theorem fits_l0 (l : List CN) (hl : l.length ≤ 1000000) (ih : ∀ k ∈ l, Ev (fun n => doorwardref16_fits.f n k.f0 k.f1 k.f2 k.f3 k.f4 k.f5) (fitsC k)) : ∀ (d i : Nat), i + d = l.length → Ev (fun n => doorwardref16_fits.l0 n l (l.length : Int) (i : Int)) (fitsL (l.drop i)) := by
  intro d
  induction d with
  | zero =>
    intro i hi
    apply succ
    simp only [doorwardref16_fits.l0, if_neg (show ¬ (i : Int) < (l.length : Int) by omega)]
    refine now ?_
    rw [List.drop_of_length_le (by omega), fitsL]
  | succ d ihd =>
    intro i hi
    have hil : i < l.length := by omega
    have hrd : rd_T47 l (i : Int) = l[i] := by
      unfold rd_T47
      rw [Int.toNat_natCast, List.getD_eq_getElem?_getD, List.getElem?_eq_getElem hil]; rfl
    rw [drop_cons hil, fitsL]
    apply succ
    simp only [doorwardref16_fits.l0, if_pos (show (i : Int) < (l.length : Int) by omega), if_pos (show 0 ≤ (i : Int) by omega), hrd]
    refine Ev.bind (ih l[i] (List.getElem_mem hil)) ?_
    cases fitsC l[i] with
    | true =>
      simp only [if_true, w1 (show i < 9223372036854775807 by omega)]
      exact evc (ihd (i + 1) (by omega)) (by rw [Bool.true_and])
    | false => simp only [Bool.false_eq_true, if_false]; exact now rfl
theorem fits_ev : ∀ c : CN, nodesC c ≤ 1000000 → Ev (fun n => doorwardref16_fits.f n c.f0 c.f1 c.f2 c.f3 c.f4 c.f5) (fitsC c) := by
  refine cond_ind fun c ih hn => ?_
  have hl : c.f1.length ≤ 1000000 := by have := nodesL_len c.f1; rw [nodesC_eq] at hn; omega
  have hkids := fits_l0 c.f1 hl (fun k hk => ih k hk (by have := nodes_kid hk; omega)) c.f1.length 0 (by omega)
  rw [List.drop_zero] at hkids
  rw [fitsC_eq]
  apply succ
  simp only [doorwardref16_fits.f]
  have j1 : ∀ b : Bool, Ev (fun n => doorwardref16_fits.j1 n b c.f0 c.f1 c.f2 c.f3 c.f4 c.f5) (!b && fitsL c.f1) := by
    intro b
    apply succ
    cases b with
    | true => simp only [doorwardref16_fits.j1, if_true]; exact now rfl
    | false => simp only [doorwardref16_fits.j1, Bool.false_eq_true, if_false]; exact evc hkids (by rw [Bool.not_false, Bool.true_and])
  unfold oneS
  by_cases h4 : c.f0 = 4
  · simp only [if_pos h4]
    by_cases h5 : 0 ≤ c.f2
    · simp only [ge_iff_le, if_pos h5]
      by_cases h6 : c.f2 ≤ 5
      · simp only [if_pos h6, sign16_f, Option.bind_some]
        have e1 : decide (c.f2 < 6) = true := decide_eq_true (by omega)
        rw [decide_eq_true h5, e1]
        cases hs : sgnB c.f4 with
        | true =>
          simp only [if_true]
          refine now ?_
          by_cases hk : c.f1.length = 0
          · rw [List.length_eq_zero_iff.1 hk]; rfl
          · have e2 : ((c.f1.length : Int) == 0) = false := by rw [beq_eq_false_iff_ne]; omega
            rw [e2, decide_eq_false hk]; rfl
        | false => simp only [Bool.false_eq_true, if_false]; exact now rfl
      · simp only [if_neg h6]; refine now ?_; have : decide (c.f2 < 6) = false := decide_eq_false (by omega); rw [this]; simp
    · simp only [ge_iff_le, if_neg h5]; refine now ?_; rw [decide_eq_false h5]; rfl
  · simp only [if_neg h4, bare16_f, Option.bind_some]
    have j0 : ∀ b : Bool, (b = false → (c.f0 = 1 ∨ c.f0 = 2 ∨ c.f0 = 3)) → Ev (fun n => doorwardref16_fits.j0 n (c.f1.length : Int) b c.f0 c.f1 c.f2 c.f3 c.f4 c.f5) (!b && ((if c.f0 = 3 then decide (c.f1.length = 1) else decide (2 ≤ c.f1.length)) && fitsL c.f1)) := by
      intro b hb
      apply succ
      cases b with
      | true => simp only [doorwardref16_fits.j0, if_true]; exact now rfl
      | false =>
        simp only [doorwardref16_fits.j0, Bool.false_eq_true, if_false]
        rw [Bool.not_false, Bool.true_and]
        by_cases h3 : c.f0 = 3
        · simp only [if_pos h3]
          by_cases h1 : c.f1.length = 1
          · simp only [if_pos (show (c.f1.length : Int) = 1 by omega)]
            refine evc (j1 false) ?_
            rw [decide_eq_true h1]; rfl
          · simp only [if_neg (show ¬ (c.f1.length : Int) = 1 by omega)]
            refine evc (j1 true) ?_
            rw [decide_eq_false h1]; rfl
        · simp only [if_neg h3]
          refine evc (j1 _) ?_
          congr 1
          by_cases h2 : 2 ≤ c.f1.length
          · rw [decide_eq_true h2, decide_eq_false (by omega)]; rfl
          · rw [decide_eq_false h2, decide_eq_true (by omega)]; rfl
    cases hb : bareS c with
    | true =>
      simp only [if_true]
      by_cases h1 : c.f0 = 1
      · simp only [if_pos h1]
        refine evc (j0 false (fun _ => Or.inl h1)) ?_
        rw [if_neg (by omega)]; simp
      · simp only [if_neg h1]
        by_cases h2 : c.f0 = 2
        · simp only [if_pos h2]
          refine evc (j0 false (fun _ => Or.inr (Or.inl h2))) ?_
          rw [if_neg (by omega)]; simp
        · simp only [if_neg h2]
          by_cases h3 : c.f0 = 3
          · have e : (c.f0 != 3) = false := by simp [h3]
            rw [e]
            refine evc (j0 false (fun _ => Or.inr (Or.inr h3))) ?_
            rw [if_pos h3, if_pos h3]; simp
          · have e : (c.f0 != 3) = true := by simp [h3]
            rw [e]
            refine evc (j0 true (fun h => by cases h)) ?_
            rw [if_neg h3, if_neg h3]; rfl
    | false =>
      simp only [Bool.false_eq_true, if_false]
      refine evc (j0 true (fun h => by cases h)) ?_
      simp
theorem many_f (c : CN) (m : Nat) (h1 : 1 ≤ m) (h2 : m ≤ 1000000) : doorwardref15_Many.f c.f0 c.f1 c.f2 c.f3 c.f4 c.f5 (m : Int) = some ((manyS c m : Nat) : Int) := by
  unfold doorwardref15_Many.f
  rw [if_pos ⟨by omega, by omega⟩, cn_eta, Int.toNat_natCast]
theorem right16_ev (c : CN) : Ev (fun n => doorwardref16_Right.f n c.f0 c.f1 c.f2 c.f3 c.f4 c.f5) (rightS c) := by
  unfold doorwardref16_Right.f
  have e : doorwardref15_Many.f c.f0 c.f1 c.f2 c.f3 c.f4 c.f5 100 = some ((manyS c 100 : Nat) : Int) := many_f c 100 (by omega) (by omega)
  simp only [e, Option.bind_some]
  unfold rightS
  by_cases hn : nodesC c ≤ 100
  · simp only [if_pos (show ((manyS c 100 : Nat) : Int) ≤ 100 by unfold manyS; omega)]
    rw [decide_eq_true hn, Bool.true_and]
    exact Ev.bind (fits_ev c (by omega)) (now rfl)
  · simp only [if_neg (show ¬ ((manyS c 100 : Nat) : Int) ≤ 100 by unfold manyS; omega)]
    rw [decide_eq_false hn, Bool.false_and]
    exact now rfl
theorem right16_any (c : CN) (A : Option Addr) (cap : Nat) (w : World) (hC : Kd.C k47 w A c.f1.length c.f1) (hcap : c.f1.length ≤ cap) (hLd : LaidAt w) :
    Calls Tryd.prog 27 #[.agg #[.int .i64 c.f0, .slice A c.f1.length cap, .int .i64 c.f2, .int .u64 c.f3, .string c.f4, .int .u64 c.f5]] w fun e w' => e = .returned (.bool (rightS c)) ∧ Below w.heap.size w w' := by
  obtain ⟨k, hk⟩ := Ev.rounds (right16_ev c)
  exact doorwardref16_Right.calls k c.f0 A cap c.f1 c.f2 c.f3 c.f4 c.f5 _ w hC hcap hLd hk
theorem alive17 : doorwardlaw17_alive.f = some true := by kernel_rfl
theorem alive_any (w : World) (hLd : LaidAt w) : Calls Tryd.prog 28 #[] w fun e w' => e = .returned (.bool true) ∧ Below w.heap.size w w' :=
  doorwardlaw17_alive.calls true w hLd alive17

end Go.Proofs.YtdfjjimmnbijmaaDoor.SQ

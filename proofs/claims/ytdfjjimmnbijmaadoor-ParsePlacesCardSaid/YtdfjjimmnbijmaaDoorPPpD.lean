import Derived.Test.YtdfjjimmnbijmaaDoorPPpC
import Derived.Test.YtdfjjimmnbijmaaDoorPPpV
namespace Go.Proofs.YtdfjjimmnbijmaaDoor.PP
open Go.RowKit Go.Proofs.YtdfjjimmnbijmaaDoorW.PrintWords Go.Proofs.YtdfjjimmnbijmaaDoorW.PrintLast Go.Proofs.YtdfjjimmnbijmaaDoorW.PrintMore Go.Proofs.YtdfjjimmnbijmaaDoor.Base
attribute [local go_sem] max2_int min2_int max_two min_two max_three min_three max_four min_four
set_option linter.unusedVariables false
set_option linter.unusedSimpArgs false
/-! ### the law of the places -/
def sh (s : ByteArray) : ByteArray := s.extract 0 (min s.size 2100)
theorem sh_le (s : ByteArray) : (sh s).size ≤ 2100 := by simp [sh]; omega
theorem short_f (s : ByteArray) : doorwardlaw15_short.f s = some (sh s) := by
  have h : mn (s.size : Int) 2100 = ((min s.size 2100 : Nat) : Int) := by unfold mn; split <;> omega
  unfold doorwardlaw15_short.f sh
  rw [h, if_pos (by omega), if_pos (by omega)]
  rfl
theorem rd_at (pre : List S34) (t : S34) (l : List S34) : rd_T34 (pre ++ t :: l) (pre.length : Int) = t := by
  simp [rd_T34, List.getD_eq_getElem?_getD]
theorem places_l0 (s : ByteArray) (e : Int) (at_ : Int) (r : Bool) (he : e = 61 ∨ e = 62) (hat : at_ ≤ (s.size : Int)) (hj : Ev (fun k => doorwardlaw15_ParsePlaces.j1 k s e at_ false) r) :
    ∀ (l pre : List S34) (b : Bool), pre.length + l.length ≤ 1000000 → (b = true ∨ ∃ t ∈ l, t.f2 = at_) → Ev (fun m => doorwardlaw15_ParsePlaces.l0 m s e at_ b (pre ++ l) ((pre ++ l).length : Int) (pre.length : Int)) r := by
  intro l
  induction l with
  | nil =>
    intro pre b hp hb
    have hb' : b = true := by
      rcases hb with h | ⟨t, h, _⟩
      · exact h
      · cases h
    subst hb'
    apply succ
    simp only [doorwardlaw15_ParsePlaces.l0]
    have hd : decide (at_ > (s.size : Int)) = false := decide_eq_false (by omega)
    refine evN (show ¬ (pre.length : Int) < ((pre ++ []).length : Int) by simp) ?_
    refine evP trivial ?_
    rcases he with h | h
    · refine evP h ?_
      rw [hd]; exact hj
    · refine evN (show ¬ e = 61 by omega) ?_
      refine evP h ?_
      rw [hd]; exact hj
  | cons t l ih =>
    intro pre b hp hb
    have hll : (pre ++ t :: l).length = pre.length + l.length + 1 := by simp; omega
    have hrd := rd_at pre t l
    have e1 : pre ++ t :: l = (pre ++ [t]) ++ l := by simp
    have step : ∀ b' : Bool, (b' = true ∨ ∃ u ∈ l, u.f2 = at_) → Ev (fun m => doorwardlaw15_ParsePlaces.l0 m s e at_ b' (pre ++ t :: l) ((pre ++ t :: l).length : Int) ((pre.length + 1 : Nat) : Int)) r := by
      intro b' h
      have := ih (pre ++ [t]) b' (by simp at hp ⊢; omega) h
      rw [← e1] at this
      simpa using this
    apply succ
    simp only [doorwardlaw15_ParsePlaces.l0]
    simp only [List.length_cons] at hp
    refine evP (show (pre.length : Int) < ((pre ++ t :: l).length : Int) by rw [hll]; omega) ?_
    refine evP (show 0 ≤ (pre.length : Int) by omega) ?_
    refine evP (show (pre.length : Int) < ((pre ++ t :: l).length : Int) by rw [hll]; omega) ?_
    rw [hrd]
    rw [w1 (show pre.length < 9223372036854775807 by omega)]
    cases hbb : b with
    | true =>
      refine evP (show true = true from rfl) ?_
      exact step true (Or.inl rfl)
    | false =>
      refine evN (show ¬ false = true by decide) ?_
      refine step (t.f2 == at_) ?_
      by_cases ht : t.f2 = at_
      · exact Or.inl (beq_iff_eq.2 ht)
      · rcases hb with h | ⟨u, h1, h2⟩
        · rw [hbb] at h; cases h
        · rcases List.mem_cons.1 h1 with h | h
          · subst h; exact absurd h2 ht
          · exact Or.inr ⟨u, h, h2⟩
theorem parsePlaces_law (a0 : ByteArray) : Ev (fun k => doorwardlaw15_ParsePlaces.f k a0) true := by
  have h1 := sh_le a0
  simp only [doorwardlaw15_ParsePlaces.f, short_f]
  show Ev (fun k => (some (sh a0)).bind fun t125 => (some (parseS t125)).bind fun bt126 => (some (lexS t125)).bind _) true
  simp only [Option.bind_some]
  generalize sh a0 = s at h1
  have hal := alive15
  by_cases h0 : (lexS s).2.1 = 0
  · refine evP h0 ?_
    by_cases hb : (parseS s).2.2.2.2.1 = 0
    · refine evP hb ?_
      rw [hal]
      simp only [Option.bind_some]
      refine evP trivial ?_
      obtain ⟨hs, L, hL, hS⟩ := lexS_ok0 h0
      have hp : parseS s = parseR (policyP (L ++ [endK s.size])) := by unfold parseS; rw [hS, if_pos rfl]
      have hok : ∃ x, policyP (L ++ [endK s.size]) = .ok x := by
        cases hr : policyP (L ++ [endK s.size]) with
        | ok x => exact ⟨x, rfl⟩
        | error e =>
          obtain ⟨bad, at_⟩ := e
          obtain ⟨h61, _⟩ := policy_err (toks_fin L _) (toks_inc hL) hr
          rw [hp, hr] at hb
          have hb' : bad = 0 := hb
          omega
      obtain ⟨x, hx⟩ := hok
      have h6 := policy_six (toks_fin L _) hx
      rw [hp, hx]
      refine evP rfl (now ?_)
      rw [hS]
      refine decide_eq_true ?_
      show (((L ++ [endK s.size]).length : Nat) : Int) ≥ 6
      omega
    · refine evN hb ?_
      obtain ⟨bad, j, e1, e2, e3, e4, e5, e6⟩ := parse_cut h0 hb
      have hlen : (lexS s).1.length ≤ 1000000 := (lexS_fin h0).2.2.2
      have hj : Ev (fun k => doorwardlaw15_ParsePlaces.j1 k s bad (j : Int) false) true := by
        apply succ
        simp only [doorwardlaw15_ParsePlaces.j1]
        refine evN (show ¬ false = true by decide) ?_
        refine evP (show 0 ≤ (j : Int) by omega) ?_
        refine evP (show (j : Int) ≤ (s.size : Int) by omega) ?_
        rw [Int.toNat_natCast]
        show Ev (fun k => (some (parseS (s.extract 0 j))).bind fun bt144 => _) true
        simp only [Option.bind_some]
        rw [hal]
        simp only [Option.bind_some]
        refine evP trivial ?_
        by_cases hz : (parseS (s.extract 0 j)).2.2.2.2.1 = 0
        · exact evP hz (now rfl)
        · refine evN hz ?_
          rcases e6 with h | ⟨q1, q2⟩
          · exact absurd h hz
          · refine evP q1 ?_
            rcases q2 with q | q
            · exact evP q (now rfl)
            · by_cases hq : (parseS (s.extract 0 j)).2.2.2.2.1 = 61
              · exact evP hq (now rfl)
              · exact evN hq (now (by rw [q]; simp))
      have := places_l0 s bad (j : Int) true e3 (by omega) hj (lexS s).1 [] false (by simpa using hlen) (Or.inr e5)
      rw [e1, e2]
      simpa using this
  · refine evN h0 ?_
    rw [hal]
    simp only [Option.bind_some]
    refine evP trivial ?_
    have hp : parseS s = parseR (.error ((lexS s).2.1, (lexS s).2.2)) := by unfold parseS; rw [if_neg h0]
    rw [hp]
    refine evP rfl (now ?_)
    show ((lexS s).2.2 == (lexS s).2.2) = true
    simp

end Go.Proofs.YtdfjjimmnbijmaaDoor.PP

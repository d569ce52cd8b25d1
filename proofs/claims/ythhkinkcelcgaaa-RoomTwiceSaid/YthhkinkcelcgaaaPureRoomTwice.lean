/- The law RoomTwice as a statement about lists and numbers. -/
import Derived.Test.YthhkinkcelcgaaaPureA
namespace Go.Proofs.Ythhkinkcelcgaaa.Pure
open Go.RowKit Go.Proofs.Ythhkinkcelcgaaa.R Go.Proofs.YthhkinkcelcgaaaW.PrintWords Go.Proofs.YthhkinkcelcgaaaW.PrintLast Go.Proofs.YthhkinkcelcgaaaW.PrintMore
set_option linter.unusedVariables false

theorem RoomTwice (l : List Bool) (_ : l.length ≤ maxLen) (_ : ∀ v ∈ l, True) (a : Int) (_ : (Lit.int .i64 a).wf = true) (b : Int) (_ : (Lit.int .i64 b).wf = true) : ∃ k, doorwardlaw06_RoomTwice.f k l a b = some true := by
  apply Ev.rounds
  unfold doorwardlaw06_RoomTwice.f
  simp only [few_f, Option.bind_some]
  have hf := fw_len l
  generalize fw l = t at hf
  obtain ⟨m, hm, hm3⟩ := mnmx a
  obtain ⟨n, hn, hn3⟩ := mnmx b
  simp only [hm, hn]
  refine Ev.bind (rright_ev t (by omega)) ?_
  cases hr : rt t with
  | false =>
    simp only [if_neg (show ¬ (false = true) by decide)]
    refine Ev.bind alive_ev ?_
    exact Ev.now _
  | true =>
    simp only [if_true]
    refine Ev.bind (take_ev t hf _) ?_
    refine Ev.bind (take_ev t hf _) ?_
    have hw : wrap64 ((m : Int) + (n : Int)) = ((m + n : Nat) : Int) := by unfold wrap64; omega
    have hmn : (m : Int) + (n : Int) = ((m + n : Nat) : Int) := by omega
    rw [hmn]
    by_cases h2 : m + n ≤ fr t
    · rw [takeS_ok hr (show m ≤ fr t by omega), takeS_ok hr h2]
      simp only [if_true]
      apply succ
      simp only [doorwardlaw06_RoomTwice.j0, bne_self_eq_false, if_neg (show ¬ (false = true) by decide)]
      obtain ⟨la, lb, lc, _⟩ := tk_spec t m 0 (by omega)
      obtain ⟨qa, qb, qc, _⟩ := tk_spec t (m + n) 0 h2
      have hx := tk_right hr (show m ≤ fr t by omega)
      refine Ev.bind (take_ev _ (by omega) _) ?_
      rw [takeS_ok hx (show n ≤ fr (tk m 0 t).1 by omega)]
      have hadd := tk_add t m n 0 h2
      refine Ev.bind alive_ev ?_
      simp only [if_true]
      have e1 : (tk n 0 (tk m 0 t).1).1 = (tk (m + n) 0 t).1 := by rw [hadd]
      have e2 : (tk m 0 t).2 ++ (tk n 0 (tk m 0 t).1).2 = (tk (m + n) 0 t).2 := by rw [hadd]
      rw [e1]
      refine Ev.bind (same_ev _ _ (by omega)) ?_
      simp only [decide_true, if_true, Option.bind_some, List.nil_append]
      have hz : (tk m 0 t).2.length + (tk n 0 (tk m 0 t).1).2.length = m + n := by
        have := congrArg List.length e2
        rw [List.length_append, qb] at this
        exact this
      have g1 : ([] : List Int).length + (tk m 0 t).2.length < 17592186044416 := by rw [lb, List.length_nil]; omega
      have g2 : (tk m 0 t).2.length + (tk n 0 (tk m 0 t).1).2.length < 17592186044416 := by rw [hz]; omega
      simp only [if_pos g1, if_pos g2, e2]
      refine Ev.bind (samei_ev _ _ (by omega)) ?_
      simp only [decide_true, if_true]
      refine Ev.bind (free_ev _ (by omega)) ?_
      refine Ev.bind (free_ev _ (by omega)) ?_
      refine now ?_
      have e3 : wrap64 (wrap64 ((fr t : Int) - m) - n) = (fr (tk (m + n) 0 t).1 : Int) := by
        have := fr_le t
        unfold wrap64; omega
      rw [e3]; simp
    · rw [takeS_space hr h2]
      have hfin : ∀ (x : List Bool × List Int × Int), x.2.2 = 0 ∨ x.2.2 = 31 → Ev (fun k => doorwardlaw06_RoomTwice.j0 k t (m : Int) (n : Int) x.1 x.2.1 x.2.2 [] [] 31 true) true := by
        intro x hx
        apply succ
        simp only [doorwardlaw06_RoomTwice.j0, if_true]
        refine Ev.bind alive_ev ?_
        simp only [if_true]
        have hlt : (fr t : Int) < wrap64 ((m : Int) + (n : Int)) := by rw [hw]; omega
        rcases hx with hx | hx
        · rw [hx]
          simp only [if_true]
          refine Ev.bind (free_ev t (by omega)) ?_
          exact now (decide_eq_true hlt)
        · rw [hx]
          simp only [if_neg (show ¬ ((31 : Int) = 0) by decide), if_true]
          refine Ev.bind (free_ev t (by omega)) ?_
          exact now (decide_eq_true hlt)
      by_cases h1 : m ≤ fr t
      · rw [takeS_ok hr h1]
        simp only [if_true]
        have := hfin ((tk m 0 t).1, (tk m 0 t).2, 0) (.inl rfl)
        exact this
      · rw [takeS_space hr h1]
        simp only [if_neg (show ¬ ((31 : Int) = 0) by decide)]
        exact hfin ([], [], 31) (.inr rfl)

end Go.Proofs.Ythhkinkcelcgaaa.Pure

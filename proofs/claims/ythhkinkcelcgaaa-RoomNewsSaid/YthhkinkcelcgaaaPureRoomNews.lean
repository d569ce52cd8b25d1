/- The law RoomNews as a statement about lists and numbers. -/
import Derived.Test.YthhkinkcelcgaaaEvd
namespace Go.Proofs.Ythhkinkcelcgaaa.Pure
open Go.RowKit Go.Proofs.Ythhkinkcelcgaaa.R Go.Proofs.YthhkinkcelcgaaaW.PrintWords Go.Proofs.YthhkinkcelcgaaaW.PrintLast Go.Proofs.YthhkinkcelcgaaaW.PrintMore
set_option linter.unusedVariables false

theorem nw_len (n : Nat) (h : 54 ≤ n) : (nw n).length = n := by simp [nw]; omega

theorem RoomNews (n : Int) (_ : (Lit.int .i64 n).wf = true) (l : List Bool) (_ : l.length ≤ maxLen) (_ : ∀ v ∈ l, True) : ∃ k, doorwardlaw06_RoomNews.f k n l = some true := by
  apply Ev.rounds
  unfold doorwardlaw06_RoomNews.f
  simp only [few_f, Option.bind_some]
  have hf := fw_len l
  generalize fw l = t at hf
  have hj : Ev (fun k => doorwardlaw06_RoomNews.j1 k t) true := by
    apply succ
    simp only [doorwardlaw06_RoomNews.j1]
    refine Ev.bind alive_ev ?_
    simp only [if_true]
    refine Ev.bind (right_ev t (by omega)) ?_
    refine Ev.bind (rright_ev t (by omega)) ?_
    simp only [beq_self_eq_true, if_true]
    refine Ev.bind (free_ev t (by omega)) ?_
    refine Ev.bind (rfree_ev t (by omega)) ?_
    exact now (by simp)
  refine Ev.bind (new_ev n) ?_
  have hbad : ¬ (64 ≤ n ∧ n ≤ 256) → Ev (fun k => doorwardlaw06_RoomNews.j0 k n t (if 64 ≤ n ∧ n ≤ 256 then (nw n.toNat, (0 : Int)) else ([], 1)).1 (if 64 ≤ n ∧ n ≤ 256 then (nw n.toNat, (0 : Int)) else ([], 1)).2 true) true := by
    intro hn
    rw [if_neg hn]
    apply succ
    simp only [doorwardlaw06_RoomNews.j0, if_true, List.length_nil, Int.ofNat_zero, Int.natCast_zero]
    exact hj
  by_cases h1 : n < 64
  · simp only [if_pos h1]
    exact hbad (by omega)
  · by_cases h2 : n > 256
    · simp only [if_neg h1, decide_eq_true h2]
      exact hbad (by omega)
    · simp only [if_neg h1, decide_eq_false h2]
      rw [if_pos (by omega)]
      apply succ
      simp only [doorwardlaw06_RoomNews.j0, if_neg (show ¬ (false = true) by decide), if_true]
      obtain ⟨m, rfl⟩ := Int.eq_ofNat_of_zero_le (show 0 ≤ n by omega)
      refine Ev.bind (rnew_ev m (by omega) (by omega)) ?_
      simp only [Int.toNat_natCast]
      refine Ev.bind (same_ev (nw m) (nw m) (by rw [nw_len m (by omega)]; omega)) ?_
      simp only [decide_true, if_true]
      exact hj

end Go.Proofs.Ythhkinkcelcgaaa.Pure

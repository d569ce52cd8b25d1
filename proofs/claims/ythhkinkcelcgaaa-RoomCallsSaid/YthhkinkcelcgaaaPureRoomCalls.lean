/- The law RoomCalls as a statement about lists and numbers. -/
import Derived.Test.YthhkinkcelcgaaaPureA
import Derived.Test.YthhkinkcelcgaaaR6
namespace Go.Proofs.Ythhkinkcelcgaaa.Pure
open Go.RowKit Go.Proofs.Ythhkinkcelcgaaa.R Go.Proofs.YthhkinkcelcgaaaW.PrintWords Go.Proofs.YthhkinkcelcgaaaW.PrintLast Go.Proofs.YthhkinkcelcgaaaW.PrintMore
set_option linter.unusedVariables false

theorem tk_len (l : List Bool) (many : Int) : (takeS l many).1.length ≤ l.length ∧ (takeS l many).2.1.length ≤ l.length := by
  unfold takeS
  split
  · simp
  · split
    · simp
    · rename_i h1 h2
      have hf := fr_le l
      obtain ⟨a, b, _⟩ := tk_spec l many.toNat 0 (by omega)
      simp only [a, b]
      omega
theorem gvS_len (l : List Bool) (ss : List Int) : (giveS l ss).1.length ≤ l.length := by
  unfold giveS
  split
  · unfold gvS
    split
    · rename_i y h
      rw [gv_len _ _ _ h]; exact Nat.le_refl _
    · simp
  · simp

theorem RoomCalls (l : List Bool) (_ : l.length ≤ maxLen) (_ : ∀ v ∈ l, True) (many : Int) (_ : (Lit.int .i64 many).wf = true) (ss : List Int) (hs : ss.length ≤ maxLen) (_ : ∀ v ∈ ss, (Lit.int .i64 v).wf = true) : ∃ k, doorwardlaw06_RoomCalls.f k l many ss = some true := by
  apply Ev.rounds
  unfold doorwardlaw06_RoomCalls.f
  simp only [few_f, Option.bind_some]
  have hf := fw_len l
  generalize fw l = t at hf
  obtain ⟨m, hm, h1, h2⟩ := mn_min (ss.length : Int) 30 (by omega)
  have hm' : mn (ss.length : Int) 30 = (m : Int) := hm
  simp only [hm']
  have h3 : 0 ≤ (m : Int) := by omega
  simp only [if_pos h3, if_pos h1]
  simp only [Int.toNat_natCast]
  have hl : (ss.take m).length ≤ 1000 := by have := List.length_take_le m ss; omega
  refine Ev.bind (take_ev t hf many) ?_
  refine Ev.bind (rtake_ev t hf many) ?_
  refine Ev.bind (give_ev t hf _ hl) ?_
  refine Ev.bind (rgive_ev t hf _ hl) ?_
  refine Ev.bind alive_ev ?_
  simp only [if_true]
  obtain ⟨ta, tb⟩ := tk_len t many
  refine Ev.bind (same_ev _ _ (by omega)) ?_
  simp only [decide_true, if_true]
  refine Ev.bind (samei_ev _ _ (by omega)) ?_
  simp only [decide_true, if_true]
  refine Ev.bind (same_ev _ _ (by have := gvS_len t (ss.take m); omega)) ?_
  simp only [decide_true, if_true]
  exact now (by simp)

end Go.Proofs.Ythhkinkcelcgaaa.Pure

/- The law RoomPacks as a statement about lists and numbers. -/
import Derived.Test.YthhkinkcelcgaaaPureA
import Derived.Test.YthhkinkcelcgaaaR9
namespace Go.Proofs.Ythhkinkcelcgaaa.Pure
open Go.RowKit Go.Proofs.Ythhkinkcelcgaaa.R Go.Proofs.YthhkinkcelcgaaaW.PrintWords Go.Proofs.YthhkinkcelcgaaaW.PrintLast Go.Proofs.YthhkinkcelcgaaaW.PrintMore
set_option linter.unusedVariables false

theorem extract_size (s : ByteArray) (m : Nat) (h : m ≤ s.size) : (s.extract 0 m).size = m := by simp; omega

theorem RoomPacks (l : List Bool) (_ : l.length ≤ maxLen) (_ : ∀ v ∈ l, True) (s : ByteArray) (hs : s.size ≤ maxLen) (n : Int) (_ : (Lit.int .i64 n).wf = true) : ∃ k, doorwardlaw06_RoomPacks.f k l s n = some true := by
  apply Ev.rounds
  unfold doorwardlaw06_RoomPacks.f
  simp only [few_f, Option.bind_some]
  have hf := fw_len l
  generalize fw l = t at hf
  obtain ⟨m, hm, h1, h2⟩ := mn_min (s.size : Int) 60 (by omega)
  have hm' : mn (s.size : Int) 60 = (m : Int) := hm
  simp only [hm']
  have h3 : 0 ≤ (m : Int) := by omega
  simp only [if_pos h3, if_pos h1]
  simp only [Int.toNat_natCast]
  have hsz := extract_size s m (by omega)
  generalize s.extract 0 m = u at hsz
  refine Ev.bind (unpack_ev u (by omega) n) ?_
  refine Ev.bind (runpack_ev u (by omega) n) ?_
  refine Ev.bind alive_ev ?_
  simp only [if_true]
  refine Ev.bind (pack_ev t (by omega)) ?_
  refine Ev.bind (rpack_ev t (by omega)) ?_
  simp only [if_true]
  rw [un_run]
  have hr : (runS u n).1.length ≤ 1000 := by
    unfold runS
    split
    · simp
    · split
      · simp
      · rw [ub_len]; omega
  refine Ev.bind (same_ev _ _ hr) ?_
  simp only [decide_true, if_true]
  exact now (by simp)

end Go.Proofs.Ythhkinkcelcgaaa.Pure

/- The law RoomBack as a statement about lists and numbers. -/
import Derived.Test.YthhkinkcelcgaaaPureA
import Derived.Test.YthhkinkcelcgaaaR10
namespace Go.Proofs.Ythhkinkcelcgaaa.Pure
open Go.RowKit Go.Proofs.Ythhkinkcelcgaaa.R Go.Proofs.YthhkinkcelcgaaaW.PrintWords Go.Proofs.YthhkinkcelcgaaaW.PrintLast Go.Proofs.YthhkinkcelcgaaaW.PrintMore
set_option linter.unusedVariables false

theorem turn (by_ : Int) (m : Nat) (hm : 0 < m) (h : m ≤ 300) : ∃ q : Nat, Int.tmod (wrap64 (Int.tmod by_ m + m)) m = q ∧ q < m := by
  have h1 := Int.tmod_lt_of_pos by_ (show (0 : Int) < m by omega)
  have h2 := Int.lt_tmod_of_pos by_ (show (0 : Int) < m by omega)
  have hw : wrap64 (Int.tmod by_ m + m) = Int.tmod by_ m + m := wr (by omega) (by omega)
  rw [hw]
  have h3 := Int.tmod_nonneg (m : Int) (show 0 ≤ Int.tmod by_ m + m by omega)
  have h4 := Int.tmod_lt_of_pos (Int.tmod by_ m + m) (show (0 : Int) < m by omega)
  obtain ⟨q, hq⟩ := Int.eq_ofNat_of_zero_le h3
  exact ⟨q, hq, by omega⟩
theorem back_l0 (t : List Bool) (hf : t.length ≤ 300) (hr : rt t = true) (m : Nat) (hm : m ≤ fr t) (by_ : Int) : ∀ (d i : Nat), i + d = m →
    Ev (fun k => doorwardlaw06_RoomBack.l0 k t (m : Int) by_ (tk m 0 t).1 (tk m 0 t).2 (tk m 0 t).2 ((tk m 0 t).2.length : Int) (i : Int)) true := by
  obtain ⟨a, b, c, _, pw, _⟩ := tk_spec t m 0 hm
  have hfr := fr_le t
  have hmem := tk_mem hr hm
  have hnd : (tk m 0 t).2.Nodup := pw.imp (fun h => by omega)
  generalize hg : (tk m 0 t).2 = got at *
  generalize hx : (tk m 0 t).1 = x at *
  intro d
  induction d with
  | zero =>
    intro i hi
    apply succ
    have h : ¬ (i : Int) < (got.length : Int) := by omega
    simp only [doorwardlaw06_RoomBack.l0, if_neg h]
    have hgive : ∀ ss : List Int, ss.Nodup → (∀ s, s ∈ ss ↔ s ∈ got) → ss.length ≤ 1000 → Ev (fun k => (room_Give.f k x ss).bind fun bt => ((doorwardlaw06_alive.f k).bind fun t377 => (if t377 = true then (if bt.2 = 0 then ((doorwardref06_Same.f k bt.1 t).bind fun t378 => (some t378)) else (some false)) else (some false)))) true := by
      intro ss h1 h2 h3
      refine Ev.bind (give_ev x (by omega) ss h3) ?_
      have e := give_back hr hm ss h1 (by rw [hg]; exact h2)
      rw [hx] at e
      rw [e]
      refine Ev.bind alive_ev ?_
      simp only [if_true]
      refine Ev.bind (same_ev t t (by omega)) ?_
      exact now (by simp)
    by_cases h0 : m = 0
    · have hn : ¬ (m : Int) > 0 := by omega
      simp only [if_neg hn]
      exact hgive got hnd (fun _ => Iff.rfl) (by omega)
    · have hp : (m : Int) > 0 := by omega
      have hz : ¬ (m : Int) = 0 := by omega
      obtain ⟨q, hq, hqm⟩ := turn by_ m (by omega) (by omega)
      have h1 : 0 ≤ (q : Int) := by omega
      have h2 : (q : Int) ≤ (got.length : Int) := by omega
      simp only [if_pos hp, if_neg hz, hq, if_pos h1, if_pos h2, Option.bind_some]
      simp only [Int.toNat_natCast, List.nil_append, List.length_nil, List.length_drop, List.length_take]
      have g1 : 0 + (got.length - q) < 17592186044416 := by omega
      have g2 : got.length - q + min q got.length < 17592186044416 := by omega
      simp only [if_pos g1, if_pos g2]
      have hperm : (got.drop q ++ got.take q).Perm got := by
        have := List.perm_append_comm (l₁ := got.drop q) (l₂ := got.take q)
        rwa [List.take_append_drop] at this
      exact hgive _ (hperm.nodup_iff.2 hnd) (fun s => hperm.mem_iff) (by rw [hperm.length_eq]; omega)
  | succ d ih =>
    intro i hi
    apply succ
    have h : (i : Int) < (got.length : Int) := by omega
    have h0 : 0 ≤ (i : Int) := by omega
    have hin : i < got.length := by omega
    obtain ⟨q1, q2, q3, q4⟩ := hmem got[i] (List.getElem_mem hin)
    have e1 : ¬ got[i] < 54 := by omega
    have e2 : ¬ got[i] ≥ (t.length : Int) := by omega
    have e3 : 0 ≤ got[i] := by omega
    have e4 : got[i] < (t.length : Int) := by omega
    have e5 : got[i] < (x.length : Int) := by omega
    have e6 : ¬ rdOf false t got[i] = true := by rw [show rdOf false t got[i] = false from q3]; decide
    have e7 : rdOf false x got[i] = true := q4
    simp only [doorwardlaw06_RoomBack.l0, if_pos h, if_pos h0, rdi got i hin, if_neg e1, if_neg e2, if_pos e3, if_pos e4, if_neg e6, if_pos e5, if_pos e7, w1 (show i < 9223372036854775807 by omega)]
    by_cases hi0 : (i : Int) > 0
    · have hw : wrap64 ((i : Int) - 1) = ((i - 1 : Nat) : Int) := by unfold wrap64; omega
      have h1 : 0 ≤ ((i - 1 : Nat) : Int) := by omega
      have h2 : ((i - 1 : Nat) : Int) < (got.length : Int) := by omega
      have hin1 : i - 1 < got.length := by omega
      have hlt := List.pairwise_iff_getElem.1 pw (i - 1) i hin1 hin (by omega)
      have h3 : ¬ got[i - 1] ≥ got[i] := by omega
      simp only [if_pos hi0, hw, if_pos h1, if_pos h2, rdi got (i - 1) hin1, if_neg h3]
      exact ih (i + 1) (by omega)
    · simp only [if_neg hi0]
      exact ih (i + 1) (by omega)
theorem few_ev (l : List Bool) : Ev (fun _ => doorwardlaw06_few.f l) (fw l) := ⟨0, fun _ _ => few_f l⟩
theorem RoomBack (l : List Bool) (_ : l.length ≤ maxLen) (_ : ∀ v ∈ l, True) (many : Int) (_ : (Lit.int .i64 many).wf = true) (by_ : Int) (_ : (Lit.int .i64 by_).wf = true) : ∃ k, doorwardlaw06_RoomBack.f k l many by_ = some true := by
  apply Ev.rounds
  unfold doorwardlaw06_RoomBack.f
  refine Ev.bind (few_ev l) ?_
  have hf := fw_len l
  generalize fw l = t at hf
  refine Ev.bind (pack_ev t (by omega)) ?_
  refine Ev.bind (unpack_ev _ (by rw [pk_size]; unfold nb; omega) _) ?_
  rw [un_pk t (by omega)]
  simp only [if_true]
  refine Ev.bind (same_ev t t (by omega)) ?_
  simp only [decide_true, Bool.not_true]
  apply succ
  simp only [doorwardlaw06_RoomBack.j0, if_neg (show ¬ (false = true) by decide)]
  refine Ev.bind (rright_ev t (by omega)) ?_
  cases hr : rt t with
  | false =>
    simp only [if_neg (show ¬ (false = true) by decide)]
    refine Ev.bind alive_ev ?_
    exact Ev.now _
  | true =>
    simp only [if_true]
    obtain ⟨m, hm, hm3⟩ := mnmx many
    simp only [hm]
    refine Ev.bind (take_ev t hf _) ?_
    by_cases h1 : m ≤ fr t
    · rw [takeS_ok hr h1]
      obtain ⟨a, b, c, _⟩ := tk_spec t m 0 h1
      have e1 : ((tk m 0 t).2.length : Int) = (m : Int) := by omega
      have e2 : ((tk m 0 t).1.length : Int) = (t.length : Int) := by omega
      simp only [if_true, if_pos e1, if_pos e2]
      refine Ev.bind (free_ev _ (by omega)) ?_
      refine Ev.bind (free_ev _ (by omega)) ?_
      have hw : wrap64 ((fr t : Int) - m) = (fr (tk m 0 t).1 : Int) := by have := fr_le t; unfold wrap64; omega
      rw [hw, bne_self_eq_false]
      apply succ
      simp only [doorwardlaw06_RoomBack.j1, if_neg (show ¬ (false = true) by decide)]
      exact back_l0 t hf hr m h1 by_ m 0 (by omega)
    · rw [takeS_space hr h1]
      simp only [if_neg (show ¬ ((31 : Int) = 0) by decide)]
      refine Ev.bind alive_ev ?_
      simp only [if_true]
      refine Ev.bind (free_ev t (by omega)) ?_
      exact now (decide_eq_true (by omega))
end Go.Proofs.Ythhkinkcelcgaaa.Pure

/- What the laws of the room seat share, as plain laws. -/
import Derived.Test.YthhkinkcelcgaaaEvd
namespace Go.Proofs.Ythhkinkcelcgaaa.Pure
open Go.RowKit Go.Proofs.Ythhkinkcelcgaaa.R Go.Proofs.YthhkinkcelcgaaaW.PrintWords Go.Proofs.YthhkinkcelcgaaaW.PrintLast Go.Proofs.YthhkinkcelcgaaaW.PrintMore
set_option linter.unusedVariables false

theorem mn_min (a : Int) (b : Nat) : 0 ≤ a → ∃ m : Nat, mn a (b : Int) = m ∧ (m : Int) ≤ a ∧ m ≤ b := by
  intro h
  obtain ⟨n, rfl⟩ := Int.eq_ofNat_of_zero_le h
  unfold mn
  split
  · exact ⟨b, rfl, by omega, by omega⟩
  · exact ⟨n, rfl, by omega, by omega⟩
theorem mnmx (a : Int) : ∃ m : Nat, mn (mx a 0) 300 = m ∧ m ≤ 300 := by
  obtain ⟨m, h1, _, h2⟩ := mn_min (mx a 0) 300 (by unfold mx; split <;> omega)
  exact ⟨m, h1, h2⟩

/-! ### a row with some taken -/
theorem getD_iff {a b : List Bool} (hl : a.length = b.length) (h : ∀ j, j < a.length → (a.getD j false = true ↔ b.getD j false = true)) : a = b := by
  apply List.ext_getElem hl
  intro i h1 h2
  have := h i h1
  rw [getD_of h1, getD_of h2] at this
  exact Bool.eq_iff_iff.2 this
theorem all54 {l : List Bool} (h : 54 ≤ l.length) : ((l.take 54).all id = true) ↔ ∀ j, j < 54 → l.getD j false = true := by
  rw [List.all_eq_true]
  constructor
  · intro ha j hj
    rw [getD_of (show j < l.length by omega)]
    exact ha _ (List.mem_iff_getElem.2 ⟨j, by simp; omega, by simp⟩)
  · intro ha x hx
    obtain ⟨j, hj, rfl⟩ := List.mem_iff_getElem.1 hx
    have hj' : j < 54 := by simp at hj; omega
    have := ha j hj'
    rw [getD_of (show j < l.length by omega)] at this
    simpa using this
theorem tk_right {l : List Bool} (hr : rt l = true) {m : Nat} (hm : m ≤ fr l) : rt (tk m 0 l).1 = true := by
  obtain ⟨h1, h2, h3⟩ := rt_len hr
  obtain ⟨a, _, _, _, _, f⟩ := tk_spec l m 0 hm
  simp only [rt, Bool.and_eq_true, decide_eq_true_eq, a]
  refine ⟨⟨h1, h2⟩, (all54 (by omega)).2 fun j hj => ?_⟩
  exact ((f j (by omega)).1 ((all54 (by omega)).1 h3 j hj)).1
theorem tk_mem {l : List Bool} (hr : rt l = true) {m : Nat} (hm : m ≤ fr l) : ∀ s ∈ (tk m 0 l).2, 54 ≤ s ∧ s < l.length ∧ l.getD s.toNat false = false ∧ (tk m 0 l).1.getD s.toNat false = true := by
  obtain ⟨h1, h2, h3⟩ := rt_len hr
  obtain ⟨a, _, _, d, _, _⟩ := tk_spec l m 0 hm
  intro s hs
  obtain ⟨j, rfl, e1, e2⟩ := d s hs
  have hj := (List.getElem?_eq_some_iff.1 e1).1
  simp only [Nat.zero_add, Int.toNat_natCast]
  have g1 : l.getD j false = false := by simp [List.getD_eq_getElem?_getD, e1]
  refine ⟨?_, by omega, g1, by simp [List.getD_eq_getElem?_getD, e2]⟩
  rcases Nat.lt_or_ge j 54 with h | h
  · have := (all54 (by omega)).1 h3 j h
    rw [g1] at this
    cases this
  · omega
theorem give_back {l : List Bool} (hr : rt l = true) {m : Nat} (hm : m ≤ fr l) (ss : List Int) (hn : ss.Nodup) (hs : ∀ s, s ∈ ss ↔ s ∈ (tk m 0 l).2) : giveS (tk m 0 l).1 ss = (l, 0) := by
  obtain ⟨a, _, _, _, _, f⟩ := tk_spec l m 0 hm
  obtain ⟨y, h1, h2, h3⟩ := gv_all ss (tk m 0 l).1 hn (fun s h => by
    obtain ⟨q1, q2, _, q4⟩ := tk_mem hr hm s ((hs s).1 h)
    exact ⟨q1, by rw [a]; exact q2, q4⟩)
  have e : y = l := getD_iff (by rw [h2, a]) fun j hj => by
    rw [h3 j, f j (by omega), hs]
    simp
  rw [giveS, tk_right hr hm, if_pos rfl, h1, e]; rfl
theorem takeS_ok {l : List Bool} (hr : rt l = true) {m : Nat} (hm : m ≤ fr l) : takeS l (m : Int) = ((tk m 0 l).1, (tk m 0 l).2, 0) := by
  rw [takeS, if_neg (by simp [hr]), if_neg (by omega), Int.toNat_natCast]
theorem takeS_space {l : List Bool} (hr : rt l = true) {m : Nat} (hm : ¬ m ≤ fr l) : takeS l (m : Int) = ([], [], 31) := by
  rw [takeS, if_neg (by simp [hr]), if_pos (by omega)]

end Go.Proofs.Ythhkinkcelcgaaa.Pure

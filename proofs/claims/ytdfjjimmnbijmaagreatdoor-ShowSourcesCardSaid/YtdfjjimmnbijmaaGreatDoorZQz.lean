import Derived.Test.YtdfjjimmnbijmaaGreatDoorZQx
import Derived.Test.YtdfjjimmnbijmaaGreatDoorZQy
namespace Go.Proofs.YtdfjjimmnbijmaaGreatDoor.ZQ
open Go.RowKit Go.Proofs.YtdfjjimmnbijmaaGreatDoorW.PrintWords Go.Proofs.YtdfjjimmnbijmaaGreatDoorW.PrintLast Go.Proofs.YtdfjjimmnbijmaaGreatDoorW.PrintMore Go.Proofs.YtdfjjimmnbijmaaGreatDoor.Base
attribute [local go_sem] max2_int min2_int max_two min_two max_three min_three max_four min_four
set_option linter.unusedVariables false
set_option linter.unusedSimpArgs false
/-! ### ShowSources is true -/
theorem alive17 : doorwardlaw17_alive.f = some true := by kernel_rfl
theorem parse_err {c : ByteArray} (h : (parseS c).2.2.2.2.1 = 0) : ∃ x l, (lexS c).2.1 = 0 ∧ policyP (lexS c).1 = .ok (x, l) ∧ parseS c = (x.f0, x.f1, x.f2, x.f3, 0, 0) := by
  unfold parseS at h ⊢
  by_cases h0 : (lexS c).2.1 = 0
  · rw [if_pos h0] at h ⊢
    cases hp : policyP (lexS c).1 with
    | ok x => obtain ⟨x, l⟩ := x; exact ⟨x, l, h0, rfl, rfl⟩
    | error e =>
      rw [hp] at h
      obtain ⟨b, p⟩ := e
      have h : b = 0 := h
      rcases policy_bad hp with q | q <;> omega
  · rw [if_neg h0] at h; exact absurd h h0
theorem lexS_size {c : ByteArray} (h : (lexS c).2.1 = 0) : c.size ≤ 2000 := by
  unfold lexS at h
  split at h
  · cases h
  · omega
theorem showSources_ev (s : ByteArray) : Ev (fun k => doorwardlaw17_ShowSources.f k s) true := by
  have hj0 : 0 ≤ mn (s.size : Int) 2100 := by unfold mn; split <;> omega
  have hj1 : mn (s.size : Int) 2100 ≤ (s.size : Int) := by unfold mn; split <;> omega
  unfold doorwardlaw17_ShowSources.f
  simp only [if_pos hj0, if_pos hj1, parse_Parse.f, Option.bind_some]
  generalize s.extract 0 (mn (s.size : Int) 2100).toNat = c
  by_cases he : (parseS c).2.2.2.2.1 = 0
  · obtain ⟨x, l, h0, hp, e⟩ := parse_err he
    obtain ⟨g, w⟩ := lexS_good h0
    have hw := lexS_size h0
    obtain ⟨v0, v1, hr, hl, hs⟩ := policy_good g hp
    have hrng : ∀ r ∈ x.f3, rngC r.f3 = true ∧ 0 ≤ r.f1 ∧ r.f1 < 18446744073709551616 := fun r h => by obtain ⟨k, _, ri⟩ := hr r h; exact ri.rng
    have hok : ∀ r ∈ x.f3, okR r := fun r h => by obtain ⟨k, hk, ri⟩ := hr r h; exact ⟨ri.rng.1, ri.rng.2.1, ri.rng.2.2, by have := ri.len.1; omega⟩
    have hlk := like_ev x.f0 x.f1 x.f2 x.f3 (by omega) (fun r h => by obtain ⟨k, hk, ri⟩ := hr r h; have h1 := ri.len.1; have h2 := ri.len.2.1; omega)
    have hpr := print_f x.f0 x.f1 x.f2 x.f3 v0 v1 hok
    simp only [e, ↓reduceIte, hpr, Option.bind_some]
    by_cases hS : (sourceS x.f0 x.f1 x.f2 x.f3).2 = true
    · have e0 : (outP (sourceS x.f0 x.f1 x.f2 x.f3)).2 = 0 := by unfold outP; rw [if_pos hS]
      have e1 : (outP (sourceS x.f0 x.f1 x.f2 x.f3)).1 = (sourceS x.f0 x.f1 x.f2 x.f3).1 := by unfold outP; rw [if_pos hS]
      obtain ⟨hp2, _⟩ := parse_source v0 v1 hrng hS
      simp only [e0, e1, ↓reduceIte, hp2, hpr, Option.bind_some, alive17]
      refine Ev.bind hlk ?_
      simp only [↓reduceIte]
      exact now (by simp)
    · have e0 : (outP (sourceS x.f0 x.f1 x.f2 x.f3)).2 = 1 := by unfold outP; rw [if_neg hS]
      have hc : 300 < c.size := by
        rcases Nat.lt_or_ge 300 c.size with q | q
        · exact q
        · exact absurd (hs (by omega)) hS
      simp only [e0, show ¬ (1 : Int) = 0 by decide, ↓reduceIte, alive17, Option.bind_some]
      exact now (by rw [decide_eq_true_eq]; omega)
  · simp only [he, ↓reduceIte, alive17, Option.bind_some]
    exact now rfl
theorem sources_any (s : ByteArray) (w : World) (hLd : LaidAt w) :
    Calls Tryz.prog 4 #[.string s] w fun e w' => e = .returned (.bool true) ∧ Below w.heap.size w w' := by
  obtain ⟨k, hk⟩ := Ev.rounds (showSources_ev s)
  exact doorwardlaw17_ShowSources.calls k s true w hLd hk

end Go.Proofs.YtdfjjimmnbijmaaGreatDoor.ZQ

import Derived.Test.YtdfjjimmnbijmaaDoorLBpC
import Derived.Test.YtdfjjimmnbijmaaDoorLB4
namespace Go.Proofs.YtdfjjimmnbijmaaDoor.LB
open Go.RowKit Go.Proofs.YtdfjjimmnbijmaaDoorW.PrintWords Go.Proofs.YtdfjjimmnbijmaaDoorW.PrintLast Go.Proofs.YtdfjjimmnbijmaaDoorW.PrintMore Go.Proofs.YtdfjjimmnbijmaaDoor.Base
attribute [local go_sem] max2_int min2_int max_two min_two max_three min_three max_four min_four
set_option linter.unusedVariables false
set_option linter.unusedSimpArgs false
/-! ### the tokens' places -/
def Good (s : ByteArray) : Nat → List S34 → Prop
  | _, [] => True
  | p, t :: l => ∃ (q n : Nat) (k : Int), p ≤ q ∧ t = ⟨k, s.extract q (q + n), q⟩ ∧ 1 ≤ k ∧ k ≤ 4 ∧ 1 ≤ n ∧ q + n ≤ s.size ∧ Good s (q + n) l
theorem Good.lower {s : ByteArray} : ∀ {l : List S34} {p p' : Nat}, p' ≤ p → Good s p l → Good s p' l
  | [], _, _, _, _ => trivial
  | t :: l, p, p', h, ⟨q, n, k, h1, h2, h3⟩ => ⟨q, n, k, Nat.le_trans h h1, h2, h3⟩
theorem LX_good (s : ByteArray) : ∀ (d p : Nat), s.size - p ≤ d → p ≤ s.size → ∀ l, LX s p = .ok l → Good s p l := by
  intro d
  induction d with
  | zero =>
    intro p hd hp l h
    rw [LX_end s (by omega)] at h
    cases h; exact trivial
  | succ d ih =>
    intro p hd hp l h
    by_cases hlt : p < s.size
    · rw [LX_step s hlt] at h
      cases hst : stepL s p with
      | none => rw [hst] at h; cases h
      | some x =>
        obtain ⟨n, kk⟩ := x
        have hn := stepL_pos hlt hst
        rw [hst] at h
        cases kk with
        | none => exact (ih (p + n) (by omega) hn.2 l h).lower (by omega)
        | some kd =>
          have hk := stepL_kind hst
          simp only at h
          cases hr : LX s (p + n) with
          | error e => rw [hr] at h; cases h
          | ok m =>
            rw [hr] at h
            cases h
            exact ⟨p, n, kd, Nat.le_refl _, rfl, hk.1, hk.2, hn.1, hn.2, ih (p + n) (by omega) hn.2 m hr⟩
    · rw [LX_end s (by omega)] at h
      cases h; exact trivial
theorem LX_err (s : ByteArray) : ∀ (d p : Nat), s.size - p ≤ d → p ≤ s.size → ∀ e, LX s p = .error e → e ≤ s.size := by
  intro d
  induction d with
  | zero =>
    intro p hd hp e h
    rw [LX_end s (by omega)] at h
    cases h
  | succ d ih =>
    intro p hd hp e h
    by_cases hlt : p < s.size
    · rw [LX_step s hlt] at h
      cases hst : stepL s p with
      | none => rw [hst] at h; cases h; exact hp
      | some x =>
        obtain ⟨n, kk⟩ := x
        have hn := stepL_pos hlt hst
        rw [hst] at h
        cases kk with
        | none => exact ih (p + n) (by omega) hn.2 e h
        | some kd =>
          simp only at h
          cases hr : LX s (p + n) with
          | error e' => rw [hr] at h; cases h; exact ih (p + n) (by omega) hn.2 e hr
          | ok m => rw [hr] at h; cases h
    · rw [LX_end s (by omega)] at h
      cases h
def endT (s : ByteArray) : S34 := ⟨0, s.extract s.size s.size, s.size⟩
theorem rd_at (pre : List S34) (t : S34) (l : List S34) : rd_T34 (pre ++ t :: l) (pre.length : Int) = t := by
  simp [rd_T34, List.getD_eq_getElem?_getD]
theorem ext_size (s : ByteArray) (q n : Nat) (h : q + n ≤ s.size) : (s.extract q (q + n)).size = n := by simp; omega
theorem places_step (s : ByteArray) (hs : s.size ≤ 1000000) (pre : List S34) (t : S34) (l : List S34) (hl : pre.length + l.length ≤ 1000000) (last q n : Nat) (k : Int) (h1 : last ≤ q) (h2 : q + n ≤ s.size) (ht : t = ⟨k, s.extract q (q + n), q⟩)
    (hk : (k == 0) = decide (l.length = 0)) (hn : decide (n = 0) = (k == 0)) (r : Bool)
    (h : Ev (fun m => doorwardlaw14_LexPlaces.l0 m s (pre ++ t :: l) ((q + n : Nat) : Int) (pre ++ t :: l) ((pre ++ t :: l).length : Int) ((pre.length + 1 : Nat) : Int)) r) :
    Ev (fun m => doorwardlaw14_LexPlaces.l0 m s (pre ++ t :: l) (last : Int) (pre ++ t :: l) ((pre ++ t :: l).length : Int) (pre.length : Int)) r := by
  have g1 : ¬ (q : Int) < (last : Int) := by clear h hk hn; omega
  have g2 : ¬ ((q + n : Nat) : Int) > (s.size : Int) := by clear h hk hn g1; omega
  have g3 : 0 ≤ (q : Int) := Int.natCast_nonneg q
  have g4 : (q : Int) ≤ ((q + n : Nat) : Int) := Int.ofNat_le.2 (Nat.le_add_right q n)
  have g5 : ((q + n : Nat) : Int) ≤ (s.size : Int) := Int.ofNat_le.2 h2
  have hll : (pre ++ t :: l).length = pre.length + l.length + 1 := by simp; omega
  have hrd := rd_at pre t l
  have e0 : t.f0 = k := by rw [ht]
  have e1 : t.f1 = s.extract q (q + n) := by rw [ht]
  have e2 : t.f2 = (q : Int) := by rw [ht]
  have esz := ext_size s q n h2
  have ew : wrap64 ((q : Int) + (n : Int)) = ((q + n : Nat) : Int) := by rw [wr (by omega) (by omega)]; omega
  have el : wrap64 (((pre ++ t :: l).length : Int) - 1) = ((pre.length + l.length : Nat) : Int) := by rw [hll, wr (by omega) (by omega)]; omega
  have en : ((s.extract q (q + n)).toList == ([] : List UInt8)) = (k == 0) := by
    rw [← hn, Bool.eq_iff_iff, beq_iff_eq, decide_eq_true_iff, nil_iff, esz]
  have ei : (((pre.length : Nat) : Int) == ((pre.length + l.length : Nat) : Int)) = decide (l.length = 0) := by
    rw [Bool.eq_iff_iff, beq_iff_eq, decide_eq_true_iff]; omega
  apply succ
  generalize hL : pre ++ t :: l = L at h hll hrd el ⊢
  simp only [doorwardlaw14_LexPlaces.l0]
  have hself : ¬ ((decide (l.length = 0) != decide (l.length = 0)) = true) := by simp
  refine evP (show ((pre.length : Nat) : Int) < (L.length : Int) by omega) ?_
  refine evP (show 0 ≤ ((pre.length : Nat) : Int) by omega) ?_
  refine evP (show ((pre.length : Nat) : Int) < (L.length : Int) by omega) ?_
  rw [hrd]
  rw [e2]
  rw [e1]
  rw [e0]
  rw [esz]
  rw [ew]
  refine evN g1 ?_
  refine evN g2 ?_
  refine evP g3 ?_
  refine evP g4 ?_
  refine evP g5 ?_
  rw [Int.toNat_natCast]
  rw [Int.toNat_natCast]
  refine evP rfl ?_
  rw [en]
  rw [el]
  rw [ei]
  rw [hk]
  refine evN hself ?_
  refine evN hself ?_
  rw [w1 (show pre.length < 9223372036854775807 by omega)]
  exact h
theorem places_l0 (s : ByteArray) (hs : s.size ≤ 1000000) : ∀ (l pre : List S34) (p last : Nat), Good s p l → last ≤ p → p ≤ s.size → pre.length + l.length + 1 ≤ 1000000 →
    Ev (fun m => doorwardlaw14_LexPlaces.l0 m s (pre ++ (l ++ [endT s])) (last : Int) (pre ++ (l ++ [endT s])) ((pre ++ (l ++ [endT s])).length : Int) (pre.length : Int)) true := by
  intro l
  induction l with
  | nil =>
    intro pre p last _ h1 h2 h3
    have h3' : pre.length + ([] : List S34).length ≤ 1000000 := by simp at h3 ⊢; omega
    refine places_step s hs pre (endT s) [] h3' last s.size 0 0 (by omega) (by omega) rfl rfl rfl true ?_
    have hll : (pre ++ [endT s]).length = pre.length + 1 := by simp
    have hrd := rd_at pre (endT s) []
    have el : wrap64 (((pre ++ [endT s]).length : Int) - 1) = (pre.length : Int) := by rw [hll, wr (by simp at h3; omega) (by simp at h3; omega)]; omega
    apply succ
    generalize hL : pre ++ [endT s] = L at hll hrd el ⊢
    simp only [doorwardlaw14_LexPlaces.l0]
    refine evN (show ¬ ((pre.length + 1 : Nat) : Int) < (L.length : Int) by omega) ?_
    rw [alive_f]
    simp only [Option.bind_some]
    refine evP trivial ?_
    refine evP (show (L.length : Int) > 0 by omega) ?_
    rw [el]
    refine evP (show 0 ≤ (pre.length : Int) by omega) ?_
    refine evP (show (pre.length : Int) < (L.length : Int) by omega) ?_
    rw [hrd]
    exact now (by simp [endT])
  | cons t l ih =>
    intro pre p last hg h1 h2 h3
    obtain ⟨q, n, k, g1, g2, g3, g4, g5, g6, g7⟩ := hg
    have hne : (k == 0) = false := by simp; omega
    refine places_step s hs pre t (l ++ [endT s]) (by simp at h3 ⊢; omega) last q n k (by omega) g6 g2 (by rw [hne]; simp) (by rw [hne]; simp; omega) true ?_
    have := ih (pre ++ [t]) (q + n) (q + n) g7 (Nat.le_refl _) g6 (by simp at h3 ⊢; omega)
    simpa using this
theorem lexPlaces_law (a0 : ByteArray) : Ev (fun k => doorwardlaw14_LexPlaces.f k a0) true := by
  have h1 := sh_le a0
  simp only [doorwardlaw14_LexPlaces.f, short_f]
  show Ev (fun k => (some (sh a0)).bind fun t113 => (some (lexS t113)).bind _) true
  simp only [Option.bind_some]
  generalize sh a0 = s at h1 ⊢
  by_cases hl : 2000 < s.size
  · have : lexS s = ([], 2, 0) := by unfold lexS; rw [if_pos hl]
    rw [this]
    simp only
    refine evN (show ¬ (2 : Int) = 0 by decide) ?_
    rw [alive_f]
    exact now (by simp)
  · rw [lexS_LX s hl]
    cases h : LX s 0 with
    | error e =>
      have he := LX_err s s.size 0 (by omega) (by omega) e h
      simp only [ahead, lexR]
      refine evN (show ¬ (60 : Int) = 0 by decide) ?_
      rw [alive_f]
      simp only [Option.bind_some, List.length_nil]
      refine evP trivial ?_
      refine evP rfl ?_
      refine evP (show (e : Int) ≥ 0 by omega) ?_
      exact now (decide_eq_true (Int.ofNat_le.2 he))
    | ok l =>
      have hg := LX_good s s.size 0 (by omega) (by omega) l h
      have hlen := ahead_len s s.size 0 (by omega) (by omega) l h
      simp only [ahead, lexR, List.nil_append]
      refine evP trivial ?_
      exact places_l0 s (by omega) l [] 0 0 hg (Nat.le_refl _) (by omega) (by simp; omega)

end Go.Proofs.YtdfjjimmnbijmaaDoor.LB

import Derived.Test.YtdfjjimmnbijmaaDoorPPpA
import Derived.Test.YtdfjjimmnbijmaaDoorPPpX
namespace Go.Proofs.YtdfjjimmnbijmaaDoor.PP
open Go.RowKit Go.Proofs.YtdfjjimmnbijmaaDoorW.PrintWords Go.Proofs.YtdfjjimmnbijmaaDoorW.PrintLast Go.Proofs.YtdfjjimmnbijmaaDoorW.PrintMore Go.Proofs.YtdfjjimmnbijmaaDoor.Base
attribute [local go_sem] max2_int min2_int max_two min_two max_three min_three max_four min_four
set_option linter.unusedVariables false
set_option linter.unusedSimpArgs false
/-! ### a source that is cut at a token's place -/
theorem LB_take : ∀ (m : Nat) (l : List UInt8) (o : Nat), l.length ≤ m → ∀ ts, LB l o = .ok ts → ∀ ts1 t ts2, ts = ts1 ++ t :: ts2 → ∀ j : Nat, t.f2 = ((o + j : Nat) : Int) → LB (l.take j) o = .ok ts1 := by
  intro m
  induction m with
  | zero =>
    intro l o h ts hts ts1 t ts2 e j hj
    obtain rfl : l = [] := List.length_eq_zero_iff.1 (by omega)
    cases hts
    cases ts1 <;> cases e
  | succ m ih =>
    intro l o h ts hts ts1 t ts2 e j hj
    by_cases hl : l = []
    · subst hl; cases hts
      cases ts1 <;> cases e
    · rw [LB_step l o hl] at hts
      cases hs : stepB l with
      | none => rw [hs] at hts; cases hts
      | some x =>
        obtain ⟨n, k⟩ := x
        have hp := stepB_pos hs
        have hlen : (l.drop n).length = l.length - n := List.length_drop ..
        rw [hs] at hts
        -- what stands behind the first piece
        have later : ∀ (tt : List S34) (a1 : List S34), LB (l.drop n) (o + n) = .ok tt → tt = a1 ++ t :: ts2 → n ≤ j ∧ l.take j ≠ [] ∧ LB ((l.take j).drop n) (o + n) = .ok a1 := by
          intro tt a1 h1 h2
          obtain ⟨i, h3, h4⟩ := LB_at (l.drop n).length (l.drop n) (o + n) (Nat.le_refl _) tt h1 t (by rw [h2]; simp)
          have h5 : j = n + i := by have := hj.symm.trans h3; omega
          have h6 := ih (l.drop n) (o + n) (by omega) tt h1 a1 t ts2 h2 i (by rw [h3])
          refine ⟨by omega, ?_, ?_⟩
          · intro e0
            have := congrArg List.length e0
            rw [List.length_take, List.length_nil] at this
            omega
          · rw [List.drop_take, h5, Nat.add_sub_cancel_left]; exact h6
        cases k with
        | none =>
          obtain ⟨h1, h2, h3⟩ := later ts ts1 hts e
          rw [LB_step _ _ h2, stepB_take hs h1]
          exact h3
        | some k =>
          simp only at hts
          cases hr : LB (l.drop n) (o + n) with
          | error e => rw [hr] at hts; cases hts
          | ok tt =>
            rw [hr] at hts
            have hts' := Except.ok.inj hts
            rw [e] at hts'
            cases ts1 with
            | nil =>
              obtain ⟨e1, e2⟩ := List.cons.inj hts'
              have hj0 : j = 0 := by rw [← e1] at hj; simp only at hj; omega
              rw [hj0, List.take_zero]; rfl
            | cons t0 a1 =>
              obtain ⟨e1, e2⟩ := List.cons.inj hts'
              obtain ⟨h1, h2, h3⟩ := later tt a1 hr e2
              rw [LB_step _ _ h2, stepB_take hs h1]
              simp only [h3, take_min l h1]
              rw [← e1]; rfl
theorem LB_inc : ∀ (m : Nat) (l : List UInt8) (o : Nat), l.length ≤ m → ∀ ts, LB l o = .ok ts → ts.Pairwise (fun a b => a.f2 < b.f2) := by
  intro m
  induction m with
  | zero =>
    intro l o h ts hts
    obtain rfl : l = [] := List.length_eq_zero_iff.1 (by omega)
    cases hts; exact List.Pairwise.nil
  | succ m ih =>
    intro l o h ts hts
    by_cases hl : l = []
    · subst hl; cases hts; exact List.Pairwise.nil
    · rw [LB_step l o hl] at hts
      cases hs : stepB l with
      | none => rw [hs] at hts; cases hts
      | some x =>
        obtain ⟨n, k⟩ := x
        have hp := stepB_pos hs
        have hlen : (l.drop n).length = l.length - n := List.length_drop ..
        rw [hs] at hts
        cases k with
        | none => exact ih (l.drop n) (o + n) (by omega) ts hts
        | some k =>
          simp only at hts
          cases hr : LB (l.drop n) (o + n) with
          | error e => rw [hr] at hts; cases hts
          | ok tt =>
            rw [hr] at hts
            have hts' := Except.ok.inj hts
            rw [← hts']
            refine List.Pairwise.cons (fun u hu => ?_) (ih (l.drop n) (o + n) (by omega) tt hr)
            obtain ⟨i, h3, h4⟩ := LB_at (l.drop n).length (l.drop n) (o + n) (Nat.le_refl _) tt hr u hu
            rw [h3]; show (o : Int) < _; omega
def endK (n : Nat) : S34 := ⟨0, ⟨#[]⟩, n⟩
theorem lexS_B (s : ByteArray) (hs : s.size ≤ 2000) : lexS s = match LB s.data.toList 0 with | .ok l => (l ++ [endK s.size], 0, 0) | .error p => ([], 60, p) := by
  have h := LX_LB s 0 (Nat.zero_le _)
  unfold LX at h
  rw [Nat.sub_zero, List.drop_zero] at h
  have he : s.extract s.size s.size = ⟨#[]⟩ := by
    apply ba_ext
    rw [Lib.extract_data, Nat.sub_self, List.take_zero]
  unfold lexS
  rw [if_neg (by omega), h]
  cases LB s.data.toList 0 with
  | ok l => simp only [lexR, he]; rfl
  | error p => rfl
/-- What the lexer makes of a source that has tokens. -/
theorem lexS_ok0 {s : ByteArray} (h : (lexS s).2.1 = 0) : s.size ≤ 2000 ∧ ∃ L, LB s.data.toList 0 = .ok L ∧ lexS s = (L ++ [endK s.size], 0, 0) := by
  have hs : s.size ≤ 2000 := by
    unfold lexS at h
    split at h
    · cases h
    · omega
  refine ⟨hs, ?_⟩
  have e := lexS_B s hs
  cases hL : LB s.data.toList 0 with
  | ok L => rw [hL] at e; exact ⟨L, rfl, e⟩
  | error p => rw [hL] at e; rw [e] at h; cases h
theorem toks_inc {s : ByteArray} {L : List S34} (h : LB s.data.toList 0 = .ok L) : LInc (L ++ [endK s.size]) := by
  refine List.pairwise_append.2 ⟨LB_inc _ _ _ (Nat.le_refl _) L h, List.pairwise_singleton _ _, fun a ha b hb => ?_⟩
  obtain ⟨j, h1, h2⟩ := LB_at _ _ _ (Nat.le_refl _) L h a ha
  rw [List.mem_singleton.1 hb, h1]
  show _ < ((s.size : Nat) : Int)
  rw [← Lib.size_eq] at h2
  omega
theorem toks_fin (L : List S34) (n : Nat) : LFin (L ++ [endK n]) := ⟨by simp, by rw [List.getLast?_append]; rfl⟩
theorem lexS_cut {s : ByteArray} {ts1 : List S34} {t : S34} {ts2 : List S34} (hs : s.size ≤ 2000) (h : LB s.data.toList 0 = .ok (ts1 ++ t :: ts2)) : ∃ j : Nat, t.f2 = (j : Int) ∧ j < s.size ∧ (s.extract 0 j).size = j ∧ lexS (s.extract 0 j) = (ts1 ++ [endK j], 0, 0) := by
  obtain ⟨j, h1, h2⟩ := LB_at _ _ _ (Nat.le_refl _) _ h t (by simp)
  rw [Nat.zero_add] at h1
  rw [← Lib.size_eq] at h2
  have hsz : (s.extract 0 j).size = j := by simp; omega
  have hd : (s.extract 0 j).data.toList = s.data.toList.take j := by rw [Lib.extract_data, List.drop_zero, Nat.sub_zero]
  have h3 := LB_take _ _ _ (Nat.le_refl _) _ h ts1 t ts2 rfl j (by rw [h1, Nat.zero_add])
  refine ⟨j, h1, h2, hsz, ?_⟩
  rw [lexS_B _ (by omega), hd, h3, hsz]
/-- A source that is refused, cut at the place: refused there, or a policy. -/
theorem parse_cut {s : ByteArray} (h0 : (lexS s).2.1 = 0) (hb : (parseS s).2.2.2.2.1 ≠ 0) : ∃ (bad : Int) (j : Nat), (parseS s).2.2.2.2.1 = bad ∧ (parseS s).2.2.2.2.2 = (j : Int) ∧ (bad = 61 ∨ bad = 62) ∧ j ≤ s.size ∧ (∃ t ∈ (lexS s).1, t.f2 = (j : Int)) ∧
    ((parseS (s.extract 0 j)).2.2.2.2.1 = 0 ∨ ((parseS (s.extract 0 j)).2.2.2.2.2 = (j : Int) ∧ ((parseS (s.extract 0 j)).2.2.2.2.1 = 61 ∨ (parseS (s.extract 0 j)).2.2.2.2.1 = bad))) := by
  obtain ⟨hs, L, hL, hS⟩ := lexS_ok0 h0
  have hp : ∀ s' : ByteArray, ∀ l, lexS s' = (l, 0, 0) → parseS s' = parseR (policyP l) := fun s' l h => by
    unfold parseS; rw [h, if_pos rfl]
  rw [hp s _ hS] at hb ⊢
  cases hr : policyP (L ++ [endK s.size]) with
  | ok x => rw [hr] at hb; exact absurd rfl hb
  | error e =>
    obtain ⟨bad, at_⟩ := e
    obtain ⟨h61, u, hu, rfl⟩ := policy_err (toks_fin L _) (toks_inc hL) hr
    rw [hS]
    rcases List.mem_append.1 hu with hu1 | hu1
    · obtain ⟨ts1, ts2, rfl⟩ := List.append_of_mem hu1
      obtain ⟨j, e1, e2, e3, e4⟩ := lexS_cut hs hL
      refine ⟨bad, j, rfl, e1, h61, by omega, ⟨u, hu, e1⟩, ?_⟩
      have hap : ts1 ++ u :: ts2 ++ [endK s.size] = ts1 ++ u :: (ts2 ++ [endK s.size]) := by simp
      rw [hap] at hr
      have hc := policy_cut ⟨u, ts2 ++ [endK s.size], endK j, rfl, rfl, e1.symm⟩ (l := ts1) (hap ▸ toks_fin _ _) (hap ▸ toks_inc hL) hr
      rw [hp _ _ e4]
      rcases hc with ⟨x, hx⟩ | hx | hx
      · rw [hx]; exact Or.inl rfl
      · rw [hx]; exact Or.inr ⟨e1, Or.inl rfl⟩
      · rw [hx]; exact Or.inr ⟨e1, Or.inr rfl⟩
    · obtain rfl := List.mem_singleton.1 hu1
      refine ⟨bad, s.size, rfl, rfl, h61, Nat.le_refl _, ⟨endK s.size, by simp, rfl⟩, ?_⟩
      have hex : s.extract 0 s.size = s := by
        apply ba_ext
        rw [Lib.extract_data, List.drop_zero, Nat.sub_zero, List.take_of_length_le (by rw [← Lib.size_eq]; omega)]
      rw [hex, hp s _ hS, hr]
      exact Or.inr ⟨rfl, Or.inr rfl⟩
/-- A policy has six tokens at least. -/
theorem policy_six {m : List S34} {x : S41 × List S34} (hf : LFin m) (h : policyP m = .ok x) : 6 ≤ m.length := by
  obtain ⟨⟨a0, m1⟩, h1, h⟩ := bnd_inv h
  obtain ⟨⟨ar, m2⟩, h2, h⟩ := bnd_inv h
  obtain ⟨⟨e1, m3⟩, h3, h⟩ := bnd_inv h
  obtain ⟨⟨d0, m4⟩, h4, h⟩ := bnd_inv h
  obtain ⟨⟨d, m5⟩, h5, h⟩ := bnd_inv h
  obtain ⟨⟨e2, m6⟩, h6, h⟩ := bnd_inv h
  have tk : ∀ {k : Int} {xs : List ByteArray} {l l' : List S34} {s : ByteArray}, k ≠ 0 → LFin l → takeP k xs l = .ok (s, l') → LFin l' ∧ l'.length + 1 = l.length ∧ (hd l).f0 = k := by
    intro k xs l l' s hk hf h
    obtain ⟨_, rfl, h2, _⟩ := takeP_ok h
    refine ⟨(lfin_tail hf (by rw [h2]; exact hk)).2, ?_, h2⟩
    have := List.length_pos_iff.2 hf.1
    simp; omega
  have wd : ∀ {l l' : List S34} {s : ByteArray}, LFin l → wordP l = .ok (s, l') → LFin l' ∧ l'.length + 1 = l.length := by
    intro l l' s hf h
    unfold wordP at h
    split at h
    · cases h
    · obtain ⟨q1, q2, _⟩ := tk (by decide) hf h; exact ⟨q1, q2⟩
  have l0 := (lines_suf m).length_le
  obtain ⟨f1, l1, _⟩ := tk (by decide) (lines_fin m hf) h1
  obtain ⟨f2, l2⟩ := wd f1 h2
  have h3' : LFin m3 ∧ m3.length + 1 ≤ m2.length := by
    simp only at h3
    unfold endP at h3
    split at h3
    · rename_i hz
      obtain ⟨_, rfl⟩ := Prod.mk.inj (Except.ok.inj h3)
      obtain ⟨_, _, q⟩ := tk (by decide) (lines_fin m2 f2) h4
      have : linesP m2 = m2 := by
        cases m2 with
        | nil => rfl
        | cons t r => unfold linesP; rw [if_neg (by have : t.f0 = 0 := hz; rw [this]; decide)]
      rw [this] at q
      have hz' : (hd m2).f0 = 0 := hz
      rw [hz'] at q; cases q
    · obtain ⟨⟨s, q⟩, g1, g2⟩ := bnd_inv h3
      obtain ⟨_, rfl⟩ := Prod.mk.inj (Except.ok.inj g2)
      obtain ⟨k1, k2, _⟩ := tk (by decide) f2 g1
      have := (lines_suf q).length_le
      exact ⟨lines_fin q k1, by show (linesP q).length + 1 ≤ _; omega⟩
  obtain ⟨f4, l4, _⟩ := tk (by decide) h3'.1 h4
  have h5' : m5.length + 1 ≤ m4.length ∧ m5 ≠ [] := by
    simp only at h5
    obtain ⟨⟨s, q⟩, g1, g2⟩ := bnd_inv h5
    obtain ⟨k1, k2⟩ := wd f4 g1
    simp only at g2
    split at g2
    · rename_i h2
      obtain ⟨⟨n, q2⟩, g3, g4⟩ := bnd_inv g2
      obtain ⟨_, rfl⟩ := Prod.mk.inj (Except.ok.inj g4)
      obtain ⟨⟨s3, q3⟩, g5, g6⟩ := bnd_inv g3
      obtain ⟨_, rfl⟩ := Prod.mk.inj (Except.ok.inj g6)
      obtain ⟨k3, k4, _⟩ := tk (by decide) k1 g5
      exact ⟨by show q3.length + 1 ≤ _; omega, k3.1⟩
    · obtain ⟨_, rfl⟩ := Prod.mk.inj (Except.ok.inj g2)
      exact ⟨by show q.length + 1 ≤ _; omega, k1.1⟩
  have := List.length_pos_iff.2 h5'.2
  have e2' := h3'.2
  have e3' := h5'.1
  omega

end Go.Proofs.YtdfjjimmnbijmaaDoor.PP

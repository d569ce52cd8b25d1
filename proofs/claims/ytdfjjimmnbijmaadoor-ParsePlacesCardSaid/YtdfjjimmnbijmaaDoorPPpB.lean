import Derived.Test.YtdfjjimmnbijmaaDoorPPpA
namespace Go.Proofs.YtdfjjimmnbijmaaDoor.PP
open Go.RowKit Go.Proofs.YtdfjjimmnbijmaaDoorW.PrintWords Go.Proofs.YtdfjjimmnbijmaaDoorW.PrintLast Go.Proofs.YtdfjjimmnbijmaaDoorW.PrintMore Go.Proofs.YtdfjjimmnbijmaaDoor.Base
attribute [local go_sem] max2_int min2_int max_two min_two max_three min_three max_four min_four
set_option linter.unusedVariables false
set_option linter.unusedSimpArgs false
/-! ### lines, rules, the policy: a cut row may be one already -/
def AtEnd (c : Cut) {α : Type} (bad : Int) (r : Except (Int × Int) (α × List TK)) : Prop := (∃ x, r = .ok (x, [c.E])) ∨ r = .error (61, c.t.f2) ∨ r = .error (bad, c.t.f2)
structure Weak (c : Cut) {α : Type} (n2 : Nat) (m : List TK) (r1 : Except (Int × Int) (α × List TK)) (r2 : List TK → Except (Int × Int) (α × List TK)) : Prop where
  snd : ∀ y m', r1 = .ok (y, m') → m' <:+ m ∧ LFin m'
  err : ∀ bad p, r1 = .error (bad, p) → (bad = 61 ∨ bad = 62) ∧ ∃ u ∈ m, p = u.f2
  sim : ∀ l, m = l ++ c.t :: c.rest → (l ++ [c.E]).length ≤ n2 → (∀ y l', r1 = .ok (y, l' ++ c.t :: c.rest) → r2 (l ++ [c.E]) = .ok (y, l' ++ [c.E])) ∧ (∀ bad, r1 = .error (bad, c.t.f2) → AtEnd c bad (r2 (l ++ [c.E])))
theorem PGood.weak {c : Cut} {α : Type} {n2 : Nat} {m : List TK} {r1 : Except (Int × Int) (α × List TK)} {r2 : List TK → Except (Int × Int) (α × List TK)} (h : PGood c n2 m r1 r2) : Weak c n2 m r1 r2 :=
  ⟨h.snd, h.err, fun l hl hn => ⟨(h.sim l hl hn).1, fun bad hh => Or.inr (Or.inr ((h.sim l hl hn).2 bad hh))⟩⟩
theorem Weak.self {c : Cut} {α : Type} {n2 : Nat} {m : List TK} {r1 : Except (Int × Int) (α × List TK)} {R : Nat → List TK → Except (Int × Int) (α × List TK)} (h : ∀ k, k ≤ n2 → Weak c k m r1 (R k)) : Weak c n2 m r1 (fun m3 => R m3.length m3) :=
  ⟨(h 0 (Nat.zero_le _)).snd, (h 0 (Nat.zero_le _)).err, fun l hl hk => (h _ hk).sim l hl (Nat.le_refl _)⟩
theorem Weak.zero {c : Cut} {α : Type} {n2 : Nat} {m : List TK} {r1 : Except (Int × Int) (α × List TK)} {r2 r2' : List TK → Except (Int × Int) (α × List TK)} (h : Weak c n2 m r1 r2) : Weak c 0 m r1 r2' :=
  ⟨h.snd, h.err, fun l hl hk => by simp at hk⟩
/-- At the end there is a value, or a failure that says that something is missing. -/
def Ends (c : Cut) {α : Type} (r : Except (Int × Int) (α × List TK)) : Prop := (∃ x, r = .ok (x, [c.E])) ∨ r = .error (61, c.t.f2)
theorem Weak.bnd {c : Cut} {α β : Type} {n2 : Nat} {m : List TK} {r1 : Except (Int × Int) (α × List TK)} {r2 : List TK → Except (Int × Int) (α × List TK)} {g1 g2 : α × List TK → Except (Int × Int) (β × List TK)} (hi : LInc m) (h : Weak c n2 m r1 r2) (hg : ∀ x m' n', r1 = .ok (x, m') → m' <:+ m → LFin m' → LInc m' → (n' = 0 ∨ n' + m.length ≤ n2 + m'.length) → Weak c n' m' (g1 (x, m')) (fun m2 => g2 (x, m2))) (he : ∀ x, Ends c (g2 (x, [c.E]))) :
    Weak c n2 m (bnd r1 g1) (fun m2 => bnd (r2 m2) g2) := by
  cases hr : r1 with
  | error e =>
    obtain ⟨b0, p0⟩ := e
    refine ⟨fun y m' hh => (by cases hh), fun bad p hh => h.err _ _ (hr.trans (by cases hh; rfl)), fun l hl hn => ⟨fun y l' hh => (by cases hh), fun bad hh => ?_⟩⟩
    have e2 := (h.sim l hl hn).2 bad (hr.trans (by cases hh; rfl))
    show AtEnd c bad (Go.Proofs.YtdfjjimmnbijmaaDoor.PP.bnd (r2 (l ++ [c.E])) g2)
    rcases e2 with ⟨x, e2⟩ | e2 | e2
    · rw [e2]
      rcases he x with ⟨y, h1⟩ | h1
      · exact Or.inl ⟨y, h1⟩
      · exact Or.inr (Or.inl h1)
    · rw [e2]; exact Or.inr (Or.inl rfl)
    · rw [e2]; exact Or.inr (Or.inr rfl)
  | ok x =>
    obtain ⟨x, m'⟩ := x
    obtain ⟨hs, hf⟩ := h.snd _ _ hr
    have hG := hg x m' 0 hr hs hf (hi.suf hs) (Or.inl rfl)
    refine ⟨fun y m'' hh => ?_, fun bad p hh => ?_, fun l hl hn => ?_⟩
    · obtain ⟨q1, q2⟩ := hG.snd y m'' hh
      exact ⟨q1.trans hs, q2⟩
    · obtain ⟨q1, u, q2, q3⟩ := hG.err bad p hh
      exact ⟨q1, u, hs.subset q2, q3⟩
    · have key : (∃ u ∈ m', u.f2 = c.t.f2) → ∃ l', m' = l' ++ c.t :: c.rest ∧ r2 (l ++ [c.E]) = .ok (x, l' ++ [c.E]) ∧ Weak c (l' ++ [c.E]).length m' (g1 (x, m')) (fun m2 => g2 (x, m2)) := by
        intro hu
        subst hl
        obtain ⟨l', e1, e2⟩ := c.at_suf hi hs hu
        refine ⟨l', e1, (h.sim l rfl hn).1 x l' (by rw [hr, e1]), hg x m' _ hr hs hf (hi.suf hs) (Or.inr ?_)⟩
        rw [e1]
        simp only [List.length_append, List.length_singleton, List.length_cons] at hn ⊢
        omega
      refine ⟨fun y l'' hh => ?_, fun bad hh => ?_⟩
      · obtain ⟨q1, _⟩ := hG.snd _ _ hh
        obtain ⟨l', e1, e2, e3⟩ := key ⟨c.t, q1.subset (by simp), rfl⟩
        show Go.Proofs.YtdfjjimmnbijmaaDoor.PP.bnd (r2 (l ++ [c.E])) g2 = _
        rw [e2]
        exact (e3.sim l' e1 (Nat.le_refl _)).1 y l'' hh
      · obtain ⟨_, u, q2, q3⟩ := hG.err _ _ hh
        obtain ⟨l', e1, e2, e3⟩ := key ⟨u, q2, q3.symm⟩
        show AtEnd c bad (Go.Proofs.YtdfjjimmnbijmaaDoor.PP.bnd (r2 (l ++ [c.E])) g2)
        rw [e2]
        exact (e3.sim l' e1 (Nat.le_refl _)).2 bad hh
theorem lines_suf : ∀ m : List TK, linesP m <:+ m
  | [] => List.suffix_refl _
  | t :: r => by
    unfold linesP
    split
    · exact (lines_suf r).trans (List.suffix_cons t r)
    · exact List.suffix_refl _
theorem lines_fin : ∀ m : List TK, LFin m → LFin (linesP m)
  | [], h => h
  | t :: r, h => by
    unfold linesP
    split
    · rename_i h4
      exact lines_fin r (lfin_tail h (by show t.f0 ≠ 0; rw [h4]; decide)).2
    · exact h
theorem lines_end (c : Cut) : linesP [c.E] = [c.E] := by
  unfold linesP
  rw [if_neg (by rw [c.k0]; decide)]
theorem lines_cut (c : Cut) : ∀ l l' : List TK, linesP (l ++ c.t :: c.rest) = l' ++ c.t :: c.rest → linesP (l ++ [c.E]) = l' ++ [c.E]
  | [], l', h => by
    rw [List.nil_append] at h ⊢
    rw [lines_end]
    unfold linesP at h
    split at h
    · have h1 := (lines_suf c.rest).length_le
      rw [h] at h1
      simp only [List.length_append, List.length_cons] at h1
      omega
    · have h2 : [] ++ c.t :: c.rest = l' ++ c.t :: c.rest := h
      rw [← (List.append_left_inj _).1 h2]; rfl
  | x :: r, l', h => by
    rw [List.cons_append] at h ⊢
    unfold linesP at h ⊢
    split at h
    · rename_i h4
      rw [if_pos h4]
      exact lines_cut c r l' h
    · rename_i h4
      rw [if_neg h4]
      rw [← List.cons_append] at h
      rw [← (List.append_left_inj _).1 h]; rfl
theorem lines_good (c : Cut) (n2 : Nat) {m : List TK} (hf : LFin m) : PGood c n2 m (.ok ((), linesP m)) (fun m2 => .ok ((), linesP m2)) := by
  refine ⟨fun y m' hh => ?_, fun bad p hh => (by cases hh), fun l hl hn => ⟨fun y l' hh => ?_, fun bad hh => (by cases hh)⟩⟩
  · obtain ⟨_, rfl⟩ := Prod.mk.inj (Except.ok.inj hh)
    exact ⟨lines_suf m, lines_fin m hf⟩
  · obtain ⟨_, e⟩ := Prod.mk.inj (Except.ok.inj hh)
    subst hl
    rw [lines_cut c l l' e]
theorem endP_end (c : Cut) : endP [c.E] = .ok ((), [c.E]) := by
  unfold endP
  rw [if_pos (show (hd [c.E]).f0 = 0 from c.k0), lines_end]
theorem endP_weak (c : Cut) (n2 : Nat) {m : List TK} (hf : LFin m) (hi : LInc m) : Weak c n2 m (endP m) endP := by
  by_cases h0 : (hd m).f0 = 0
  · have hG := lines_good c n2 hf
    have e1 : endP m = .ok ((), linesP m) := by unfold endP; rw [if_pos h0]
    refine ⟨fun y m' hh => hG.snd y m' (by rw [← e1]; exact hh), fun bad p hh => (by rw [e1] at hh; cases hh), fun l hl hn => ⟨fun y l' hh => ?_, fun bad hh => (by rw [e1] at hh; cases hh)⟩⟩
    have e2 := (hG.sim l hl hn).1 y l' (by rw [← e1]; exact hh)
    subst hl
    rcases c.heads l with ⟨h, r, rfl, h1, h2, h3, h4⟩ | ⟨rfl, h1, h2⟩
    · rw [h1, ← h2] at h0
      unfold endP
      rw [if_pos h0]; exact e2
    · rw [List.nil_append] at e2 ⊢
      rw [endP_end, ← e2, lines_end]
  · have hG : PGood c n2 m (bnd (takeP 4 [] m) fun x => .ok ((), linesP x.2)) (fun m2 => bnd (takeP 4 [] m2) fun x => .ok ((), linesP x.2)) :=
      PGood.bnd hi (take_good c n2 4 (by decide) [] hf) fun x m1 _ _ hf1 _ => lines_good c n2 hf1
    have e1 : endP m = bnd (takeP 4 [] m) fun x => .ok ((), linesP x.2) := by unfold endP; rw [if_neg h0]
    rw [e1]
    refine ⟨hG.snd, hG.err, fun l hl hn => ?_⟩
    have hs := hG.sim l hl hn
    subst hl
    rcases c.heads l with ⟨h, r, rfl, h1, h2, h3, h4⟩ | ⟨rfl, h1, h2⟩
    · rw [h1, ← h2] at h0
      have e3 : endP (h :: r ++ [c.E]) = bnd (takeP 4 [] (h :: r ++ [c.E])) fun x => .ok ((), linesP x.2) := by unfold endP; rw [if_neg h0]
      rw [e3]
      exact ⟨hs.1, fun bad hh => Or.inr (Or.inr (hs.2 bad hh))⟩
    · refine ⟨fun y l' hh => ?_, fun bad hh => Or.inl ⟨(), endP_end c⟩⟩
      have := hs.1 y l' hh
      rw [List.nil_append, take_end c 4 (by decide)] at this
      cases this
theorem rules_end (c : Cut) (n : Nat) (acc : List S81) : rulesP n acc [c.E] = .ok (acc, [c.E]) := by
  cases n with
  | zero => rfl
  | succ n =>
    rw [rulesP, if_pos]
    show isP 0 ⟨#[]⟩ [c.E] = true
    rw [isP_kind, show hd [c.E] = c.E from rfl, c.k0]; rfl
theorem Weak.mono {c : Cut} {α : Type} {n2 n : Nat} {m : List TK} {r1 : Except (Int × Int) (α × List TK)} {r2 : List TK → Except (Int × Int) (α × List TK)} (h : Weak c n2 m r1 r2) (hn : n ≤ n2) : Weak c n m r1 r2 :=
  ⟨h.snd, h.err, fun l hl hk => h.sim l hl (Nat.le_trans hk hn)⟩
theorem act_end (c : Cut) : actP [c.E] = .error (61, c.E.f2) := by unfold actP; rw [word_end]; rfl
theorem rule_end (c : Cut) : ruleP [c.E] = .error (61, c.E.f2) := by unfold ruleP; rw [act_end]; rfl
theorem rules_weak (c : Cut) : ∀ n1 k acc m, LFin m → LInc m → m.length ≤ n1 → Weak c k m (rulesP n1 acc m) (rulesP k acc) := by
  intro n1
  induction n1 with
  | zero => intro k acc m hf _ hm; exact absurd (List.length_eq_zero_iff.1 (Nat.le_zero.1 hm)) hf.1
  | succ n1 ih =>
    intro k acc m hf hi hm
    have hK : ∀ m2 : List TK, (isP 0 emptyT m2 = true) ↔ (hd m2).f0 = 0 := fun m2 => by show isP 0 ⟨#[]⟩ m2 = true ↔ _; rw [isP_kind]; simp
    have main : ∀ k, Weak c (k + 1) m (rulesP (n1 + 1) acc m) (rulesP (k + 1) acc) := by
      intro k
      by_cases h0 : isP 0 emptyT m = true
      · have e1 : rulesP (n1 + 1) acc m = .ok (acc, m) := by rw [rulesP, if_pos h0]
        rw [e1]
        have hG := PGood.ret (c := c) (n2 := k + 1) hf acc
        refine ⟨hG.snd, hG.err, fun l hl hn => ⟨fun y l' hh => ?_, fun bad hh => (by cases hh)⟩⟩
        have hs := (hG.sim l hl hn).1 y l' hh
        subst hl
        rcases c.heads l with ⟨h, r, rfl, h1, h2, h3, h4⟩ | ⟨rfl, h1, h2⟩
        · have : isP 0 emptyT (h :: r ++ [c.E]) = true := (hK _).2 (by rw [h2, ← h1]; exact (hK _).1 h0)
          rw [rulesP, if_pos this]; exact hs
        · rw [List.nil_append] at hs ⊢
          rw [rules_end]; exact hs
      · have e1 : rulesP (n1 + 1) acc m = bnd (ruleP m) fun r => bnd (endP r.2) fun e => rulesP n1 (acc ++ [r.1]) e.2 := by rw [rulesP, if_neg h0]
        rw [e1]
        have hne : m ≠ [] := hf.1
        have hW : Weak c (k + 1) m (bnd (ruleP m) fun r => bnd (endP r.2) fun e => rulesP n1 (acc ++ [r.1]) e.2) (fun m2 => bnd (ruleP m2) fun r => bnd (endP r.2) fun e => rulesP k (acc ++ [r.1]) e.2) := by
          refine Weak.bnd hi (rule_good c (k + 1) hf hi).weak (fun r4 m1 n' hr hs1 hf1 hi1 hn => ?_) (fun r4 => ?_)
          · have hlt := rule_lt hne hr
            try dsimp only
            refine Weak.bnd (g2 := fun e => rulesP k (acc ++ [r4]) e.2) hi1 (endP_weak c n' hf1 hi1) (fun u m2 n'' _ hs2 hf2 hi2 hn2 => ?_) (fun u => Or.inl ⟨_, rules_end c k _⟩)
            have h2 := hs2.length_le
            exact (ih k (acc ++ [r4]) m2 hf2 hi2 (by omega)).mono (by omega)
          · show Ends c (bnd (endP [c.E]) fun e => rulesP k (acc ++ [r4]) e.2)
            rw [endP_end]
            exact Or.inl ⟨_, rules_end c k _⟩
        refine ⟨hW.snd, hW.err, fun l hl hn => ?_⟩
        have hs := hW.sim l hl hn
        subst hl
        rcases c.heads l with ⟨h, r, rfl, h1, h2, h3, h4⟩ | ⟨rfl, h1, h2⟩
        · have e3 : ¬ isP 0 emptyT (h :: r ++ [c.E]) = true := by rw [hK, h2, ← h1, ← hK]; exact h0
          rw [rulesP, if_neg e3]; exact hs
        · simp only [List.nil_append, rules_end] at hs ⊢
          refine ⟨fun y l' hh => ?_, fun bad hh => Or.inl ⟨_, rfl⟩⟩
          have := hs.1 y l' hh
          rw [rule_end] at this
          cases this
    cases k with
    | zero => exact (main 0).zero
    | succ k => exact main k
theorem policy_weak (c : Cut) (n2 : Nat) {m : List TK} (hf : LFin m) (hi : LInc m) : Weak c n2 m (policyP m) policyP := by
  have hL : Weak c n2 m (bnd (.ok ((), linesP m)) fun u => bnd (takeP 1 [archT] u.2) fun a0 => bnd (wordP a0.2) fun ar => bnd (endP ar.2) fun e1 => bnd (takeP 1 [defT] e1.2) fun d0 => bnd (actP d0.2) fun d => bnd (endP d.2) fun e2 => bnd (rulesP e2.2.length [] e2.2) fun rs => .ok ((⟨ar.1, d.1.1, d.1.2, rs.1⟩ : S41), rs.2))
      (fun m2 => bnd (.ok ((), linesP m2)) fun u => bnd (takeP 1 [archT] u.2) fun a0 => bnd (wordP a0.2) fun ar => bnd (endP ar.2) fun e1 => bnd (takeP 1 [defT] e1.2) fun d0 => bnd (actP d0.2) fun d => bnd (endP d.2) fun e2 => bnd (rulesP e2.2.length [] e2.2) fun rs => .ok ((⟨ar.1, d.1.1, d.1.2, rs.1⟩ : S41), rs.2)) := by
    have t1 : ∀ {α : Type} (x : ByteArray) (g : ByteArray × List TK → Except (Int × Int) (α × List TK)), Ends c (bnd (takeP 1 [x] [c.E]) g) := fun x g => by rw [take_end c 1 (by decide), c.p0]; exact Or.inr rfl
    refine Weak.bnd hi (lines_good c n2 hf).weak (fun u m1 n' _ _ hf1 hi1 _ => ?_) (fun u => t1 _ _)
    try dsimp only
    refine Weak.bnd hi1 (take_good c n' 1 (by decide) [archT] hf1).weak (fun a0 m2 n' _ _ hf2 hi2 _ => ?_) (fun a0 => ?_)
    rotate_left
    · show Ends c (bnd (wordP [c.E]) _)
      rw [word_end, c.p0]; exact Or.inr rfl
    try dsimp only
    refine Weak.bnd hi2 (word_good c n' hf2).weak (fun ar m3 n' _ _ hf3 hi3 _ => ?_) (fun ar => ?_)
    rotate_left
    · show Ends c (bnd (endP [c.E]) _)
      rw [endP_end]; exact t1 _ _
    try dsimp only
    refine Weak.bnd hi3 (endP_weak c n' hf3 hi3) (fun e1 m4 n' _ _ hf4 hi4 _ => ?_) (fun e1 => t1 _ _)
    try dsimp only
    refine Weak.bnd hi4 (take_good c n' 1 (by decide) [defT] hf4).weak (fun d0 m5 n' _ _ hf5 hi5 _ => ?_) (fun d0 => ?_)
    rotate_left
    · show Ends c (bnd (actP [c.E]) _)
      rw [act_end, c.p0]; exact Or.inr rfl
    try dsimp only
    refine Weak.bnd hi5 (act_good c n' hf5 hi5).weak (fun d m6 n' _ _ hf6 hi6 _ => ?_) (fun d => ?_)
    rotate_left
    · show Ends c (bnd (endP [c.E]) fun e2 => bnd (rulesP e2.2.length [] e2.2) _)
      rw [endP_end]
      show Ends c (bnd (rulesP _ [] [c.E]) _)
      rw [rules_end]; exact Or.inl ⟨_, rfl⟩
    try dsimp only
    refine Weak.bnd hi6 (endP_weak c n' hf6 hi6) (fun e2 m7 n' _ _ hf7 hi7 _ => ?_) (fun e2 => ?_)
    rotate_left
    · show Ends c (bnd (rulesP _ [] [c.E]) _)
      rw [rules_end]; exact Or.inl ⟨_, rfl⟩
    try dsimp only
    refine Weak.bnd hi7 (Weak.self (R := fun k m8 => rulesP k [] m8) fun k _ => rules_weak c m7.length k [] m7 hf7 hi7 (Nat.le_refl _)) (fun rs m8 n' _ _ hf8 hi8 _ => (PGood.ret hf8 _).weak) (fun rs => Or.inl ⟨_, rfl⟩)
  exact hL
/-- A row that is refused at a token, cut ahead of it, is a policy or is refused at its end. -/
theorem policy_cut (c : Cut) {l : List TK} {bad : Int} (hf : LFin (l ++ c.t :: c.rest)) (hi : LInc (l ++ c.t :: c.rest)) (h : policyP (l ++ c.t :: c.rest) = .error (bad, c.t.f2)) :
    (∃ x, policyP (l ++ [c.E]) = .ok x) ∨ policyP (l ++ [c.E]) = .error (61, c.t.f2) ∨ policyP (l ++ [c.E]) = .error (bad, c.t.f2) := by
  rcases ((policy_weak c (l ++ [c.E]).length hf hi).sim l rfl (Nat.le_refl _)).2 bad h with ⟨x, h⟩ | h | h
  · exact Or.inl ⟨_, h⟩
  · exact Or.inr (Or.inl h)
  · exact Or.inr (Or.inr h)
theorem policy_err {m : List TK} {bad p : Int} (hf : LFin m) (hi : LInc m) (h : policyP m = .error (bad, p)) : (bad = 61 ∨ bad = 62) ∧ ∃ u ∈ m, p = u.f2 :=
  (policy_weak ⟨z34, [], ⟨0, ⟨#[]⟩, (z34).f2⟩, rfl, rfl, rfl⟩ 0 hf hi).err bad p h

end Go.Proofs.YtdfjjimmnbijmaaDoor.PP

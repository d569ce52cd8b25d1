import Derived.Test.YtdfjjimmnbijmaaDoorPPpC
namespace Go.Proofs.YtdfjjimmnbijmaaDoor.PP
open Go.RowKit Go.Proofs.YtdfjjimmnbijmaaDoorW.PrintWords Go.Proofs.YtdfjjimmnbijmaaDoorW.PrintLast Go.Proofs.YtdfjjimmnbijmaaDoorW.PrintMore Go.Proofs.YtdfjjimmnbijmaaDoor.Base
attribute [local go_sem] max2_int min2_int max_two min_two max_three min_three max_four min_four
set_option linter.unusedVariables false
set_option linter.unusedSimpArgs false
/-! ### lines that are doubled change nothing of what is read -/
inductive Dbl : List TK → List TK → Prop
  | nil : Dbl [] []
  | one {a a' : TK} {r r' : List TK} (h0 : a'.f0 = a.f0) (h1 : a'.f1 = a.f1) (h : Dbl r r') : Dbl (a :: r) (a' :: r')
  | two {a a' b' : TK} {r r' : List TK} (h0 : a.f0 = 4) (h1 : a'.f0 = 4) (h2 : b'.f0 = 4) (h : Dbl r r') : Dbl (a :: r) (a' :: b' :: r')
theorem Dbl.k0 {m m' : List TK} (d : Dbl m m') : (hd m').f0 = (hd m).f0 := by
  cases d with
  | nil => rfl
  | one h0 _ _ => exact h0
  | two h0 h1 _ _ => exact h1.trans h0.symm
theorem Dbl.k1 {m m' : List TK} (d : Dbl m m') (h : (hd m).f0 ≠ 4) : (hd m').f1 = (hd m).f1 ∧ Dbl m.tail m'.tail := by
  cases d with
  | nil => exact ⟨rfl, .nil⟩
  | one _ h1 h2 => exact ⟨h1, h2⟩
  | two h0 _ _ _ => exact absurd h0 h
theorem Dbl.isP_eq {m m' : List TK} (d : Dbl m m') (k : Int) (hk : k ≠ 4) (x : ByteArray) : isP k x m' = isP k x m := by
  unfold isP
  rw [d.k0]
  by_cases h : (hd m).f0 = 4
  · rw [h, show ((4 : Int) == k) = false by simpa using Ne.symm hk]; rfl
  · rw [(d.k1 h).1]
theorem Dbl.nil_of {m' : List TK} (d : Dbl [] m') : m' = [] := by cases d; rfl
theorem Dbl.of_nil {m : List TK} (d : Dbl m []) : m = [] := by cases d; rfl
theorem Dbl.tail_len {m m' : List TK} (d : Dbl m m') {k : Int} {x : ByteArray} (h : isP k x m = true) (hk : k ≠ 0) : m'.tail.length + 1 = m'.length ∧ m.tail.length + 1 = m.length := by
  have h0 : (hd m).f0 = k := by unfold isP at h; rw [Bool.and_eq_true, beq_iff_eq] at h; exact h.1
  cases d with
  | nil => exact absurd h0.symm hk
  | one _ _ _ => exact ⟨rfl, rfl⟩
  | two _ _ _ _ => exact ⟨rfl, rfl⟩
theorem take_D {k : Int} (hk : k ≠ 4) {xs : List ByteArray} {m m' l : List TK} {s : ByteArray} (d : Dbl m m') (h : takeP k xs m = .ok (s, l)) : ∃ l', takeP k xs m' = .ok (s, l') ∧ Dbl l l' := by
  unfold takeP at h ⊢
  split at h
  · rename_i hc
    obtain ⟨rfl, rfl⟩ := Prod.mk.inj (Except.ok.inj h)
    have h0 : (hd m).f0 = k := by rw [Bool.and_eq_true, beq_iff_eq] at hc; exact hc.1
    obtain ⟨e1, e2⟩ := d.k1 (by rw [h0]; exact hk)
    rw [d.k0, e1, if_pos hc]
    exact ⟨_, rfl, e2⟩
  · cases h
theorem word_D {m m' l : List TK} {s : ByteArray} (d : Dbl m m') (h : wordP m = .ok (s, l)) : ∃ l', wordP m' = .ok (s, l') ∧ Dbl l l' := by
  unfold wordP at h ⊢
  split at h
  · cases h
  · rename_i hr
    have h0 : (hd m).f0 = 1 := by
      obtain ⟨_, _, h2, _⟩ := takeP_ok h
      exact h2
    rw [(d.k1 (by rw [h0]; decide)).1, if_neg hr]
    exact take_D (by decide) d h
theorem num_D {m m' l : List TK} {s : Int} (d : Dbl m m') (h : numP m = .ok (s, l)) : ∃ l', numP m' = .ok (s, l') ∧ Dbl l l' := by
  obtain ⟨⟨a, m1⟩, h1, h2⟩ := bnd_inv h
  obtain ⟨m1', e1, d1⟩ := take_D (by decide) d h1
  obtain ⟨rfl, rfl⟩ := Prod.mk.inj (Except.ok.inj h2)
  exact ⟨m1', by unfold numP; rw [e1]; rfl, d1⟩
theorem mask_D {m m' l : List TK} {s : Int} (d : Dbl m m') (h : maskP m = .ok (s, l)) : ∃ l', maskP m' = .ok (s, l') ∧ Dbl l l' := by
  unfold maskP at h ⊢
  rw [d.isP_eq 3 (by decide)]
  split at h
  · rename_i hc
    obtain ⟨⟨a, m1⟩, h1, h2⟩ := bnd_inv h
    obtain ⟨m1', e1, d1⟩ := take_D (by decide) d h1
    rw [if_pos hc, e1, bnd_ok]
    exact num_D d1 h2
  · rename_i hc
    obtain ⟨rfl, rfl⟩ := Prod.mk.inj (Except.ok.inj h)
    rw [if_neg hc]
    exact ⟨m', rfl, d⟩
theorem test_D {m m' l : List TK} {x : S47} (d : Dbl m m') (h : testP m = .ok (x, l)) : ∃ l', testP m' = .ok (x, l') ∧ Dbl l l' := by
  obtain ⟨⟨a, m1⟩, h1, h⟩ := bnd_inv h
  obtain ⟨m1', e1, d1⟩ := take_D (by decide) d h1
  obtain ⟨⟨b, m2⟩, h2, h⟩ := bnd_inv h
  obtain ⟨m2', e2, d2⟩ := mask_D d1 h2
  obtain ⟨⟨c, m3⟩, h3, h⟩ := bnd_inv h
  obtain ⟨m3', e3, d3⟩ := take_D (by decide) d2 h3
  obtain ⟨⟨v, m4⟩, h4, h⟩ := bnd_inv h
  obtain ⟨m4', e4, d4⟩ := num_D d3 h4
  obtain ⟨rfl, rfl⟩ := Prod.mk.inj (Except.ok.inj h)
  refine ⟨m4', ?_, d4⟩
  unfold testP
  rw [e1, bnd_ok, e2, bnd_ok, e3, bnd_ok, e4, bnd_ok]
def DS (n1 n2 : Nat) (p1 p2 : List TK → Except (Int × Int) (S47 × List TK)) : Prop := ∀ m m' x l, m.length ≤ n1 → m'.length ≤ n2 → Dbl m m' → p1 m = .ok (x, l) → ∃ l', p2 m' = .ok (x, l') ∧ Dbl l l'
theorem more_D {L1 L2 : Nat} {p1 p2 : List TK → Except (Int × Int) (S47 × List TK)} (hp : DS L1 L2 p1 p2) (s1 : Shr p1) (s2 : Shr p2) (wd : ByteArray) : ∀ n1 n2 acc m m' y l, m.length ≤ n1 → m'.length ≤ n2 → m.length ≤ L1 + 1 → m'.length ≤ L2 + 1 → Dbl m m' → moreP p1 wd n1 acc m = .ok (y, l) → ∃ l', moreP p2 wd n2 acc m' = .ok (y, l') ∧ Dbl l l' := by
  intro n1
  induction n1 with
  | zero =>
    intro n2 acc m m' y l h1 h2 _ _ d h
    obtain rfl : m = [] := List.length_eq_zero_iff.1 (by omega)
    obtain rfl := d.nil_of
    cases h
    refine ⟨[], ?_, .nil⟩
    cases n2 with
    | zero => rfl
    | succ n2 => rw [moreP, if_neg]; unfold isP; simp [hd, z34]
  | succ n1 ih =>
    intro n2 acc m m' y l h1 h2 g1 g2 d h
    rw [moreP] at h
    cases n2 with
    | zero =>
      obtain rfl : m' = [] := List.length_eq_zero_iff.1 (by omega)
      obtain rfl := d.of_nil
      rw [if_neg (by unfold isP; simp [hd, z34])] at h
      cases h
      exact ⟨[], rfl, .nil⟩
    | succ n2 =>
      rw [moreP, d.isP_eq 1 (by decide)]
      split at h
      · rename_i hc
        rw [if_pos hc]
        obtain ⟨t1, t2⟩ := d.tail_len hc (by decide)
        have h0 := isP_ne hc
        obtain ⟨⟨c, m1⟩, h3, h⟩ := bnd_inv h
        obtain ⟨m1', e1, d1⟩ := hp _ _ _ _ (by omega) (by omega) (d.k1 (by rw [h0]; decide)).2 h3
        rw [e1, bnd_ok]
        have q1 := s1 _ _ _ h3
        have q2 := s2 _ _ _ e1
        exact ih n2 _ m1 m1' y l (by omega) (by omega) (by omega) (by omega) d1 h
      · rename_i hc
        rw [if_neg hc]
        obtain ⟨rfl, rfl⟩ := Prod.mk.inj (Except.ok.inj h)
        exact ⟨m', rfl, d⟩
theorem list_D {L1 L2 : Nat} {p1 p2 : List TK → Except (Int × Int) (S47 × List TK)} (hp : DS L1 L2 p1 p2) (s1 : Shr p1) (s2 : Shr p2) (wd : ByteArray) (kind : Int) : DS L1 L2 (listP p1 wd kind) (listP p2 wd kind) := by
  intro m m' x l h1 h2 d h
  obtain ⟨⟨c, m1⟩, h3, h⟩ := bnd_inv h
  obtain ⟨m1', e1, d1⟩ := hp _ _ _ _ h1 h2 d h3
  obtain ⟨⟨y, m2⟩, h4, h⟩ := bnd_inv h
  have q1 := s1 _ _ _ h3
  have q2 := s2 _ _ _ e1
  obtain ⟨m2', e2, d2⟩ := more_D hp s1 s2 wd _ m'.length _ _ m1' _ _ q1 q2 (by show m1.length ≤ _; omega) (by omega) d1 h4
  obtain ⟨rfl, rfl⟩ := Prod.mk.inj (Except.ok.inj h)
  refine ⟨m2', ?_, d2⟩
  unfold listP
  rw [e1, bnd_ok, e2, bnd_ok]
  rfl
theorem cond_D {L1 L2 : Nat} {p1 p2 : List TK → Except (Int × Int) (S47 × List TK)} (hp : DS L1 L2 p1 p2) (s1 : Shr p1) (s2 : Shr p2) : DS L1 L2 (condP p1) (condP p2) :=
  list_D (list_D hp s1 s2 andT 1) (list_shr s1 andT 1) (list_shr s2 andT 1) orT 2
theorem factor_D : ∀ n1 n2 deep, DS n1 n2 (factorP n1 deep) (factorP n2 deep) := by
  intro n1
  induction n1 with
  | zero => intro n2 deep m m' x l _ _ _ h; cases h
  | succ n1 ih =>
    intro n2 deep m m' x l h1 h2 d h
    rw [factorP] at h
    cases n2 with
    | zero =>
      obtain rfl : m' = [] := List.length_eq_zero_iff.1 (by omega)
      obtain rfl := d.of_nil
      split at h
      · cases h
      rw [if_neg (by unfold isP; simp [hd, z34]), if_neg (by unfold isP; simp [hd, z34])] at h
      obtain ⟨⟨a, m1⟩, h3, h⟩ := bnd_inv h
      obtain ⟨_, _, q, _⟩ := takeP_ok h3
      exact absurd q (by simp [hd, z34])
    | succ n2 =>
      rw [factorP, d.isP_eq 1 (by decide), d.isP_eq 3 (by decide)]
      split at h
      · cases h
      rename_i hd8
      rw [if_neg hd8]
      split at h
      · rename_i hc
        rw [if_pos hc]
        obtain ⟨t1, t2⟩ := d.tail_len hc (by decide)
        have h0 := isP_ne hc
        obtain ⟨⟨c, m1⟩, h3, h⟩ := bnd_inv h
        obtain ⟨m1', e1, d1⟩ := ih n2 (deep + 1) _ _ _ _ (by omega) (by omega) (d.k1 (by rw [h0]; decide)).2 h3
        obtain ⟨rfl, rfl⟩ := Prod.mk.inj (Except.ok.inj h)
        rw [e1, bnd_ok]
        exact ⟨m1', rfl, d1⟩
      rename_i hc1
      rw [if_neg hc1]
      split at h
      · rename_i hc
        rw [if_pos hc]
        obtain ⟨t1, t2⟩ := d.tail_len hc (by decide)
        have h0 := isT_k (k := 3) (x := opT) (t := hd m) hc
        obtain ⟨⟨c, m1⟩, h3, h⟩ := bnd_inv h
        obtain ⟨m1', e1, d1⟩ := cond_D (ih n2 (deep + 1)) (factor_shr _ _) (factor_shr _ _) _ _ _ _ (by omega) (by omega) (d.k1 (by rw [h0]; decide)).2 h3
        obtain ⟨⟨s, m2⟩, h4, h⟩ := bnd_inv h
        obtain ⟨m2', e2, d2⟩ := take_D (by decide) d1 h4
        obtain ⟨rfl, rfl⟩ := Prod.mk.inj (Except.ok.inj h)
        rw [e1, bnd_ok, e2, bnd_ok]
        exact ⟨m2', rfl, d2⟩
      · rename_i hc2
        rw [if_neg hc2]
        exact test_D d h
theorem act_D {m m' l : List TK} {x : ByteArray × Int} (d : Dbl m m') (h : actP m = .ok (x, l)) : ∃ l', actP m' = .ok (x, l') ∧ Dbl l l' := by
  obtain ⟨⟨a, m1⟩, h1, h⟩ := bnd_inv h
  obtain ⟨m1', e1, d1⟩ := word_D d h1
  unfold actP
  rw [e1, bnd_ok]
  show ∃ l', (if (hd m1').f0 = 2 then bnd (numP m1') fun y => .ok ((a, y.1), y.2) else .ok ((a, 0), m1')) = _ ∧ _
  rw [d1.k0]
  replace h : (if (hd m1).f0 = 2 then bnd (numP m1) fun y => .ok ((a, y.1), y.2) else .ok ((a, 0), m1)) = .ok (x, l) := h
  split at h
  · rename_i hc
    rw [if_pos hc]
    obtain ⟨⟨v, m2⟩, h2, h⟩ := bnd_inv h
    obtain ⟨m2', e2, d2⟩ := num_D d1 h2
    obtain ⟨rfl, rfl⟩ := Prod.mk.inj (Except.ok.inj h)
    rw [e2, bnd_ok]
    exact ⟨m2', rfl, d2⟩
  · rename_i hc
    rw [if_neg hc]
    obtain ⟨rfl, rfl⟩ := Prod.mk.inj (Except.ok.inj h)
    exact ⟨m1', rfl, d1⟩
theorem names_D : ∀ n1 n2 acc m m' y l, m.length ≤ n1 → m'.length ≤ n2 → Dbl m m' → namesP n1 acc m = .ok (y, l) → ∃ l', namesP n2 acc m' = .ok (y, l') ∧ Dbl l l' := by
  have e0 : (isP 1 emptyT ([] : List TK) && !resS (hd ([] : List TK)).f1) = false := by unfold isP; simp [hd, z34]
  intro n1
  induction n1 with
  | zero =>
    intro n2 acc m m' y l h1 h2 d h
    obtain rfl : m = [] := List.length_eq_zero_iff.1 (by omega)
    obtain rfl := d.nil_of
    cases h
    refine ⟨[], ?_, .nil⟩
    cases n2 with
    | zero => rfl
    | succ n2 => rw [namesP, if_neg (by rw [e0]; decide)]
  | succ n1 ih =>
    intro n2 acc m m' y l h1 h2 d h
    rw [namesP] at h
    cases n2 with
    | zero =>
      obtain rfl : m' = [] := List.length_eq_zero_iff.1 (by omega)
      obtain rfl := d.of_nil
      rw [if_neg (by rw [e0]; decide)] at h
      cases h
      exact ⟨[], rfl, .nil⟩
    | succ n2 =>
      have hq : (isP 1 emptyT m' && !resS (hd m').f1) = (isP 1 emptyT m && !resS (hd m).f1) := by
        rw [d.isP_eq 1 (by decide)]
        cases hc : isP 1 emptyT m with
        | false => rfl
        | true =>
          have h0 := isP_ne hc
          rw [(d.k1 (by rw [h0]; decide)).1]
      rw [namesP, hq]
      split at h
      · rename_i hc
        rw [if_pos hc]
        obtain ⟨⟨c, m1⟩, h3, h⟩ := bnd_inv h
        obtain ⟨m1', e1, d1⟩ := word_D d h3
        rw [e1, bnd_ok]
        have hne : m ≠ [] := by intro e; rw [e, e0] at hc; cases hc
        have hne' : m' ≠ [] := by intro e; rw [e] at d; exact hne d.of_nil
        have q1 := word_len hne h3
        have q2 := word_len hne' e1
        exact ih n2 _ m1 m1' y l (by omega) (by omega) d1 h
      · rename_i hc
        rw [if_neg hc]
        obtain ⟨rfl, rfl⟩ := Prod.mk.inj (Except.ok.inj h)
        exact ⟨m', rfl, d⟩
theorem rule_D {m m' l : List TK} {x : S81} (d : Dbl m m') (h : ruleP m = .ok (x, l)) : ∃ l', ruleP m' = .ok (x, l') ∧ Dbl l l' := by
  obtain ⟨⟨a, m1⟩, h1, h⟩ := bnd_inv h
  obtain ⟨m1', e1, d1⟩ := act_D d h1
  obtain ⟨⟨nm, m2⟩, h2, h⟩ := bnd_inv h
  obtain ⟨m2', e2, d2⟩ := word_D d1 h2
  obtain ⟨⟨ns, m3⟩, h3, h⟩ := bnd_inv h
  obtain ⟨m3', e3, d3⟩ := names_D _ m2'.length _ _ _ _ _ (Nat.le_refl _) (Nat.le_refl _) d2 h3
  unfold ruleP
  rw [e1, bnd_ok, e2, bnd_ok, e3, bnd_ok]
  show ∃ l', (if isP 1 ifT m3' = true then bnd (condP (factorP m3'.length 0) m3'.tail) fun c => .ok ((⟨a.1, a.2, ns, c.1⟩ : S81), c.2) else .ok ((⟨a.1, a.2, ns, z47⟩ : S81), m3')) = _ ∧ _
  rw [d3.isP_eq 1 (by decide)]
  replace h : (if isP 1 ifT m3 = true then bnd (condP (factorP m3.length 0) m3.tail) fun c => .ok ((⟨a.1, a.2, ns, c.1⟩ : S81), c.2) else .ok ((⟨a.1, a.2, ns, z47⟩ : S81), m3)) = .ok (x, l) := h
  split at h
  · rename_i hc
    rw [if_pos hc]
    have h0 := isP_ne hc
    obtain ⟨⟨c, m4⟩, h4, h⟩ := bnd_inv h
    obtain ⟨m4', e4, d4⟩ := cond_D (factor_D m3.length m3'.length 0) (factor_shr _ _) (factor_shr _ _) _ _ _ _ (by simp) (by simp) (d3.k1 (by rw [h0]; decide)).2 h4
    obtain ⟨rfl, rfl⟩ := Prod.mk.inj (Except.ok.inj h)
    rw [e4, bnd_ok]
    exact ⟨m4', rfl, d4⟩
  · rename_i hc
    rw [if_neg hc]
    obtain ⟨rfl, rfl⟩ := Prod.mk.inj (Except.ok.inj h)
    exact ⟨m3', rfl, d3⟩
theorem lines4 {t : TK} {r : List TK} (h : t.f0 = 4) : linesP (t :: r) = linesP r := if_pos h
theorem lines_D {m m' : List TK} (d : Dbl m m') : Dbl (linesP m) (linesP m') := by
  induction d with
  | nil => exact .nil
  | @one a a' r r' h0 h1 h ih =>
    unfold linesP
    rw [h0]
    split
    · exact ih
    · exact .one h0 h1 h
  | @two a a' b' r r' h0 h1 h2 h ih =>
    rw [lines4 h0, lines4 h1, lines4 h2]
    exact ih
theorem endP_D {m m' l : List TK} {x : Unit} (d : Dbl m m') (h : endP m = .ok (x, l)) : ∃ l', endP m' = .ok (x, l') ∧ Dbl l l' := by
  unfold endP at h ⊢
  rw [d.k0]
  split at h
  · rename_i hc
    rw [if_pos hc]
    obtain ⟨rfl, rfl⟩ := Prod.mk.inj (Except.ok.inj h)
    exact ⟨_, rfl, lines_D d⟩
  · rename_i hc
    rw [if_neg hc]
    obtain ⟨⟨s, m1⟩, h1, h⟩ := bnd_inv h
    obtain ⟨rfl, rfl⟩ := Prod.mk.inj (Except.ok.inj h)
    obtain ⟨_, rfl, h4, _⟩ := takeP_ok h1
    have e4 : takeP 4 [] m' = .ok ((hd m').f1, m'.tail) := take_any0 (d.k0.trans h4)
    rw [e4, bnd_ok]
    refine ⟨_, rfl, ?_⟩
    cases d with
    | nil => exact .nil
    | one _ _ dh => exact lines_D dh
    | two _ _ h2 dh =>
      show Dbl _ (linesP (_ :: _))
      rw [lines4 h2]
      exact lines_D dh
theorem rules_D : ∀ n1 n2 acc m m' y l, m.length ≤ n1 → m'.length ≤ n2 → Dbl m m' → rulesP n1 acc m = .ok (y, l) → ∃ l', rulesP n2 acc m' = .ok (y, l') ∧ Dbl l l' := by
  have e0 : isP 0 emptyT ([] : List TK) = true := by show isP 0 ⟨#[]⟩ ([] : List TK) = true; rw [isP_kind]; rfl
  intro n1
  induction n1 with
  | zero =>
    intro n2 acc m m' y l h1 h2 d h
    obtain rfl : m = [] := List.length_eq_zero_iff.1 (by omega)
    obtain rfl := d.nil_of
    cases h
    refine ⟨[], ?_, .nil⟩
    cases n2 with
    | zero => rfl
    | succ n2 => rw [rulesP, if_pos e0]
  | succ n1 ih =>
    intro n2 acc m m' y l h1 h2 d h
    rw [rulesP] at h
    cases n2 with
    | zero =>
      obtain rfl : m' = [] := List.length_eq_zero_iff.1 (by omega)
      obtain rfl := d.of_nil
      rw [if_pos e0] at h
      cases h
      exact ⟨[], rfl, .nil⟩
    | succ n2 =>
      rw [rulesP, d.isP_eq 0 (by decide)]
      split at h
      · rename_i hc
        rw [if_pos hc]
        obtain ⟨rfl, rfl⟩ := Prod.mk.inj (Except.ok.inj h)
        exact ⟨m', rfl, d⟩
      · rename_i hc
        rw [if_neg hc]
        have hne : m ≠ [] := by intro e; rw [e] at hc; exact hc e0
        have hne' : m' ≠ [] := by intro e; rw [e] at d; exact hne d.of_nil
        obtain ⟨⟨c, m1⟩, h3, h⟩ := bnd_inv h
        obtain ⟨m1', e1, d1⟩ := rule_D d h3
        obtain ⟨⟨u, m2⟩, h4, h⟩ := bnd_inv h
        obtain ⟨m2', e2, d2⟩ := endP_D d1 h4
        have q1 := rule_lt hne h3
        have q2 := rule_lt hne' e1
        have q3 : m2.length ≤ m1.length := end_shr _ _ _ h4
        have q4 : m2'.length ≤ m1'.length := end_shr _ _ _ e2
        rw [e1, bnd_ok, e2, bnd_ok]
        exact ih n2 _ m2 m2' y l (by omega) (by omega) d2 h
theorem policy_D {m m' l : List TK} {x : S41} (d : Dbl m m') (h : policyP m = .ok (x, l)) : ∃ l', policyP m' = .ok (x, l') := by
  obtain ⟨⟨a0, m1⟩, h1, h⟩ := bnd_inv h
  obtain ⟨m1', e1, d1⟩ := take_D (by decide) (lines_D d) h1
  obtain ⟨⟨ar, m2⟩, h2, h⟩ := bnd_inv h
  obtain ⟨m2', e2, d2⟩ := word_D d1 h2
  obtain ⟨⟨u1, m3⟩, h3, h⟩ := bnd_inv h
  obtain ⟨m3', e3, d3⟩ := endP_D d2 h3
  obtain ⟨⟨d0, m4⟩, h4, h⟩ := bnd_inv h
  obtain ⟨m4', e4, d4⟩ := take_D (by decide) d3 h4
  obtain ⟨⟨da, m5⟩, h5, h⟩ := bnd_inv h
  obtain ⟨m5', e5, d5⟩ := act_D d4 h5
  obtain ⟨⟨u2, m6⟩, h6, h⟩ := bnd_inv h
  obtain ⟨m6', e6, d6⟩ := endP_D d5 h6
  obtain ⟨⟨rs, m7⟩, h7, h⟩ := bnd_inv h
  obtain ⟨m7', e7, d7⟩ := rules_D _ m6'.length _ _ _ _ _ (Nat.le_refl _) (Nat.le_refl _) d6 h7
  obtain ⟨rfl, rfl⟩ := Prod.mk.inj (Except.ok.inj h)
  refine ⟨m7', ?_⟩
  unfold policyP
  rw [e1, bnd_ok, e2, bnd_ok, e3, bnd_ok, e4, bnd_ok, e5, bnd_ok, e6, bnd_ok, e7, bnd_ok]
/-! ### a source whose lines are ended by a remark and two ends of line -/
def hereL : List UInt8 := [32, 35, 32, 104, 101, 114, 101, 10, 10]
inductive Exp : List UInt8 → List UInt8 → Prop
  | nil : Exp [] []
  | keep (c : UInt8) {r r' : List UInt8} (h : Exp r r') : Exp (c :: r) (c :: r')
  | nl {r r' : List UInt8} (h : Exp r r') : Exp (10 :: r) (hereL ++ r')
theorem Exp.split : ∀ (p : List UInt8) {r l' : List UInt8}, (∀ c ∈ p, c ≠ 10) → Exp (p ++ r) l' → ∃ r', l' = p ++ r' ∧ Exp r r'
  | [], r, l', _, h => ⟨l', rfl, h⟩
  | c :: p, r, l', hc, h => by
    have h' : Exp (c :: (p ++ r)) l' := h
    generalize hq : p ++ r = q at h'
    cases h' with
    | keep _ h1 =>
      rw [← hq] at h1
      obtain ⟨r', rfl, h2⟩ := Exp.split p (fun d hd => hc d (List.mem_cons_of_mem _ hd)) h1
      exact ⟨r', rfl, h2⟩
    | nl h1 => exact absurd rfl (hc 10 List.mem_cons_self)
theorem notNl_ne {c : UInt8} (h : notNl c.toNat = true) : c ≠ 10 := by
  intro e; subst e; revert h; decide
theorem eit_ne {c : UInt8} (h : eitS c.toNat = true) : c ≠ 10 := by
  intro e; subst e; revert h; decide
theorem run_mem (p : Int → Bool) : ∀ (l : List UInt8), ∀ c ∈ l.take (runB p l), p c.toNat = true
  | [], c, h => by cases h
  | d :: r, c, h => by
    rw [runB_cons] at h
    by_cases hp : p d.toNat = true
    · rw [if_pos hp, List.take_succ_cons] at h
      rcases List.mem_cons.1 h with e | e
      · subst e; exact hp
      · exact run_mem p r c e
    · rw [if_neg hp, List.take_zero] at h; cases h
theorem sgS_le (c : Int) (two : Bool) : sgS c two ≤ 2 := by unfold sgS; split <;> (try split) <;> omega
theorem sgS_two {c : Int} {two : Bool} (h : sgS c two = 2) : two = true := by
  unfold sgS at h
  split at h
  · rename_i h1; exact h1.1
  · split at h <;> omega
theorem step_no10 {l : List UInt8} {n : Nat} {k : Option Int} (h : stepB l = some (n, k)) (h0 : l.head? ≠ some 10) : ∀ c ∈ l.take n, c ≠ 10 := by
  cases l with
  | nil => cases h
  | cons d q =>
    have hd10 : d ≠ 10 := fun e => h0 (by rw [e]; rfl)
    rw [stepB_cons] at h
    have one : ∀ c ∈ (d :: q).take 1, c ≠ 10 := fun c hc => by
      rw [List.take_succ_cons, List.take_zero, List.mem_singleton] at hc
      subst hc; exact hd10
    split at h
    · obtain ⟨rfl, _⟩ := Prod.mk.inj (Option.some.inj h); exact one
    split at h
    · obtain ⟨rfl, _⟩ := Prod.mk.inj (Option.some.inj h)
      exact fun c hc => notNl_ne (run_mem notNl _ c hc)
    split at h
    · obtain ⟨rfl, _⟩ := Prod.mk.inj (Option.some.inj h); exact one
    split at h
    · obtain ⟨rfl, _⟩ := Prod.mk.inj (Option.some.inj h)
      exact fun c hc => eit_ne (run_mem eitS _ c hc)
    split at h
    · split at h
      · obtain ⟨rfl, _⟩ := Prod.mk.inj (Option.some.inj h)
        exact fun c hc => eit_ne (run_mem eitS _ c hc)
      · cases h
    split at h
    · cases h
    · rename_i hs
      obtain ⟨rfl, _⟩ := Prod.mk.inj (Option.some.inj h)
      have hle := sgS_le d.toNat (q.head? == some 61)
      intro c hc
      by_cases h2 : sgS d.toNat (q.head? == some 61) = 2
      · have hq := sgS_two h2
        rw [h2] at hc
        cases q with
        | nil => exact one c hc
        | cons e q2 =>
          rw [List.head?_cons, beq_iff_eq, Option.some.injEq] at hq
          rw [List.take_succ_cons, List.take_succ_cons, List.take_zero] at hc
          rcases List.mem_cons.1 hc with r | r
          · subst r; exact hd10
          · rw [List.mem_singleton] at r; subst r; subst hq; decide
      · have h1 : sgS d.toNat (q.head? == some 61) = 1 := by omega
        rw [h1] at hc
        exact one c hc
/-- A piece is read the same before whatever begins alike. -/
theorem run_ext (p : Int → Bool) {a r t : List UInt8} (h : runB p (a ++ r) = a.length) (ht : t.head? = r.head?) : runB p (a ++ t) = a.length := by
  have hall : ∀ c ∈ a, p c.toNat = true := by
    intro c hc
    refine run_mem p (a ++ r) c ?_
    rw [h, List.take_left' rfl]; exact hc
  rw [runB_full p _ _ hall] at h ⊢
  have h0 : runB p r = 0 := by omega
  cases r with
  | nil =>
    cases t with
    | nil => simpa using h0
    | cons x y => cases ht
  | cons x y =>
    cases t with
    | nil => cases ht
    | cons x' y' =>
      have hx : x' = x := by simpa using ht
      subst hx
      rw [runB_cons] at h0 ⊢
      split at h0
      · omega
      · rename_i hp; rw [if_neg hp, Nat.add_zero]
theorem step_ext {a r t : List UInt8} {k : Option Int} (ha : a ≠ []) (h : stepB (a ++ r) = some (a.length, k)) (ht : t.head? = r.head?) : stepB (a ++ t) = some (a.length, k) := by
  cases a with
  | nil => exact absurd rfl ha
  | cons d q =>
    have hq : (q ++ t).head? = (q ++ r).head? := by cases q with | nil => exact ht | cons x y => rfl
    have tk : ∀ X : List UInt8, (d :: q ++ X).take (d :: q).length = d :: q := fun X => List.take_left' rfl
    rw [List.cons_append, stepB_cons] at h ⊢
    rw [hq]
    split at h
    · rename_i h1; rw [if_pos h1]; exact h
    rename_i h1; rw [if_neg h1]
    split at h
    · rename_i h2; rw [if_pos h2]
      obtain ⟨e1, e2⟩ := Prod.mk.inj (Option.some.inj h)
      have := run_ext notNl (a := d :: q) e1 ht
      rw [List.cons_append] at this
      rw [this, e2]
    rename_i h2; rw [if_neg h2]
    split at h
    · rename_i h3; rw [if_pos h3]; exact h
    rename_i h3; rw [if_neg h3]
    split at h
    · rename_i h4; rw [if_pos h4]
      obtain ⟨e1, e2⟩ := Prod.mk.inj (Option.some.inj h)
      have := run_ext eitS (a := d :: q) e1 ht
      rw [List.cons_append] at this
      rw [this, e2]
    rename_i h4; rw [if_neg h4]
    split at h
    · rename_i h5; rw [if_pos h5]
      split at h
      · rename_i h6
        obtain ⟨e1, e2⟩ := Prod.mk.inj (Option.some.inj h)
        have := run_ext eitS (a := d :: q) e1 ht
        rw [List.cons_append] at this
        have t1 := tk t
        have t2 := tk r
        rw [List.cons_append] at t1 t2
        rw [e1, t2] at h6
        rw [this, t1, if_pos h6, e2]
      · cases h
    rename_i h5; rw [if_neg h5]
    exact h
theorem LB_here (r : List UInt8) (o : Nat) : LB (hereL ++ r) o = consT ⟨4, mkB [10], ((o + 7 : Nat) : Int)⟩ (consT ⟨4, mkB [10], ((o + 8 : Nat) : Int)⟩ (LB r (o + 9))) := by
  have e1 : stepB (hereL ++ r) = some (1, none) := rfl
  have e2 : stepB (35 :: 32 :: 104 :: 101 :: 114 :: 101 :: 10 :: 10 :: r) = some (6, none) := by
    rw [stepB_cons, if_neg (by decide), if_pos (by decide)]
    rfl
  rw [LB_step _ _ (by simp [hereL]), e1]
  show LB (35 :: 32 :: 104 :: 101 :: 114 :: 101 :: 10 :: 10 :: r) (o + 1) = _
  rw [LB_step _ _ (by simp), e2]
  show LB (10 :: 10 :: r) (o + 1 + 6) = _
  rw [LB_line, LB_line]
theorem LB_exp : ∀ (m : Nat) (l l' : List UInt8) (o o' : Nat), l.length ≤ m → Exp l l' → ∀ ts, LB l o = .ok ts → ∃ ts', LB l' o' = .ok ts' ∧ Dbl ts ts' := by
  intro m
  induction m with
  | zero =>
    intro l l' o o' h hE ts hts
    obtain rfl : l = [] := List.length_eq_zero_iff.1 (by omega)
    cases hE
    cases hts
    exact ⟨[], rfl, .nil⟩
  | succ m ih =>
    intro l l' o o' h hE ts hts
    by_cases hl : l = []
    · subst hl; cases hE; cases hts; exact ⟨[], rfl, .nil⟩
    by_cases h10 : l.head? = some 10
    · obtain ⟨r, rfl⟩ : ∃ r, l = 10 :: r := by
        cases l with
        | nil => cases h10
        | cons c r => exact ⟨r, by rw [show c = 10 by simpa using h10]⟩
      rw [LB_line] at hts
      cases hr : LB r (o + 1) with
      | error e => rw [hr] at hts; cases hts
      | ok tt =>
        rw [hr] at hts
        cases hts
        cases hE with
        | keep _ h1 =>
          rename_i r'
          obtain ⟨tt', e1, d1⟩ := ih r r' (o + 1) (o' + 1) (by simp at h; omega) h1 tt hr
          rw [LB_line, e1]
          exact ⟨_, rfl, .one rfl rfl d1⟩
        | nl h1 =>
          rename_i r'
          obtain ⟨tt', e1, d1⟩ := ih r r' (o + 1) (o' + 9) (by simp at h; omega) h1 tt hr
          rw [LB_here, e1]
          exact ⟨_, rfl, .two rfl rfl rfl d1⟩
    · rw [LB_step l o hl] at hts
      cases hs : stepB l with
      | none => rw [hs] at hts; cases hts
      | some x =>
        obtain ⟨n, k⟩ := x
        have hp := stepB_pos hs
        have hno := step_no10 hs h10
        rw [hs] at hts
        have hts2 : (match k with | none => LB (l.drop n) (o + n) | some k => consT ⟨k, mkB (l.take n), o⟩ (LB (l.drop n) (o + n))) = .ok ts := by cases k <;> exact hts
        clear hts
        have hlr : l = l.take n ++ l.drop n := (List.take_append_drop n l).symm
        have htl : (l.take n).length = n := by rw [List.length_take]; omega
        have htn : l.take n ≠ [] := by intro e; rw [e] at htl; simp at htl; omega
        have hlen : (l.drop n).length = l.length - n := List.length_drop ..
        rw [hlr] at hE
        obtain ⟨r', rfl, hE'⟩ := Exp.split _ hno hE
        generalize hA : l.take n = A at hlr htl htn hno hE hts2 ⊢
        generalize hR : l.drop n = R at hlr hlen hE' hts2
        have hne' : A ++ r' ≠ [] := fun e => htn (List.append_eq_nil_iff.1 e).1
        -- the piece is read alike
        have same : stepB (A ++ r') = some (n, k) → ∃ ts', LB (A ++ r') o' = .ok ts' ∧ Dbl ts ts' := by
          intro hs'
          rw [LB_step _ _ hne', hs']
          have e1 : (A ++ r').drop n = r' := by rw [← htl]; exact List.drop_left' rfl
          have e2 : (A ++ r').take n = A := by rw [← htl]; exact List.take_left' rfl
          cases k with
          | none =>
            simp only [e1]
            exact ih R r' (o + n) (o' + n) (by omega) hE' ts hts2
          | some k =>
            simp only [e1, e2]
            simp only at hts2
            cases hr : LB R (o + n) with
            | error e => rw [hr] at hts2; cases hts2
            | ok tt =>
              rw [hr] at hts2
              cases hts2
              obtain ⟨tt', q1, d1⟩ := ih R r' (o + n) (o' + n) (by omega) hE' tt hr
              rw [q1]
              exact ⟨_, rfl, .one rfl rfl d1⟩
        have hs0 : stepB (A ++ R) = some (A.length, k) := by rw [← hlr, htl]; exact hs
        cases hE' with
        | nil => exact same (by rw [← htl]; exact step_ext htn hs0 rfl)
        | keep c h1 => exact same (by rw [← htl]; exact step_ext htn hs0 rfl)
        | nl h1 =>
          rename_i r2 r2'
          have hsA : stepB A = some (n, k) := by
            have := stepB_take hs (Nat.le_refl n)
            rw [hA] at this; exact this
          by_cases hh : A.head? = some 35
          · obtain ⟨A', rfl⟩ : ∃ A', A = 35 :: A' := by
              cases A with
              | nil => cases hh
              | cons c A' => exact ⟨A', by rw [show c = 35 by simpa using hh]⟩
            have e35 : ∀ Y : List UInt8, stepB (35 :: Y) = some (runB notNl (35 :: Y), none) := fun Y => by
              rw [stepB_cons, if_neg (by decide), if_pos (by decide)]
            rw [e35] at hsA
            obtain ⟨q1, q2⟩ := Prod.mk.inj (Option.some.inj hsA)
            subst q2
            have hall := runB_all notNl (35 :: A') (by rw [q1, htl])
            have hst : stepB (35 :: A' ++ (hereL ++ r2')) = some ((35 :: A').length + 7, none) := by
              rw [List.cons_append, e35, ← List.cons_append, runB_full notNl _ _ hall]
              rfl
            rw [LB_step _ _ hne', hst]
            have hd1 : (35 :: A' ++ (hereL ++ r2')).drop ((35 :: A').length + 7) = 10 :: 10 :: r2' := by
              rw [← List.drop_drop, List.drop_left' rfl]; rfl
            simp only [hd1]
            rw [LB_line, LB_line]
            simp only at hts2
            rw [LB_line] at hts2
            cases hr : LB r2 (o + n + 1) with
            | error e => rw [hr] at hts2; cases hts2
            | ok tt =>
              rw [hr] at hts2
              cases hts2
              obtain ⟨tt', w1, d1⟩ := ih r2 r2' (o + n + 1) (o' + ((35 :: A').length + 7) + 1 + 1) (by simp at hlen; omega) h1 tt hr
              rw [w1]
              exact ⟨_, rfl, .two rfl rfl rfl d1⟩
          · exact same (by
              show stepB (A ++ 32 :: ([35, 32, 104, 101, 114, 101, 10, 10] ++ r2')) = _
              rw [stepB_app htn 32 _ (by decide) (by decide) (Or.inr hh)]
              exact hsA)

end Go.Proofs.YtdfjjimmnbijmaaDoor.PP

import Derived.Test.YtdfjjimmnbijmaaDoorPPm
namespace Go.Proofs.YtdfjjimmnbijmaaDoor.PP
open Go.RowKit Go.Proofs.YtdfjjimmnbijmaaDoorW.PrintWords Go.Proofs.YtdfjjimmnbijmaaDoorW.PrintLast Go.Proofs.YtdfjjimmnbijmaaDoorW.PrintMore Go.Proofs.YtdfjjimmnbijmaaDoor.Base
attribute [local go_sem] max2_int min2_int max_two min_two max_three min_three max_four min_four
set_option linter.unusedVariables false
set_option linter.unusedSimpArgs false
/-! ### what the parser makes of a row of tokens that is cut at the one at which it was refused -/
abbrev TK := S34
def LFin (m : List TK) : Prop := m ≠ [] ∧ (m.getLast?).map (·.f0) = some 0
def LInc (m : List TK) : Prop := m.Pairwise (fun a b => a.f2 < b.f2)
theorem LInc.suf {m m' : List TK} (h : LInc m) (hs : m' <:+ m) : LInc m' := List.Pairwise.sublist hs.sublist h
theorem lfin_suf {m m' : List TK} (h : LFin m) (hs : m' <:+ m) (h0 : m' ≠ []) : LFin m' := by
  obtain ⟨a, rfl⟩ := hs
  refine ⟨h0, ?_⟩
  have := h.2
  rw [List.getLast?_append] at this
  cases hm : m'.getLast? with
  | none => exact absurd (List.getLast?_eq_none_iff.1 hm) h0
  | some x => rw [hm] at this; exact this
theorem lfin_tail {m : List TK} (h : LFin m) (h0 : (hd m).f0 ≠ 0) : m.tail <:+ m ∧ LFin m.tail := by
  cases m with
  | nil => exact absurd rfl h.1
  | cons t r =>
    obtain ⟨g1, g2⟩ := tail_fin h.2 h0
    exact ⟨List.suffix_cons t r, g1, g2⟩
structure Cut where
  t : TK
  rest : List TK
  E : TK
  k0 : E.f0 = 0
  x0 : E.f1 = ⟨#[]⟩
  p0 : E.f2 = t.f2
/-- Where a cut row's token stands in what is left. -/
theorem Cut.at_suf (c : Cut) {l m : List TK} (hi : LInc (l ++ c.t :: c.rest)) (hs : m <:+ l ++ c.t :: c.rest) (h : ∃ u ∈ m, u.f2 = c.t.f2) : ∃ l', m = l' ++ c.t :: c.rest ∧ l'.length ≤ l.length := by
  obtain ⟨a, ha⟩ := hs
  rcases List.append_eq_append_iff.1 ha with ⟨b, h1, h2⟩ | ⟨b, h1, h2⟩
  · exact ⟨b, h2, by rw [h1]; simp⟩
  · cases b with
    | nil =>
      simp only [List.append_nil, List.nil_append] at h1 h2
      exact ⟨[], by rw [← h2]; rfl, by simp⟩
    | cons y b =>
      rw [List.cons_append] at h2
      obtain ⟨e1, e2⟩ := List.cons.inj h2
      obtain ⟨u, hu, hp⟩ := h
      have h3 : u ∈ c.rest := by rw [e2]; exact List.mem_append_right _ hu
      have h4 := (List.pairwise_append.1 hi).2.1
      have h5 := List.rel_of_pairwise_cons h4 h3
      omega
structure PGood (c : Cut) {α : Type} (n2 : Nat) (m : List TK) (r1 : Except (Int × Int) (α × List TK)) (r2 : List TK → Except (Int × Int) (α × List TK)) : Prop where
  snd : ∀ y m', r1 = .ok (y, m') → m' <:+ m ∧ LFin m'
  err : ∀ bad p, r1 = .error (bad, p) → (bad = 61 ∨ bad = 62) ∧ ∃ u ∈ m, p = u.f2
  sim : ∀ l, m = l ++ c.t :: c.rest → (l ++ [c.E]).length ≤ n2 → (∀ y l', r1 = .ok (y, l' ++ c.t :: c.rest) → r2 (l ++ [c.E]) = .ok (y, l' ++ [c.E])) ∧ (∀ bad, r1 = .error (bad, c.t.f2) → r2 (l ++ [c.E]) = .error (bad, c.t.f2))
theorem PGood.bnd {c : Cut} {α β : Type} {n2 : Nat} {m : List TK} {r1 : Except (Int × Int) (α × List TK)} {r2 : List TK → Except (Int × Int) (α × List TK)} {g1 g2 : α × List TK → Except (Int × Int) (β × List TK)} (hi : LInc m) (h : PGood c n2 m r1 r2) (hg : ∀ x m', r1 = .ok (x, m') → m' <:+ m → LFin m' → LInc m' → PGood c n2 m' (g1 (x, m')) (fun m2 => g2 (x, m2))) :
    PGood c n2 m (bnd r1 g1) (fun m2 => bnd (r2 m2) g2) := by
  cases hr : r1 with
  | error e =>
    obtain ⟨b0, p0⟩ := e
    refine ⟨fun y m' hh => (by cases hh), fun bad p hh => h.err _ _ (hr.trans (by cases hh; rfl)), fun l hl hn => ⟨fun y l' hh => (by cases hh), fun bad hh => ?_⟩⟩
    have e2 := (h.sim l hl hn).2 bad (hr.trans (by cases hh; rfl))
    show Go.Proofs.YtdfjjimmnbijmaaDoor.PP.bnd (r2 (l ++ [c.E])) g2 = _
    rw [e2]; rfl
  | ok x =>
    obtain ⟨x, m'⟩ := x
    obtain ⟨hs, hf⟩ := h.snd _ _ hr
    have hG := hg x m' hr hs hf (hi.suf hs)
    refine ⟨fun y m'' hh => ?_, fun bad p hh => ?_, fun l hl hn => ?_⟩
    · obtain ⟨q1, q2⟩ := hG.snd y m'' hh
      exact ⟨q1.trans hs, q2⟩
    · obtain ⟨q1, u, q2, q3⟩ := hG.err bad p hh
      exact ⟨q1, u, hs.subset q2, q3⟩
    · have key : (∃ u ∈ m', u.f2 = c.t.f2) → ∃ l', m' = l' ++ c.t :: c.rest ∧ r2 (l ++ [c.E]) = .ok (x, l' ++ [c.E]) ∧ (l' ++ [c.E]).length ≤ n2 := by
        intro hu
        subst hl
        obtain ⟨l', e1, e2⟩ := c.at_suf hi hs hu
        refine ⟨l', e1, (h.sim l rfl hn).1 x l' (by rw [hr, e1]), ?_⟩
        simp only [List.length_append, List.length_singleton] at hn ⊢
        omega
      refine ⟨fun y l'' hh => ?_, fun bad hh => ?_⟩
      · obtain ⟨q1, _⟩ := hG.snd _ _ hh
        obtain ⟨l', e1, e2, e3⟩ := key ⟨c.t, q1.subset (by simp), rfl⟩
        show Go.Proofs.YtdfjjimmnbijmaaDoor.PP.bnd (r2 (l ++ [c.E])) g2 = _
        rw [e2]
        exact (hG.sim l' e1 e3).1 y l'' hh
      · obtain ⟨_, u, q2, q3⟩ := hG.err _ _ hh
        obtain ⟨l', e1, e2, e3⟩ := key ⟨u, q2, q3.symm⟩
        show Go.Proofs.YtdfjjimmnbijmaaDoor.PP.bnd (r2 (l ++ [c.E])) g2 = _
        rw [e2]
        exact (hG.sim l' e1 e3).2 bad hh
theorem PGood.ret {c : Cut} {α : Type} {n2 : Nat} {m : List TK} (hf : LFin m) (x : α) : PGood c n2 m (.ok (x, m)) (fun m2 => .ok (x, m2)) := by
  refine ⟨fun y m' hh => ?_, fun bad p hh => (by cases hh), fun l hl hn => ⟨fun y l' hh => ?_, fun bad hh => (by cases hh)⟩⟩
  · cases hh; exact ⟨List.suffix_refl _, hf⟩
  · obtain ⟨rfl, e⟩ := Prod.mk.inj (Except.ok.inj hh)
    rw [hl] at e
    have := (List.append_left_inj _).1 e
    rw [this]
/-- The two rows have the same head, or the one's is the token, the other's the end. -/
theorem Cut.heads (c : Cut) (l : List TK) : (∃ h r, l = h :: r ∧ hd (l ++ c.t :: c.rest) = h ∧ hd (l ++ [c.E]) = h ∧ (l ++ c.t :: c.rest).tail = r ++ c.t :: c.rest ∧ (l ++ [c.E]).tail = r ++ [c.E]) ∨ (l = [] ∧ hd (l ++ c.t :: c.rest) = c.t ∧ hd (l ++ [c.E]) = c.E) := by
  cases l with
  | nil => exact Or.inr ⟨rfl, rfl, rfl⟩
  | cons h r => exact Or.inl ⟨h, r, rfl, rfl, rfl, rfl, rfl⟩
theorem no_self (c : Cut) (l' : List TK) (h : c.rest = l' ++ c.t :: c.rest) : False := by
  have := congrArg List.length h
  simp at this
  omega
theorem take_good (c : Cut) (n2 : Nat) (k : Int) (hk : k ≠ 0) (xs : List ByteArray) {m : List TK} (hf : LFin m) : PGood c n2 m (takeP k xs m) (takeP k xs) := by
  have hE : ((c.E.f0 == k) && anyT xs c.E.f1) = false := by rw [c.k0, show ((0 : Int) == k) = false by simpa using Ne.symm hk]; rfl
  refine ⟨fun y m' hh => ?_, fun bad p hh => ?_, fun l hl hn => ⟨fun y l' hh => ?_, fun bad hh => ?_⟩⟩
  · obtain ⟨rfl, rfl, h1, h2⟩ := takeP_ok hh
    exact lfin_tail hf (by rw [h1]; exact hk)
  · unfold takeP at hh
    split at hh
    · cases hh
    · obtain ⟨rfl, rfl⟩ := Prod.mk.inj (Except.error.inj hh)
      exact ⟨Or.inl rfl, hd m, hd_mem hf.1, rfl⟩
  · subst hl
    unfold takeP at hh ⊢
    rcases c.heads l with ⟨h, r, rfl, h1, h2, h3, h4⟩ | ⟨rfl, h1, h2⟩
    · rw [h1, h3] at hh
      rw [h2, h4]
      split at hh
      · rename_i hc
        obtain ⟨rfl, e⟩ := Prod.mk.inj (Except.ok.inj hh)
        rw [if_pos hc, (List.append_left_inj _).1 e]
      · cases hh
    · split at hh
      · obtain ⟨_, e⟩ := Prod.mk.inj (Except.ok.inj hh)
        exact (no_self c l' e).elim
      · cases hh
  · subst hl
    unfold takeP at hh ⊢
    rcases c.heads l with ⟨h, r, rfl, h1, h2, h3, h4⟩ | ⟨rfl, h1, h2⟩
    · rw [h1] at hh
      rw [h2]
      split at hh
      · cases hh
      · rename_i hc
        rw [if_neg hc]
        exact hh
    · rw [h1] at hh
      rw [h2]
      split at hh
      · cases hh
      · rw [if_neg (by rw [hE]; decide), c.p0]
        obtain ⟨rfl, _⟩ := Prod.mk.inj (Except.error.inj hh)
        rfl
theorem PGood.mono {c : Cut} {α : Type} {n2 n : Nat} {m : List TK} {r1 : Except (Int × Int) (α × List TK)} {r2 : List TK → Except (Int × Int) (α × List TK)} (h : PGood c n2 m r1 r2) (hn : n ≤ n2) : PGood c n m r1 r2 :=
  ⟨h.snd, h.err, fun l hl hk => h.sim l hl (Nat.le_trans hk hn)⟩
theorem PGood.zero {c : Cut} {α : Type} {n2 : Nat} {m : List TK} {r1 : Except (Int × Int) (α × List TK)} {r2 r2' : List TK → Except (Int × Int) (α × List TK)} (h : PGood c n2 m r1 r2) : PGood c 0 m r1 r2' :=
  ⟨h.snd, h.err, fun l hl hk => by simp at hk⟩
theorem PGood.self {c : Cut} {α : Type} {n2 : Nat} {m : List TK} {r1 : Except (Int × Int) (α × List TK)} {R : Nat → List TK → Except (Int × Int) (α × List TK)} (h : ∀ k, k ≤ n2 → PGood c k m r1 (R k)) : PGood c n2 m r1 (fun m3 => R m3.length m3) :=
  ⟨(h 0 (Nat.zero_le _)).snd, (h 0 (Nat.zero_le _)).err, fun l hl hk => (h _ hk).sim l hl (Nat.le_refl _)⟩
theorem if_good (c : Cut) {α : Type} {n2 : Nat} (p : TK → Prop) [DecidablePred p] (hE : ¬ p c.E) {m : List TK} (hi : LInc m) {rA rB : Except (Int × Int) (α × List TK)} {RA RB : List TK → Except (Int × Int) (α × List TK)}
    (hA : p (hd m) → ∃ RT, PGood c n2 m.tail rA RT ∧ ∀ m2, hd m2 = hd m → RA m2 = RT m2.tail) (hB : ¬ p (hd m) → PGood c (n2 + 1) m rB RB) : PGood c (n2 + 1) m (if p (hd m) then rA else rB) (fun m2 => if p (hd m2) then RA m2 else RB m2) := by
  by_cases hp : p (hd m)
  · rw [if_pos hp]
    obtain ⟨RT, hG, hR⟩ := hA hp
    refine ⟨fun y m' hh => ?_, fun bad q hh => ?_, fun l hl hn => ?_⟩
    · obtain ⟨h1, h2⟩ := hG.snd y m' hh
      exact ⟨h1.trans (List.tail_suffix m), h2⟩
    · obtain ⟨h1, u, h2, h3⟩ := hG.err bad q hh
      exact ⟨h1, u, (List.tail_suffix m).subset h2, h3⟩
    · subst hl
      rcases c.heads l with ⟨h, r, rfl, h1, h2, h3, h4⟩ | ⟨rfl, h1, h2⟩
      · rw [h1] at hp
        rw [h3] at hG
        have hs := hG.sim r rfl (by simp at hn ⊢; omega)
        have e := hR (h :: r ++ [c.E]) (h2.trans h1.symm)
        rw [h4] at e
        simp only [h2, if_pos hp, e]
        exact hs
      · have h5 := (List.pairwise_append.1 hi).2.1
        refine ⟨fun y l' hh => ?_, fun bad hh => ?_⟩
        · obtain ⟨h6, _⟩ := hG.snd y _ hh
          have := h6.length_le
          simp only [List.nil_append, List.tail_cons, List.length_append, List.length_cons] at this
          omega
        · obtain ⟨_, u, h6, h7⟩ := hG.err bad _ hh
          have := List.rel_of_pairwise_cons h5 h6
          omega
  · rw [if_neg hp]
    have hG := hB hp
    refine ⟨hG.snd, hG.err, fun l hl hn => ?_⟩
    have hs := hG.sim l hl hn
    subst hl
    have hp2 : ¬ p (hd (l ++ [c.E])) := by
      rcases c.heads l with ⟨h, r, rfl, h1, h2, h3, h4⟩ | ⟨rfl, h1, h2⟩
      · rw [h2, ← h1]; exact hp
      · rw [h2]; exact hE
    simp only [if_neg hp2]
    exact hs
/-- A failure at the head. -/
theorem fail_good (c : Cut) {α : Type} (n2 : Nat) {m : List TK} (hf : LFin m) (bad : Int) (hb : bad = 61 ∨ bad = 62) : PGood c n2 m (.error (bad, (hd m).f2) : Except (Int × Int) (α × List TK)) (fun m2 => .error (bad, (hd m2).f2)) := by
  refine ⟨fun y m' hh => (by cases hh), fun b q hh => ?_, fun l hl hn => ⟨fun y l' hh => (by cases hh), fun b hh => ?_⟩⟩
  · obtain ⟨rfl, rfl⟩ := Prod.mk.inj (Except.error.inj hh)
    exact ⟨hb, hd m, hd_mem hf.1, rfl⟩
  · subst hl
    rcases c.heads l with ⟨h, r, rfl, h1, h2, h3, h4⟩ | ⟨rfl, h1, h2⟩
    · rw [h1] at hh; simp only [h2]; exact hh
    · rw [h1] at hh; simp only [h2, c.p0]; exact hh
/-- A head that must not be such a one. -/
theorem bar_good (c : Cut) {α : Type} (n2 : Nat) (p : TK → Prop) [DecidablePred p] {m : List TK} (hf : LFin m) {rB : Except (Int × Int) (α × List TK)} {RB : List TK → Except (Int × Int) (α × List TK)} (hB : PGood c n2 m rB RB) (hE : RB [c.E] = .error (61, c.E.f2)) (hE0 : ¬ p c.E) :
    PGood c n2 m (if p (hd m) then .error (61, (hd m).f2) else rB) (fun m2 => if p (hd m2) then .error (61, (hd m2).f2) else RB m2) := by
  by_cases hp : p (hd m)
  · rw [if_pos hp]
    have hF := fail_good c (α := α) n2 hf 61 (Or.inl rfl)
    refine ⟨hF.snd, hF.err, fun l hl hn => ?_⟩
    have hs := hF.sim l hl hn
    refine ⟨fun y l' hh => (by cases hh), fun b hh => ?_⟩
    subst hl
    rcases c.heads l with ⟨h, r, rfl, h1, h2, h3, h4⟩ | ⟨rfl, h1, h2⟩
    · rw [h1] at hp
      simp only [h2, if_pos hp]
      rw [h1] at hh; exact hh
    · rw [List.nil_append] at h2
      simp only [List.nil_append, h2, if_neg hE0, hE, c.p0]
      obtain ⟨rfl, _⟩ := Prod.mk.inj (Except.error.inj hh)
      rfl
  · rw [if_neg hp]
    refine ⟨hB.snd, hB.err, fun l hl hn => ?_⟩
    have hs := hB.sim l hl hn
    subst hl
    have hp2 : ¬ p (hd (l ++ [c.E])) := by
      rcases c.heads l with ⟨h, r, rfl, h1, h2, h3, h4⟩ | ⟨rfl, h1, h2⟩
      · rw [h2, ← h1]; exact hp
      · rw [h2]; exact hE0
    simp only [if_neg hp2]
    exact hs
theorem take_end (c : Cut) (k : Int) (hk : k ≠ 0) (xs : List ByteArray) : takeP k xs [c.E] = .error (61, c.E.f2) := by
  unfold takeP
  rw [if_neg]
  · rfl
  · show ¬ ((c.E.f0 == k) && anyT xs c.E.f1) = true
    rw [c.k0, show ((0 : Int) == k) = false by simpa using Ne.symm hk]; simp
theorem res_end (c : Cut) : resS c.E.f1 = false := by rw [c.x0]; decide
theorem word_end (c : Cut) : wordP [c.E] = .error (61, c.E.f2) := by
  unfold wordP
  rw [if_neg (by show ¬ resS c.E.f1 = true; rw [res_end]; decide), take_end c 1 (by decide)]
theorem word_good (c : Cut) (n2 : Nat) {m : List TK} (hf : LFin m) : PGood c n2 m (wordP m) wordP := by
  have := bar_good c n2 (fun t => resS t.f1 = true) hf (take_good c n2 1 (by decide) [] hf) (take_end c 1 (by decide) []) (by rw [res_end]; decide)
  exact this
theorem num_good (c : Cut) (n2 : Nat) {m : List TK} (hf : LFin m) (hi : LInc m) : PGood c n2 m (numP m) numP := by
  have := (take_good c n2 2 (by decide) [] hf).bnd (g1 := fun x => .ok ((numR (numS x.1)).1, x.2)) (g2 := fun x => .ok ((numR (numS x.1)).1, x.2)) hi (fun x m' _ _ hf' _ => PGood.ret hf' _)
  exact this
theorem isP_end (c : Cut) (k : Int) (hk : k ≠ 0) (x : ByteArray) : isP k x [c.E] = false := by
  unfold isP
  rw [show (hd [c.E]) = c.E from rfl, c.k0, show ((0 : Int) == k) = false by simpa using Ne.symm hk]; rfl
def isT (k : Int) (x : ByteArray) (t : TK) : Bool := t.f0 == k && (x.toList.isEmpty || t.f1.toList == x.toList)
theorem isT_k {k : Int} {x : ByteArray} {t : TK} (h : isT k x t = true) : t.f0 = k := by
  unfold isT at h
  rw [Bool.and_eq_true, beq_iff_eq] at h
  exact h.1
theorem isP_T (k : Int) (x : ByteArray) (m : List TK) : isP k x m = isT k x (hd m) := rfl
theorem isT_end (c : Cut) (k : Int) (hk : k ≠ 0) (x : ByteArray) : ¬ isT k x c.E = true := by
  have := isP_end c k hk x
  rw [isP_T] at this
  rw [show hd [c.E] = c.E from rfl] at this
  rw [this]; decide
theorem take_is {k : Int} {x : ByteArray} {m : List TK} (h : isT k x (hd m) = true) : takeP k [] m = .ok ((hd m).f1, m.tail) := take_any0 (isT_k h)
theorem mask_good (c : Cut) (n2 : Nat) {m : List TK} (hf : LFin m) (hi : LInc m) : PGood c n2 m (maskP m) maskP := by
  refine PGood.mono (n2 := n2 + 1) ?_ (Nat.le_succ _)
  refine if_good c (fun t => isT 3 ⟨#[38]⟩ t = true) (isT_end c 3 (by decide) _) hi (fun hp => ?_) (fun _ => PGood.ret hf _)
  have h0 : (hd m).f0 ≠ 0 := by
    have := isT_k hp
    rw [this]; decide
  obtain ⟨hs, hf'⟩ := lfin_tail hf h0
  refine ⟨numP, ?_, fun m2 h2 => ?_⟩
  · rw [take_is hp, bnd_ok]
    exact num_good c n2 hf' (hi.suf hs)
  · rw [← h2] at hp
    rw [take_is hp, bnd_ok]
theorem test_good (c : Cut) (n2 : Nat) {m : List TK} (hf : LFin m) (hi : LInc m) : PGood c n2 m (testP m) testP := by
  refine PGood.bnd hi (take_good c n2 1 (by decide) argsT hf) fun a m1 _ _ hf1 hi1 => ?_
  try dsimp only
  refine PGood.bnd hi1 (mask_good c n2 hf1 hi1) fun k m2 _ _ hf2 hi2 => ?_
  try dsimp only
  refine PGood.bnd hi2 (take_good c n2 3 (by decide) signsT hf2) fun s m3 _ _ hf3 hi3 => ?_
  try dsimp only
  refine PGood.bnd hi3 (num_good c n2 hf3 hi3) fun v m4 _ _ hf4 hi4 => ?_
  exact PGood.ret hf4 _
theorem more_good (c : Cut) (L : Nat) {n2 : Nat} {p1 p2 : List TK → Except (Int × Int) (S47 × List TK)} (hp : ∀ m, LFin m → LInc m → m.length ≤ L → PGood c n2 m (p1 m) p2) (wd : ByteArray) : ∀ n1 k, k ≤ n2 → ∀ acc m, LFin m → LInc m → m.length ≤ n1 → m.length ≤ L + 1 → PGood c k m (moreP p1 wd n1 acc m) (moreP p2 wd k acc) := by
  intro n1
  induction n1 with
  | zero => intro k _ acc m hf _ hm _; exact absurd (List.length_eq_zero_iff.1 (Nat.le_zero.1 hm)) hf.1
  | succ n1 ih =>
    intro k hk acc m hf hi hm hL
    have main : ∀ k, k + 1 ≤ n2 + 1 → PGood c (k + 1) m (moreP p1 wd (n1 + 1) acc m) (moreP p2 wd (k + 1) acc) := by
      intro k hk
      refine if_good c (fun t => isT 1 wd t = true) (isT_end c 1 (by decide) _) hi (fun hp0 => ?_) (fun _ => PGood.ret hf _)
      have h0 : (hd m).f0 ≠ 0 := by
        have := isT_k hp0
        rw [this]; decide
      obtain ⟨hs, hf'⟩ := lfin_tail hf h0
      have hlen : m.tail.length + 1 = m.length := by have := List.length_pos_iff.2 hf.1; simp; omega
      refine ⟨fun m2 => bnd (p2 m2) fun c => moreP p2 wd k (acc ++ [c.1]) c.2, ?_, fun m2 h2 => rfl⟩
      refine PGood.bnd (hi.suf hs) ((hp m.tail hf' (hi.suf hs) (by omega)).mono (by omega)) fun x m1 _ hs1 hf1 hi1 => ?_
      have := hs1.length_le
      exact ih k (by omega) (acc ++ [x]) m1 hf1 hi1 (by omega) (by omega)
    cases k with
    | zero => exact (main 0 (by omega)).zero
    | succ k => exact main k (by omega)
theorem list_good (c : Cut) (L : Nat) {n2 : Nat} {p1 p2 : List TK → Except (Int × Int) (S47 × List TK)} (hp : ∀ m, LFin m → LInc m → m.length ≤ L → PGood c n2 m (p1 m) p2) (wd : ByteArray) (kind : Int) (m : List TK) (hf : LFin m) (hi : LInc m) (hm : m.length ≤ L) : PGood c n2 m (listP p1 wd kind m) (listP p2 wd kind) := by
  refine PGood.self (R := fun k m2 => bnd (p2 m2) fun c => bnd (moreP p2 wd k [c.1] c.2) (listR kind)) fun k hk => ?_
  refine PGood.bnd hi ((hp m hf hi hm).mono hk) fun x m1 _ hs1 hf1 hi1 => ?_
  have h1 := hs1.length_le
  try dsimp only
  refine PGood.bnd hi1 (more_good c L hp wd m.length k hk [x] m1 hf1 hi1 h1 (by omega)) fun y m2 _ _ hf2 hi2 => ?_
  exact PGood.ret hf2 _
theorem cond_good (c : Cut) (L : Nat) {n2 : Nat} {p1 p2 : List TK → Except (Int × Int) (S47 × List TK)} (hp : ∀ m, LFin m → LInc m → m.length ≤ L → PGood c n2 m (p1 m) p2) (m : List TK) (hf : LFin m) (hi : LInc m) (hm : m.length ≤ L) : PGood c n2 m (condP p1 m) (condP p2) :=
  list_good c L (fun m hf hi hm => list_good c L hp andT 1 m hf hi hm) orT 2 m hf hi hm
theorem factor_good (c : Cut) : ∀ n1 n2 deep m, LFin m → LInc m → m.length ≤ n1 → PGood c n2 m (factorP n1 deep m) (factorP n2 deep) := by
  intro n1
  induction n1 with
  | zero => intro n2 deep m hf _ hm; exact absurd (List.length_eq_zero_iff.1 (Nat.le_zero.1 hm)) hf.1
  | succ n1 ih =>
    intro n2 deep m hf hi hm
    have main : ∀ k, PGood c (k + 1) m (factorP (n1 + 1) deep m) (factorP (k + 1) deep) := by
      intro k
      show PGood c (k + 1) m (factorP (n1 + 1) deep m) (fun m2 => factorP (k + 1) deep m2)
      simp only [factorP]
      by_cases hd8 : 8 < deep
      · simp only [if_pos hd8]
        exact fail_good c _ hf 62 (Or.inr rfl)
      · simp only [if_neg hd8]
        refine if_good c (fun t => isT 1 notT t = true) (isT_end c 1 (by decide) _) hi (fun hp0 => ?_) (fun _ => ?_)
        · have h0 : (hd m).f0 ≠ 0 := by
            have := isT_k hp0
            rw [this]; decide
          obtain ⟨hs, hf'⟩ := lfin_tail hf h0
          have hlen : m.tail.length + 1 = m.length := by have := List.length_pos_iff.2 hf.1; simp; omega
          refine ⟨fun m2 => bnd (factorP k (deep + 1) m2) fun c => .ok (⟨3, [c.1], 0, 0, ⟨#[]⟩, 0⟩, c.2), ?_, fun m2 h2 => rfl⟩
          refine PGood.bnd (hi.suf hs) (ih k (deep + 1) m.tail hf' (hi.suf hs) (by omega)) fun x m1 _ _ hf1 hi1 => ?_
          exact PGood.ret hf1 _
        · refine if_good c (fun t => isT 3 opT t = true) (isT_end c 3 (by decide) _) hi (fun hp0 => ?_) (fun _ => test_good c _ hf hi)
          have h0 : (hd m).f0 ≠ 0 := by
            have := isT_k hp0
            rw [this]; decide
          obtain ⟨hs, hf'⟩ := lfin_tail hf h0
          have hlen : m.tail.length + 1 = m.length := by have := List.length_pos_iff.2 hf.1; simp; omega
          refine ⟨fun m2 => bnd (condP (factorP k (deep + 1)) m2) fun c => bnd (takeP 3 [clT] c.2) fun s => .ok (c.1, s.2), ?_, fun m2 h2 => rfl⟩
          refine PGood.bnd (hi.suf hs) (cond_good c n1 (fun m hf hi hm => ih k (deep + 1) m hf hi hm) m.tail hf' (hi.suf hs) (by omega)) fun x m1 _ _ hf1 hi1 => ?_
          try dsimp only
          refine PGood.bnd hi1 (take_good c _ 3 (by decide) [clT] hf1) fun s m2 _ _ hf2 hi2 => ?_
          exact PGood.ret hf2 _
    cases n2 with
    | zero => exact (main 0).zero
    | succ k => exact main k
theorem act_good (c : Cut) (n2 : Nat) {m : List TK} (hf : LFin m) (hi : LInc m) : PGood c n2 m (actP m) actP := by
  refine PGood.bnd hi (word_good c n2 hf) fun x m1 _ _ hf1 hi1 => ?_
  refine PGood.mono (n2 := n2 + 1) ?_ (Nat.le_succ _)
  refine if_good c (fun t => t.f0 = 2) (by rw [c.k0]; decide) hi1 (fun hp0 => ?_) (fun _ => PGood.ret hf1 _)
  have hp1 : (hd m1).f0 = 2 := hp0
  obtain ⟨hs, hf'⟩ := lfin_tail hf1 (by rw [hp1]; decide)
  have e : ∀ m2, (hd m2).f0 = 2 → (bnd (numP m2) fun y => (.ok ((x, y.1), y.2) : Except (Int × Int) ((ByteArray × Int) × List TK))) = .ok ((x, (numR (numS (hd m2).f1)).1), m2.tail) := by
    intro m2 h2
    unfold numP
    rw [take_any0 h2]; rfl
  refine ⟨fun m2 => .ok ((x, (numR (numS (hd m1).f1)).1), m2), ?_, fun m2 h2 => ?_⟩
  · show PGood c n2 m1.tail (bnd (numP m1) fun y => .ok ((x, y.1), y.2)) _
    rw [e m1 hp1]
    exact PGood.ret hf' _
  · show (bnd (numP m2) fun y => .ok ((x, y.1), y.2)) = _
    rw [e m2 (by rw [h2]; exact hp1), h2]
theorem names_good (c : Cut) : ∀ n1 k acc m, LFin m → LInc m → m.length ≤ n1 → PGood c k m (namesP n1 acc m) (namesP k acc) := by
  intro n1
  induction n1 with
  | zero => intro k acc m hf _ hm; exact absurd (List.length_eq_zero_iff.1 (Nat.le_zero.1 hm)) hf.1
  | succ n1 ih =>
    intro k acc m hf hi hm
    have main : ∀ k, PGood c (k + 1) m (namesP (n1 + 1) acc m) (namesP (k + 1) acc) := by
      intro k
      refine if_good c (fun t => (isT 1 emptyT t && !resS t.f1) = true) (by have := isT_end c 1 (by decide) emptyT; intro h; exact this (Bool.and_eq_true_iff.1 h).1) hi (fun hp0 => ?_) (fun _ => PGood.ret hf _)
      obtain ⟨hp1, hp2⟩ := Bool.and_eq_true_iff.1 hp0
      have hk1 : ∀ m2, hd m2 = hd m → wordP m2 = .ok ((hd m).f1, m2.tail) := by
        intro m2 h2
        unfold wordP
        rw [h2, if_neg (by simpa using hp2)]
        have := take_is (k := 1) (x := emptyT) (m := m2) (by rw [h2]; exact hp1)
        rw [h2] at this
        exact this
      have h0 : (hd m).f0 ≠ 0 := by
        have := isT_k hp1
        rw [this]; decide
      obtain ⟨hs, hf'⟩ := lfin_tail hf h0
      have hlen : m.tail.length + 1 = m.length := by have := List.length_pos_iff.2 hf.1; simp; omega
      refine ⟨fun m2 => namesP k (acc ++ [(hd m).f1]) m2, ?_, fun m2 h2 => ?_⟩
      · rw [hk1 m rfl, bnd_ok]
        exact ih k (acc ++ [(hd m).f1]) m.tail hf' (hi.suf hs) (by omega)
      · rw [hk1 m2 h2, bnd_ok]
    cases k with
    | zero => exact (main 0).zero
    | succ k => exact main k
theorem rule_good (c : Cut) (n2 : Nat) {m : List TK} (hf : LFin m) (hi : LInc m) : PGood c n2 m (ruleP m) ruleP := by
  refine PGood.bnd hi (act_good c n2 hf hi) fun a m1 _ _ hf1 hi1 => ?_
  try dsimp only
  refine PGood.bnd hi1 (word_good c n2 hf1) fun nm m2 _ _ hf2 hi2 => ?_
  try dsimp only
  refine PGood.bnd hi2 (PGood.self (R := fun k m3 => namesP k [nm] m3) fun k _ => names_good c m2.length k [nm] m2 hf2 hi2 (Nat.le_refl _)) fun ns m3 _ _ hf3 hi3 => ?_
  try dsimp only
  refine PGood.self (R := fun k m4 => if isP 1 ifT m4 = true then bnd (condP (factorP k 0) m4.tail) fun c => .ok ((⟨a.1, a.2, ns, c.1⟩ : S81), c.2) else .ok ((⟨a.1, a.2, ns, z47⟩ : S81), m4)) fun k _ => ?_
  refine PGood.mono (n2 := k + 1) ?_ (Nat.le_succ _)
  refine if_good c (fun t => isT 1 ifT t = true) (isT_end c 1 (by decide) _) hi3 (fun hp0 => ?_) (fun _ => PGood.ret hf3 _)
  have h0 : (hd m3).f0 ≠ 0 := by
    have := isT_k hp0
    rw [this]; decide
  obtain ⟨hs, hf'⟩ := lfin_tail hf3 h0
  refine ⟨fun m4 => bnd (condP (factorP k 0) m4) fun c => .ok ((⟨a.1, a.2, ns, c.1⟩ : S81), c.2), ?_, fun m2 h2 => rfl⟩
  refine PGood.bnd (hi3.suf hs) (cond_good c m3.length (fun m hf hi hm => factor_good c m3.length k 0 m hf hi hm) m3.tail hf' (hi3.suf hs) (by simp)) fun x m1 _ _ hf1 hi1 => ?_
  exact PGood.ret hf1 _
/-! ### lines, rules, the policy: a cut row may be one already -/
def AtEnd (c : Cut) {α : Type} (bad : Int) (r : Except (Int × Int) (α × List TK)) : Prop := (∃ x, r = .ok (x, [c.E])) ∨ r = .error (61, c.t.f2) ∨ r = .error (bad, c.t.f2)
structure Weak (c : Cut) {α : Type} (n2 : Nat) (m : List TK) (r1 : Except (Int × Int) (α × List TK)) (r2 : List TK → Except (Int × Int) (α × List TK)) : Prop where
  snd : ∀ y m', r1 = .ok (y, m') → m' <:+ m ∧ LFin m'
  err : ∀ bad p, r1 = .error (bad, p) → (bad = 61 ∨ bad = 62) ∧ ∃ u ∈ m, p = u.f2
  sim : ∀ l, m = l ++ c.t :: c.rest → (l ++ [c.E]).length ≤ n2 → (∀ y l', r1 = .ok (y, l' ++ c.t :: c.rest) → r2 (l ++ [c.E]) = .ok (y, l' ++ [c.E])) ∧ (∀ bad, r1 = .error (bad, c.t.f2) → AtEnd c bad (r2 (l ++ [c.E])))
theorem PGood.weak {c : Cut} {α : Type} {n2 : Nat} {m : List TK} {r1 : Except (Int × Int) (α × List TK)} {r2 : List TK → Except (Int × Int) (α × List TK)} (h : PGood c n2 m r1 r2) : Weak c n2 m r1 r2 :=
  ⟨h.snd, h.err, fun l hl hn => ⟨(h.sim l hl hn).1, fun bad hh => Or.inr (Or.inr ((h.sim l hl hn).2 bad hh))⟩⟩
theorem Weak.self {c : Cut} {α : Type} {n2 : Nat} {m : List TK} {r1 : Except (Int × Int) (α × List TK)} {R : Nat → List TK → Except (Int × Int) (α × List TK)} (h : ∀ k, k ≤ n2 → Weak c k m r1 (R k)) : Weak c n2 m r1 (fun m3 => R m3.length m3) :=
  ⟨(h 0 (Nat.zero_le _)).snd, (h 0 (Nat.zero_le _)).err, fun l hl hk => (h _ hk).sim l hl (Nat.le_refl _)⟩
theorem Weak.zero {c : Cut} {α : Type} {n2 : Nat} {m : List TK} {r1 : Except (Int × Int) (α × List TK)} {r2 r2' : List TK → Except (Int × Int) (α × List TK)} (h : Weak c n2 m r1 r2) : Weak c 0 m r1 r2' :=
  ⟨h.snd, h.err, fun l hl hk => by simp at hk⟩
/-- At the end there is a value, or a failure that says that something is missing. -/
def Ends (c : Cut) {α : Type} (r : Except (Int × Int) (α × List TK)) : Prop := (∃ x, r = .ok (x, [c.E])) ∨ r = .error (61, c.t.f2)
theorem Weak.bnd {c : Cut} {α β : Type} {n2 : Nat} {m : List TK} {r1 : Except (Int × Int) (α × List TK)} {r2 : List TK → Except (Int × Int) (α × List TK)} {g1 g2 : α × List TK → Except (Int × Int) (β × List TK)} (hi : LInc m) (h : Weak c n2 m r1 r2) (hg : ∀ x m' n', r1 = .ok (x, m') → m' <:+ m → LFin m' → LInc m' → (n' = 0 ∨ n' + m.length ≤ n2 + m'.length) → Weak c n' m' (g1 (x, m')) (fun m2 => g2 (x, m2))) (he : ∀ x, Ends c (g2 (x, [c.E]))) :
    Weak c n2 m (bnd r1 g1) (fun m2 => bnd (r2 m2) g2) := by
  cases hr : r1 with
  | error e =>
    obtain ⟨b0, p0⟩ := e
    refine ⟨fun y m' hh => (by cases hh), fun bad p hh => h.err _ _ (hr.trans (by cases hh; rfl)), fun l hl hn => ⟨fun y l' hh => (by cases hh), fun bad hh => ?_⟩⟩
    have e2 := (h.sim l hl hn).2 bad (hr.trans (by cases hh; rfl))
    show AtEnd c bad (Go.Proofs.YtdfjjimmnbijmaaDoor.PP.bnd (r2 (l ++ [c.E])) g2)
    rcases e2 with ⟨x, e2⟩ | e2 | e2
    · rw [e2]
      rcases he x with ⟨y, h1⟩ | h1
      · exact Or.inl ⟨y, h1⟩
      · exact Or.inr (Or.inl h1)
    · rw [e2]; exact Or.inr (Or.inl rfl)
    · rw [e2]; exact Or.inr (Or.inr rfl)
  | ok x =>
    obtain ⟨x, m'⟩ := x
    obtain ⟨hs, hf⟩ := h.snd _ _ hr
    have hG := hg x m' 0 hr hs hf (hi.suf hs) (Or.inl rfl)
    refine ⟨fun y m'' hh => ?_, fun bad p hh => ?_, fun l hl hn => ?_⟩
    · obtain ⟨q1, q2⟩ := hG.snd y m'' hh
      exact ⟨q1.trans hs, q2⟩
    · obtain ⟨q1, u, q2, q3⟩ := hG.err bad p hh
      exact ⟨q1, u, hs.subset q2, q3⟩
    · have key : (∃ u ∈ m', u.f2 = c.t.f2) → ∃ l', m' = l' ++ c.t :: c.rest ∧ r2 (l ++ [c.E]) = .ok (x, l' ++ [c.E]) ∧ Weak c (l' ++ [c.E]).length m' (g1 (x, m')) (fun m2 => g2 (x, m2)) := by
        intro hu
        subst hl
        obtain ⟨l', e1, e2⟩ := c.at_suf hi hs hu
        refine ⟨l', e1, (h.sim l rfl hn).1 x l' (by rw [hr, e1]), hg x m' _ hr hs hf (hi.suf hs) (Or.inr ?_)⟩
        rw [e1]
        simp only [List.length_append, List.length_singleton, List.length_cons] at hn ⊢
        omega
      refine ⟨fun y l'' hh => ?_, fun bad hh => ?_⟩
      · obtain ⟨q1, _⟩ := hG.snd _ _ hh
        obtain ⟨l', e1, e2, e3⟩ := key ⟨c.t, q1.subset (by simp), rfl⟩
        show Go.Proofs.YtdfjjimmnbijmaaDoor.PP.bnd (r2 (l ++ [c.E])) g2 = _
        rw [e2]
        exact (e3.sim l' e1 (Nat.le_refl _)).1 y l'' hh
      · obtain ⟨_, u, q2, q3⟩ := hG.err _ _ hh
        obtain ⟨l', e1, e2, e3⟩ := key ⟨u, q2, q3.symm⟩
        show AtEnd c bad (Go.Proofs.YtdfjjimmnbijmaaDoor.PP.bnd (r2 (l ++ [c.E])) g2)
        rw [e2]
        exact (e3.sim l' e1 (Nat.le_refl _)).2 bad hh
theorem lines_suf : ∀ m : List TK, linesP m <:+ m
  | [] => List.suffix_refl _
  | t :: r => by
    unfold linesP
    split
    · exact (lines_suf r).trans (List.suffix_cons t r)
    · exact List.suffix_refl _
theorem lines_fin : ∀ m : List TK, LFin m → LFin (linesP m)
  | [], h => h
  | t :: r, h => by
    unfold linesP
    split
    · rename_i h4
      exact lines_fin r (lfin_tail h (by show t.f0 ≠ 0; rw [h4]; decide)).2
    · exact h
theorem lines_end (c : Cut) : linesP [c.E] = [c.E] := by
  unfold linesP
  rw [if_neg (by rw [c.k0]; decide)]
theorem lines_cut (c : Cut) : ∀ l l' : List TK, linesP (l ++ c.t :: c.rest) = l' ++ c.t :: c.rest → linesP (l ++ [c.E]) = l' ++ [c.E]
  | [], l', h => by
    rw [List.nil_append] at h ⊢
    rw [lines_end]
    unfold linesP at h
    split at h
    · have h1 := (lines_suf c.rest).length_le
      rw [h] at h1
      simp only [List.length_append, List.length_cons] at h1
      omega
    · have h2 : [] ++ c.t :: c.rest = l' ++ c.t :: c.rest := h
      rw [← (List.append_left_inj _).1 h2]; rfl
  | x :: r, l', h => by
    rw [List.cons_append] at h ⊢
    unfold linesP at h ⊢
    split at h
    · rename_i h4
      rw [if_pos h4]
      exact lines_cut c r l' h
    · rename_i h4
      rw [if_neg h4]
      rw [← List.cons_append] at h
      rw [← (List.append_left_inj _).1 h]; rfl
theorem lines_good (c : Cut) (n2 : Nat) {m : List TK} (hf : LFin m) : PGood c n2 m (.ok ((), linesP m)) (fun m2 => .ok ((), linesP m2)) := by
  refine ⟨fun y m' hh => ?_, fun bad p hh => (by cases hh), fun l hl hn => ⟨fun y l' hh => ?_, fun bad hh => (by cases hh)⟩⟩
  · obtain ⟨_, rfl⟩ := Prod.mk.inj (Except.ok.inj hh)
    exact ⟨lines_suf m, lines_fin m hf⟩
  · obtain ⟨_, e⟩ := Prod.mk.inj (Except.ok.inj hh)
    subst hl
    rw [lines_cut c l l' e]
theorem endP_end (c : Cut) : endP [c.E] = .ok ((), [c.E]) := by
  unfold endP
  rw [if_pos (show (hd [c.E]).f0 = 0 from c.k0), lines_end]
theorem endP_weak (c : Cut) (n2 : Nat) {m : List TK} (hf : LFin m) (hi : LInc m) : Weak c n2 m (endP m) endP := by
  by_cases h0 : (hd m).f0 = 0
  · have hG := lines_good c n2 hf
    have e1 : endP m = .ok ((), linesP m) := by unfold endP; rw [if_pos h0]
    refine ⟨fun y m' hh => hG.snd y m' (by rw [← e1]; exact hh), fun bad p hh => (by rw [e1] at hh; cases hh), fun l hl hn => ⟨fun y l' hh => ?_, fun bad hh => (by rw [e1] at hh; cases hh)⟩⟩
    have e2 := (hG.sim l hl hn).1 y l' (by rw [← e1]; exact hh)
    subst hl
    rcases c.heads l with ⟨h, r, rfl, h1, h2, h3, h4⟩ | ⟨rfl, h1, h2⟩
    · rw [h1, ← h2] at h0
      unfold endP
      rw [if_pos h0]; exact e2
    · rw [List.nil_append] at e2 ⊢
      rw [endP_end, ← e2, lines_end]
  · have hG : PGood c n2 m (bnd (takeP 4 [] m) fun x => .ok ((), linesP x.2)) (fun m2 => bnd (takeP 4 [] m2) fun x => .ok ((), linesP x.2)) :=
      PGood.bnd hi (take_good c n2 4 (by decide) [] hf) fun x m1 _ _ hf1 _ => lines_good c n2 hf1
    have e1 : endP m = bnd (takeP 4 [] m) fun x => .ok ((), linesP x.2) := by unfold endP; rw [if_neg h0]
    rw [e1]
    refine ⟨hG.snd, hG.err, fun l hl hn => ?_⟩
    have hs := hG.sim l hl hn
    subst hl
    rcases c.heads l with ⟨h, r, rfl, h1, h2, h3, h4⟩ | ⟨rfl, h1, h2⟩
    · rw [h1, ← h2] at h0
      have e3 : endP (h :: r ++ [c.E]) = bnd (takeP 4 [] (h :: r ++ [c.E])) fun x => .ok ((), linesP x.2) := by unfold endP; rw [if_neg h0]
      rw [e3]
      exact ⟨hs.1, fun bad hh => Or.inr (Or.inr (hs.2 bad hh))⟩
    · refine ⟨fun y l' hh => ?_, fun bad hh => Or.inl ⟨(), endP_end c⟩⟩
      have := hs.1 y l' hh
      rw [List.nil_append, take_end c 4 (by decide)] at this
      cases this
theorem rules_end (c : Cut) (n : Nat) (acc : List S81) : rulesP n acc [c.E] = .ok (acc, [c.E]) := by
  cases n with
  | zero => rfl
  | succ n =>
    rw [rulesP, if_pos]
    show isP 0 ⟨#[]⟩ [c.E] = true
    rw [isP_kind, show hd [c.E] = c.E from rfl, c.k0]; rfl
theorem Weak.mono {c : Cut} {α : Type} {n2 n : Nat} {m : List TK} {r1 : Except (Int × Int) (α × List TK)} {r2 : List TK → Except (Int × Int) (α × List TK)} (h : Weak c n2 m r1 r2) (hn : n ≤ n2) : Weak c n m r1 r2 :=
  ⟨h.snd, h.err, fun l hl hk => h.sim l hl (Nat.le_trans hk hn)⟩
theorem act_end (c : Cut) : actP [c.E] = .error (61, c.E.f2) := by unfold actP; rw [word_end]; rfl
theorem rule_end (c : Cut) : ruleP [c.E] = .error (61, c.E.f2) := by unfold ruleP; rw [act_end]; rfl
theorem rules_weak (c : Cut) : ∀ n1 k acc m, LFin m → LInc m → m.length ≤ n1 → Weak c k m (rulesP n1 acc m) (rulesP k acc) := by
  intro n1
  induction n1 with
  | zero => intro k acc m hf _ hm; exact absurd (List.length_eq_zero_iff.1 (Nat.le_zero.1 hm)) hf.1
  | succ n1 ih =>
    intro k acc m hf hi hm
    have hK : ∀ m2 : List TK, (isP 0 emptyT m2 = true) ↔ (hd m2).f0 = 0 := fun m2 => by show isP 0 ⟨#[]⟩ m2 = true ↔ _; rw [isP_kind]; simp
    have main : ∀ k, Weak c (k + 1) m (rulesP (n1 + 1) acc m) (rulesP (k + 1) acc) := by
      intro k
      by_cases h0 : isP 0 emptyT m = true
      · have e1 : rulesP (n1 + 1) acc m = .ok (acc, m) := by rw [rulesP, if_pos h0]
        rw [e1]
        have hG := PGood.ret (c := c) (n2 := k + 1) hf acc
        refine ⟨hG.snd, hG.err, fun l hl hn => ⟨fun y l' hh => ?_, fun bad hh => (by cases hh)⟩⟩
        have hs := (hG.sim l hl hn).1 y l' hh
        subst hl
        rcases c.heads l with ⟨h, r, rfl, h1, h2, h3, h4⟩ | ⟨rfl, h1, h2⟩
        · have : isP 0 emptyT (h :: r ++ [c.E]) = true := (hK _).2 (by rw [h2, ← h1]; exact (hK _).1 h0)
          rw [rulesP, if_pos this]; exact hs
        · rw [List.nil_append] at hs ⊢
          rw [rules_end]; exact hs
      · have e1 : rulesP (n1 + 1) acc m = bnd (ruleP m) fun r => bnd (endP r.2) fun e => rulesP n1 (acc ++ [r.1]) e.2 := by rw [rulesP, if_neg h0]
        rw [e1]
        have hne : m ≠ [] := hf.1
        have hW : Weak c (k + 1) m (bnd (ruleP m) fun r => bnd (endP r.2) fun e => rulesP n1 (acc ++ [r.1]) e.2) (fun m2 => bnd (ruleP m2) fun r => bnd (endP r.2) fun e => rulesP k (acc ++ [r.1]) e.2) := by
          refine Weak.bnd hi (rule_good c (k + 1) hf hi).weak (fun r4 m1 n' hr hs1 hf1 hi1 hn => ?_) (fun r4 => ?_)
          · have hlt := rule_lt hne hr
            try dsimp only
            refine Weak.bnd (g2 := fun e => rulesP k (acc ++ [r4]) e.2) hi1 (endP_weak c n' hf1 hi1) (fun u m2 n'' _ hs2 hf2 hi2 hn2 => ?_) (fun u => Or.inl ⟨_, rules_end c k _⟩)
            have h2 := hs2.length_le
            exact (ih k (acc ++ [r4]) m2 hf2 hi2 (by omega)).mono (by omega)
          · show Ends c (bnd (endP [c.E]) fun e => rulesP k (acc ++ [r4]) e.2)
            rw [endP_end]
            exact Or.inl ⟨_, rules_end c k _⟩
        refine ⟨hW.snd, hW.err, fun l hl hn => ?_⟩
        have hs := hW.sim l hl hn
        subst hl
        rcases c.heads l with ⟨h, r, rfl, h1, h2, h3, h4⟩ | ⟨rfl, h1, h2⟩
        · have e3 : ¬ isP 0 emptyT (h :: r ++ [c.E]) = true := by rw [hK, h2, ← h1, ← hK]; exact h0
          rw [rulesP, if_neg e3]; exact hs
        · simp only [List.nil_append, rules_end] at hs ⊢
          refine ⟨fun y l' hh => ?_, fun bad hh => Or.inl ⟨_, rfl⟩⟩
          have := hs.1 y l' hh
          rw [rule_end] at this
          cases this
    cases k with
    | zero => exact (main 0).zero
    | succ k => exact main k
theorem policy_weak (c : Cut) (n2 : Nat) {m : List TK} (hf : LFin m) (hi : LInc m) : Weak c n2 m (policyP m) policyP := by
  have hL : Weak c n2 m (bnd (.ok ((), linesP m)) fun u => bnd (takeP 1 [archT] u.2) fun a0 => bnd (wordP a0.2) fun ar => bnd (endP ar.2) fun e1 => bnd (takeP 1 [defT] e1.2) fun d0 => bnd (actP d0.2) fun d => bnd (endP d.2) fun e2 => bnd (rulesP e2.2.length [] e2.2) fun rs => .ok ((⟨ar.1, d.1.1, d.1.2, rs.1⟩ : S41), rs.2))
      (fun m2 => bnd (.ok ((), linesP m2)) fun u => bnd (takeP 1 [archT] u.2) fun a0 => bnd (wordP a0.2) fun ar => bnd (endP ar.2) fun e1 => bnd (takeP 1 [defT] e1.2) fun d0 => bnd (actP d0.2) fun d => bnd (endP d.2) fun e2 => bnd (rulesP e2.2.length [] e2.2) fun rs => .ok ((⟨ar.1, d.1.1, d.1.2, rs.1⟩ : S41), rs.2)) := by
    have t1 : ∀ {α : Type} (x : ByteArray) (g : ByteArray × List TK → Except (Int × Int) (α × List TK)), Ends c (bnd (takeP 1 [x] [c.E]) g) := fun x g => by rw [take_end c 1 (by decide), c.p0]; exact Or.inr rfl
    refine Weak.bnd hi (lines_good c n2 hf).weak (fun u m1 n' _ _ hf1 hi1 _ => ?_) (fun u => t1 _ _)
    try dsimp only
    refine Weak.bnd hi1 (take_good c n' 1 (by decide) [archT] hf1).weak (fun a0 m2 n' _ _ hf2 hi2 _ => ?_) (fun a0 => ?_)
    rotate_left
    · show Ends c (bnd (wordP [c.E]) _)
      rw [word_end, c.p0]; exact Or.inr rfl
    try dsimp only
    refine Weak.bnd hi2 (word_good c n' hf2).weak (fun ar m3 n' _ _ hf3 hi3 _ => ?_) (fun ar => ?_)
    rotate_left
    · show Ends c (bnd (endP [c.E]) _)
      rw [endP_end]; exact t1 _ _
    try dsimp only
    refine Weak.bnd hi3 (endP_weak c n' hf3 hi3) (fun e1 m4 n' _ _ hf4 hi4 _ => ?_) (fun e1 => t1 _ _)
    try dsimp only
    refine Weak.bnd hi4 (take_good c n' 1 (by decide) [defT] hf4).weak (fun d0 m5 n' _ _ hf5 hi5 _ => ?_) (fun d0 => ?_)
    rotate_left
    · show Ends c (bnd (actP [c.E]) _)
      rw [act_end, c.p0]; exact Or.inr rfl
    try dsimp only
    refine Weak.bnd hi5 (act_good c n' hf5 hi5).weak (fun d m6 n' _ _ hf6 hi6 _ => ?_) (fun d => ?_)
    rotate_left
    · show Ends c (bnd (endP [c.E]) fun e2 => bnd (rulesP e2.2.length [] e2.2) _)
      rw [endP_end]
      show Ends c (bnd (rulesP _ [] [c.E]) _)
      rw [rules_end]; exact Or.inl ⟨_, rfl⟩
    try dsimp only
    refine Weak.bnd hi6 (endP_weak c n' hf6 hi6) (fun e2 m7 n' _ _ hf7 hi7 _ => ?_) (fun e2 => ?_)
    rotate_left
    · show Ends c (bnd (rulesP _ [] [c.E]) _)
      rw [rules_end]; exact Or.inl ⟨_, rfl⟩
    try dsimp only
    refine Weak.bnd hi7 (Weak.self (R := fun k m8 => rulesP k [] m8) fun k _ => rules_weak c m7.length k [] m7 hf7 hi7 (Nat.le_refl _)) (fun rs m8 n' _ _ hf8 hi8 _ => (PGood.ret hf8 _).weak) (fun rs => Or.inl ⟨_, rfl⟩)
  exact hL
/-- A row that is refused at a token, cut ahead of it, is a policy or is refused at its end. -/
theorem policy_cut (c : Cut) {l : List TK} {bad : Int} (hf : LFin (l ++ c.t :: c.rest)) (hi : LInc (l ++ c.t :: c.rest)) (h : policyP (l ++ c.t :: c.rest) = .error (bad, c.t.f2)) :
    (∃ x, policyP (l ++ [c.E]) = .ok x) ∨ policyP (l ++ [c.E]) = .error (61, c.t.f2) ∨ policyP (l ++ [c.E]) = .error (bad, c.t.f2) := by
  rcases ((policy_weak c (l ++ [c.E]).length hf hi).sim l rfl (Nat.le_refl _)).2 bad h with ⟨x, h⟩ | h | h
  · exact Or.inl ⟨_, h⟩
  · exact Or.inr (Or.inl h)
  · exact Or.inr (Or.inr h)
theorem policy_err {m : List TK} {bad p : Int} (hf : LFin m) (hi : LInc m) (h : policyP m = .error (bad, p)) : (bad = 61 ∨ bad = 62) ∧ ∃ u ∈ m, p = u.f2 :=
  (policy_weak ⟨z34, [], ⟨0, ⟨#[]⟩, (z34).f2⟩, rfl, rfl, rfl⟩ 0 hf hi).err bad p h

end Go.Proofs.YtdfjjimmnbijmaaDoor.PP

import Derived.Test.YtdfjjimmnbijmaaDoorPPu
import Derived.Test.YtdfjjimmnbijmaaDoorPPpC
namespace Go.Proofs.YtdfjjimmnbijmaaDoor.PP
open Go.RowKit Go.Proofs.YtdfjjimmnbijmaaDoorW.PrintWords Go.Proofs.YtdfjjimmnbijmaaDoorW.PrintLast Go.Proofs.YtdfjjimmnbijmaaDoorW.PrintMore Go.Proofs.YtdfjjimmnbijmaaDoor.Base
attribute [local go_sem] max2_int min2_int max_two min_two max_three min_three max_four min_four
set_option linter.unusedVariables false
set_option linter.unusedSimpArgs false
/-! ### what is parsed is of bounded length: two of the same are told to be alike -/
def okC (x : S47) : Prop := ∃ n, eqK n x x = true
theorem eqK_le {n m : Nat} (h : n ≤ m) {x y : S47} (e : eqK n x y = true) : eqK m x y = true := by
  induction h with
  | refl => exact e
  | step _ ih => exact eqK_mono _ _ _ ih
theorem okC_all : ∀ l : List S47, (∀ c ∈ l, okC c) → ∃ n, ∀ c ∈ l, eqK n c c = true
  | [], _ => ⟨0, fun c h => by cases h⟩
  | a :: r, h => by
    obtain ⟨n, hn⟩ := h a List.mem_cons_self
    obtain ⟨m, hm⟩ := okC_all r fun c hc => h c (List.mem_cons_of_mem _ hc)
    refine ⟨max n m, fun c hc => ?_⟩
    rcases List.mem_cons.1 hc with q | q
    · subst q; exact eqK_le (Nat.le_max_left _ _) hn
    · exact eqK_le (Nat.le_max_right _ _) (hm c q)
theorem okC_node (x : S47) (h : x.f1.length ≤ 1000000) (hk : ∀ c ∈ x.f1, okC c) : okC x := by
  obtain ⟨n, hn⟩ := okC_all _ hk
  refine ⟨n + 1, ?_⟩
  rw [eqK]
  simp only [Bool.and_eq_true, beq_self_eq_true, decide_eq_true_eq, true_and]
  exact ⟨h, eqAll_refl _ hn⟩
def PO (L : Nat) (p : List TK → Except (Int × Int) (S47 × List TK)) : Prop := ∀ m x l, m.length ≤ L → p m = .ok (x, l) → okC x
theorem more_ok {L : Nat} {p : List TK → Except (Int × Int) (S47 × List TK)} (hp : PO L p) (hs : Shr p) (wd : ByteArray) : ∀ n acc m y l, m.length ≤ L → (∀ c ∈ acc, okC c) → moreP p wd n acc m = .ok (y, l) → y.length ≤ acc.length + m.length ∧ ∀ c ∈ y, okC c
  | 0, acc, m, y, l, _, ha, h => by cases h; exact ⟨by omega, ha⟩
  | n + 1, acc, m, y, l, hm, ha, h => by
    rw [moreP] at h
    split at h
    · rename_i hc
      obtain ⟨⟨c, m1⟩, h1, h2⟩ := bnd_inv h
      have h0 : m ≠ [] := by
        intro e; subst e
        have := isP_ne hc
        exact absurd this (by simp [hd, z34])
      have hlen : m.tail.length + 1 = m.length := by have := List.length_pos_iff.2 h0; simp; omega
      have q1 : m1.length ≤ m.tail.length := hs _ _ _ h1
      obtain ⟨e1, e2⟩ := more_ok hp hs wd n (acc ++ [c]) m1 y l (by omega) (fun d hd => by
        rcases List.mem_append.1 hd with q | q
        · exact ha d q
        · rw [List.mem_singleton.1 q]; exact hp _ _ _ (by omega) h1) h2
      rw [List.length_append, List.length_singleton] at e1
      exact ⟨by omega, e2⟩
    · cases h; exact ⟨by omega, ha⟩
theorem list_ok {L : Nat} (hL : L ≤ 900000) {p : List TK → Except (Int × Int) (S47 × List TK)} (hp : PO L p) (hs : Shr p) (wd : ByteArray) (kind : Int) : PO L (listP p wd kind) := by
  intro m x l hm h
  obtain ⟨⟨c, m1⟩, h1, h⟩ := bnd_inv h
  obtain ⟨⟨y, m2⟩, h2, h⟩ := bnd_inv h
  have q1 : m1.length ≤ m.length := hs _ _ _ h1
  obtain ⟨e1, e2⟩ := more_ok hp hs wd _ _ _ _ _ (show m1.length ≤ L by omega) (fun d hd => by rw [List.mem_singleton.1 hd]; exact hp _ _ _ hm h1) h2
  obtain ⟨rfl, rfl⟩ := Prod.mk.inj (Except.ok.inj h)
  have e1' : y.length ≤ 1 + m1.length := by simpa using e1
  show okC (if y.length = 1 then y.headD z47 else ⟨kind, y, 0, 0, ⟨#[]⟩, 0⟩)
  split
  · rename_i hy
    cases y with
    | nil => cases hy
    | cons a r => exact e2 a List.mem_cons_self
  · exact okC_node _ (by show y.length ≤ 1000000; omega) e2
theorem factor_ok : ∀ n deep, PO 900000 (factorP n deep)
  | 0, deep => fun m x l _ h => by cases h
  | n + 1, deep => fun m x l hm h => by
    rw [factorP] at h
    have ht : m.tail.length ≤ m.length := by simp
    split at h
    · cases h
    split at h
    · obtain ⟨⟨c, m1⟩, h1, h⟩ := bnd_inv h
      obtain ⟨rfl, rfl⟩ := Prod.mk.inj (Except.ok.inj h)
      exact okC_node _ (by simp) (fun d hd => by rw [List.mem_singleton.1 hd]; exact factor_ok n (deep + 1) _ _ _ (by omega) h1)
    split at h
    · obtain ⟨⟨c, m1⟩, h1, h⟩ := bnd_inv h
      obtain ⟨⟨s, m2⟩, h2, h⟩ := bnd_inv h
      obtain ⟨rfl, rfl⟩ := Prod.mk.inj (Except.ok.inj h)
      exact list_ok (Nat.le_refl _) (list_ok (Nat.le_refl _) (factor_ok n (deep + 1)) (factor_shr _ _) andT 1) (list_shr (factor_shr _ _) andT 1) orT 2 _ _ _ (by omega) h1
    · obtain ⟨⟨a, m1⟩, h1, h⟩ := bnd_inv h
      obtain ⟨⟨b, m2⟩, h2, h⟩ := bnd_inv h
      obtain ⟨⟨c, m3⟩, h3, h⟩ := bnd_inv h
      obtain ⟨⟨d, m4⟩, h4, h⟩ := bnd_inv h
      obtain ⟨rfl, rfl⟩ := Prod.mk.inj (Except.ok.inj h)
      exact okC_node _ (by simp) (fun d hd => by cases hd)
theorem names_len : ∀ n acc m y l, namesP n acc m = .ok (y, l) → y.length ≤ acc.length + m.length
  | 0, acc, m, y, l, h => by cases h; omega
  | n + 1, acc, m, y, l, h => by
    rw [namesP] at h
    split at h
    · rename_i hc
      obtain ⟨⟨c, m1⟩, h1, h2⟩ := bnd_inv h
      have h0 : m ≠ [] := by
        intro e; subst e
        have := isP_ne (Bool.and_eq_true_iff.1 hc).1
        exact absurd this (by simp [hd, z34])
      have q1 := word_len h0 h1
      have := names_len n _ _ _ _ h2
      rw [List.length_append, List.length_singleton] at this
      simp only at this
      omega
    · cases h; omega
def okR (r : S81) : Prop := ∃ n, eqR n r r = true
theorem okR_of {r : S81} (h1 : r.f2.length ≤ 1000000) (h2 : okC r.f3) : okR r := by
  obtain ⟨n, hn⟩ := h2
  refine ⟨n, ?_⟩
  unfold eqR
  simp only [Bool.and_eq_true, decide_eq_true_eq, beq_self_eq_true, true_and]
  exact ⟨by simp [eqB], eqAll_refl _ (fun a _ => by simp [eqB]), h1, hn⟩
theorem rule_ok {m l : List TK} {r : S81} (hm : m.length ≤ 900000) (h : ruleP m = .ok (r, l)) : okR r := by
  obtain ⟨⟨a, m1⟩, h1, h⟩ := bnd_inv h
  obtain ⟨⟨nm, m2⟩, h2, h⟩ := bnd_inv h
  obtain ⟨⟨ns, m3⟩, h3, h⟩ := bnd_inv h
  have q1 : m1.length ≤ m.length := act_shr _ _ _ h1
  have q2 : m2.length ≤ m1.length := word_shr _ _ _ h2
  have q3 : m3.length ≤ m2.length := names_shr _ _ _ _ _ h3
  have q4 : ns.length ≤ 1 + m2.length := names_len _ _ _ _ _ h3
  have ht : m3.tail.length ≤ m3.length := by simp
  replace h : (if isP 1 ifT m3 = true then bnd (condP (factorP m3.length 0) m3.tail) fun c => .ok ((⟨a.1, a.2, ns, c.1⟩ : S81), c.2) else .ok ((⟨a.1, a.2, ns, z47⟩ : S81), m3)) = .ok (r, l) := h
  split at h
  · obtain ⟨⟨c, m4⟩, h4, h⟩ := bnd_inv h
    obtain ⟨rfl, rfl⟩ := Prod.mk.inj (Except.ok.inj h)
    exact okR_of (by show ns.length ≤ 1000000; omega) (list_ok (Nat.le_refl _) (list_ok (Nat.le_refl _) (factor_ok _ _) (factor_shr _ _) andT 1) (list_shr (factor_shr _ _) andT 1) orT 2 _ _ _ (by omega) h4)
  · obtain ⟨rfl, rfl⟩ := Prod.mk.inj (Except.ok.inj h)
    exact okR_of (by show ns.length ≤ 1000000; omega) (okC_node _ (by simp [z47]) (fun d hd => by cases hd))
theorem rules_ok : ∀ n acc m y l, m.length ≤ 900000 → (∀ r ∈ acc, okR r) → rulesP n acc m = .ok (y, l) → y.length ≤ acc.length + m.length ∧ ∀ r ∈ y, okR r
  | 0, acc, m, y, l, _, ha, h => by cases h; exact ⟨by omega, ha⟩
  | n + 1, acc, m, y, l, hm, ha, h => by
    rw [rulesP] at h
    split at h
    · cases h; exact ⟨by omega, ha⟩
    · rename_i hc
      have hne : m ≠ [] := by
        intro e; subst e
        exact hc (by show isP 0 ⟨#[]⟩ ([] : List TK) = true; rw [isP_kind]; rfl)
      obtain ⟨⟨c, m1⟩, h1, h⟩ := bnd_inv h
      obtain ⟨⟨u, m2⟩, h2, h⟩ := bnd_inv h
      have q1 : m1.length + 1 ≤ m.length := rule_lt hne h1
      have q2 : m2.length ≤ m1.length := end_shr _ _ _ h2
      obtain ⟨e1, e2⟩ := rules_ok n (acc ++ [c]) m2 y l (by omega) (fun d hd => by
        rcases List.mem_append.1 hd with q | q
        · exact ha d q
        · rw [List.mem_singleton.1 q]; exact rule_ok hm h1) h
      rw [List.length_append, List.length_singleton] at e1
      exact ⟨by omega, e2⟩
theorem policy_ok {m l : List TK} {x : S41} (hm : m.length ≤ 900000) (h : policyP m = .ok (x, l)) : x.f3.length ≤ 1000000 ∧ ∀ r ∈ x.f3, okR r := by
  obtain ⟨⟨a0, m1⟩, h1, h⟩ := bnd_inv h
  obtain ⟨⟨ar, m2⟩, h2, h⟩ := bnd_inv h
  obtain ⟨⟨u1, m3⟩, h3, h⟩ := bnd_inv h
  obtain ⟨⟨d0, m4⟩, h4, h⟩ := bnd_inv h
  obtain ⟨⟨da, m5⟩, h5, h⟩ := bnd_inv h
  obtain ⟨⟨u2, m6⟩, h6, h⟩ := bnd_inv h
  obtain ⟨⟨rs, m7⟩, h7, h⟩ := bnd_inv h
  have q0 := lines_shr m
  have q1 : m1.length ≤ (linesP m).length := take_shr _ _ _ _ _ h1
  have q2 : m2.length ≤ m1.length := word_shr _ _ _ h2
  have q3 : m3.length ≤ m2.length := end_shr _ _ _ h3
  have q4 : m4.length ≤ m3.length := take_shr _ _ _ _ _ h4
  have q5 : m5.length ≤ m4.length := act_shr _ _ _ h5
  have q6 : m6.length ≤ m5.length := end_shr _ _ _ h6
  obtain ⟨e1, e2⟩ := rules_ok _ _ _ _ _ (show m6.length ≤ 900000 by omega) (fun r hr => by cases hr) h7
  obtain ⟨rfl, rfl⟩ := Prod.mk.inj (Except.ok.inj h)
  have e1' : rs.length ≤ 0 + m6.length := e1
  exact ⟨by show rs.length ≤ 1000000; omega, e2⟩
theorem eqR_le {n m : Nat} (h : n ≤ m) {x y : S81} (e : eqR n x y = true) : eqR m x y = true := by
  induction h with
  | refl => exact e
  | step _ ih => exact eqR_mono _ _ _ ih
theorem okR_all : ∀ l : List S81, (∀ c ∈ l, okR c) → ∃ n, ∀ c ∈ l, eqR n c c = true
  | [], _ => ⟨0, fun c h => by cases h⟩
  | a :: r, h => by
    obtain ⟨n, hn⟩ := h a List.mem_cons_self
    obtain ⟨m, hm⟩ := okR_all r fun c hc => h c (List.mem_cons_of_mem _ hc)
    refine ⟨max n m, fun c hc => ?_⟩
    rcases List.mem_cons.1 hc with q | q
    · subst q; exact eqR_le (Nat.le_max_left _ _) hn
    · exact eqR_le (Nat.le_max_right _ _) (hm c q)
theorem like_ev (a b : ByteArray) (d : Int) (l : List S81) (h1 : l.length ≤ 1000000) (h2 : ∀ r ∈ l, okR r) : Ev (fun k => doorwardref15_Like.f k a b d l a b d l) true := by
  obtain ⟨n, hn⟩ := okR_all l h2
  refine ⟨n, fun k hk => ?_⟩
  show doorwardref15_Like.f k a b d l a b d l = some true
  unfold doorwardref15_Like.f
  rw [if_pos]
  simp only [Bool.and_eq_true, decide_eq_true_eq, beq_self_eq_true, true_and]
  exact ⟨by simp [eqB], by simp [eqB], h1, eqAll_refl _ fun r hr => eqR_le hk (hn r hr)⟩
theorem lexS_len0 {s : ByteArray} (h : (lexS s).2.1 = 0) : (lexS s).1.length ≤ 900000 := by
  unfold lexS at h ⊢
  split at h
  · cases h
  · rename_i hs
    rw [if_neg hs]
    cases hg : lexG s s.size 0 with
    | error e => rw [hg] at h; cases h
    | ok l =>
      obtain ⟨h1, h2⟩ := lexG_lim s _ _ _ hg
      simp [lexR]; omega
/-- What is parsed of a source that is a policy. -/
theorem parse_ok {s : ByteArray} (h : (parseS s).2.2.2.2.1 = 0) : ∃ L p l, (lexS s).2.1 = 0 ∧ s.size ≤ 2000 ∧ LB s.data.toList 0 = .ok L ∧ lexS s = (L ++ [endK s.size], 0, 0) ∧ policyP (L ++ [endK s.size]) = .ok (p, l) ∧ parseS s = (p.f0, p.f1, p.f2, p.f3, 0, 0) ∧ p.f3.length ≤ 1000000 ∧ ∀ r ∈ p.f3, okR r := by
  by_cases h0 : (lexS s).2.1 = 0
  · obtain ⟨hs, L, hL, hS⟩ := lexS_ok0 h0
    have hp : parseS s = parseR (policyP (L ++ [endK s.size])) := by unfold parseS; rw [hS, if_pos rfl]
    have hlen := lexS_len0 h0
    rw [hS] at hlen
    cases hr : policyP (L ++ [endK s.size]) with
    | ok x =>
      obtain ⟨p, l⟩ := x
      rw [hr] at hp
      obtain ⟨e1, e2⟩ := policy_ok hlen hr
      exact ⟨L, p, l, h0, hs, hL, hS, hr, hp, e1, e2⟩
    | error e =>
      obtain ⟨bad, at_⟩ := e
      obtain ⟨h61, _⟩ := policy_err (toks_fin L _) (toks_inc hL) hr
      rw [hp, hr] at h
      have hb' : bad = 0 := h
      omega
  · have hp : parseS s = parseR (.error ((lexS s).2.1, (lexS s).2.2)) := by unfold parseS; rw [if_neg h0]
    rw [hp] at h
    exact absurd h h0

end Go.Proofs.YtdfjjimmnbijmaaDoor.PP

import Derived.Test.YtdfjjimmnbijmaaDoorPPu
import Derived.Test.YtdfjjimmnbijmaaDoorPPqS
namespace Go.Proofs.YtdfjjimmnbijmaaDoor.PP
open Go.RowKit Go.Proofs.YtdfjjimmnbijmaaDoorW.PrintWords Go.Proofs.YtdfjjimmnbijmaaDoorW.PrintLast Go.Proofs.YtdfjjimmnbijmaaDoorW.PrintMore Go.Proofs.YtdfjjimmnbijmaaDoor.Base
attribute [local go_sem] max2_int min2_int max_two min_two max_three min_three max_four min_four
set_option linter.unusedVariables false
set_option linter.unusedSimpArgs false
/-! ### what is parsed is of bounded length: two of the same are told to be alike -/
def okC (x : S47) : Prop := ∃ n, eqK n x x = true
theorem eqK_le {n m : Nat} (h : n ≤ m) {x y : S47} (e : eqK n x y = true) : eqK m x y = true := by
 induction h with
 | refl => exact e
 | step _ ih => exact eqK_mono _ _ _ ih
theorem okC_all : ∀ l : List S47, (∀ c ∈ l, okC c) → ∃ n, ∀ c ∈ l, eqK n c c = true
 | [], _ => ⟨0, fun c h => by cases h⟩
 | a :: r, h => by
  obtain ⟨n, hn⟩ := h a List.mem_cons_self
  obtain ⟨m, hm⟩ := okC_all r fun c hc => h c (List.mem_cons_of_mem _ hc)
  refine ⟨max n m, fun c hc => ?_⟩
  rcases List.mem_cons.1 hc with q | q
  ·subst q; exact eqK_le (Nat.le_max_left _ _) hn
  ·exact eqK_le (Nat.le_max_right _ _) (hm c q)
theorem okC_node (x : S47) (h : x.f1.length ≤ 1000000) (hk : ∀ c ∈ x.f1, okC c) : okC x := by
 obtain ⟨n, hn⟩ := okC_all _ hk
 refine ⟨n + 1, ?_⟩
 rw [eqK]
 simp only [Bool.and_eq_true, beq_self_eq_true, decide_eq_true_eq, true_and]
 exact ⟨h, eqAll_refl _ hn⟩
def PO (L : Nat) (p : List TK → Except (Int × Int) (S47 × List TK)) : Prop := ∀ m x l, m.length ≤ L → p m = .ok (x, l) → okC x
theorem more_ok {L : Nat} {p : List TK → Except (Int × Int) (S47 × List TK)} (hp : PO L p) (hs : Shr p) (wd : ByteArray) : ∀ n acc m y l, m.length ≤ L → (∀ c ∈ acc, okC c) → moreP p wd n acc m = .ok (y, l) → y.length ≤ acc.length + m.length ∧ ∀ c ∈ y, okC c
 | 0, acc, m, y, l, _, ha, h => by cases h; exact ⟨by omega, ha⟩
 | n + 1, acc, m, y, l, hm, ha, h => by
  rw [moreP] at h
  split at h
  ·rename_i hc
   obtain ⟨⟨c, m1⟩, h1, h2⟩ := bnd_inv h
   have h0 : m ≠ [] := by
    intro e; subst e
    have := isP_ne hc
    exact absurd this (by simp [hd, z34])
   have hlen : m.tail.length + 1 = m.length := by have := List.length_pos_iff.2 h0; simp; omega
   have q1 : m1.length ≤ m.tail.length := hs _ _ _ h1
   obtain ⟨e1, e2⟩ := more_ok hp hs wd n (acc ++ [c]) m1 y l (by omega) (fun d hd => by
    rcases List.mem_append.1 hd with q | q
    ·exact ha d q
    ·rw [List.mem_singleton.1 q]; exact hp _ _ _ (by omega) h1) h2
   rw [List.length_append, List.length_singleton] at e1
   exact ⟨by omega, e2⟩
  ·cases h; exact ⟨by omega, ha⟩
theorem list_ok {L : Nat} (hL : L ≤ 900000) {p : List TK → Except (Int × Int) (S47 × List TK)} (hp : PO L p) (hs : Shr p) (wd : ByteArray) (kind : Int) : PO L (listP p wd kind) := by
 intro m x l hm h
 obtain ⟨⟨c, m1⟩, h1, h⟩ := bnd_inv h
 obtain ⟨⟨y, m2⟩, h2, h⟩ := bnd_inv h
 have q1 : m1.length ≤ m.length := hs _ _ _ h1
 obtain ⟨e1, e2⟩ := more_ok hp hs wd _ _ _ _ _ (show m1.length ≤ L by omega) (fun d hd => by rw [List.mem_singleton.1 hd]; exact hp _ _ _ hm h1) h2
 obtain ⟨rfl, rfl⟩ := Prod.mk.inj (Except.ok.inj h)
 have e1' : y.length ≤ 1 + m1.length := by simpa using e1
 show okC (if y.length = 1 then y.headD z47 else ⟨kind, y, 0, 0, ⟨#[]⟩, 0⟩)
 split
 ·rename_i hy
  cases y with
  | nil => cases hy
  | cons a r => exact e2 a List.mem_cons_self
 ·exact okC_node _ (by show y.length ≤ 1000000; omega) e2
theorem factor_ok : ∀ n deep, PO 900000 (factorP n deep)
 | 0, deep => fun m x l _ h => by cases h
 | n + 1, deep => fun m x l hm h => by
  rw [factorP] at h
  have ht : m.tail.length ≤ m.length := by simp
  split at h
  ·cases h
  split at h
  ·obtain ⟨⟨c, m1⟩, h1, h⟩ := bnd_inv h
   obtain ⟨rfl, rfl⟩ := Prod.mk.inj (Except.ok.inj h)
   exact okC_node _ (by simp) (fun d hd => by rw [List.mem_singleton.1 hd]; exact factor_ok n (deep + 1) _ _ _ (by omega) h1)
  split at h
  ·obtain ⟨⟨c, m1⟩, h1, h⟩ := bnd_inv h
   obtain ⟨⟨s, m2⟩, h2, h⟩ := bnd_inv h
   obtain ⟨rfl, rfl⟩ := Prod.mk.inj (Except.ok.inj h)
   exact list_ok (Nat.le_refl _) (list_ok (Nat.le_refl _) (factor_ok n (deep + 1)) (factor_shr _ _) andT 1) (list_shr (factor_shr _ _) andT 1) orT 2 _ _ _ (by omega) h1
  ·obtain ⟨⟨a, m1⟩, h1, h⟩ := bnd_inv h
   obtain ⟨⟨b, m2⟩, h2, h⟩ := bnd_inv h
   obtain ⟨⟨c, m3⟩, h3, h⟩ := bnd_inv h
   obtain ⟨⟨d, m4⟩, h4, h⟩ := bnd_inv h
   obtain ⟨rfl, rfl⟩ := Prod.mk.inj (Except.ok.inj h)
   exact okC_node _ (by simp) (fun d hd => by cases hd)
theorem names_len : ∀ n acc m y l, namesP n acc m = .ok (y, l) → y.length ≤ acc.length + m.length
 | 0, acc, m, y, l, h => by cases h; omega
 | n + 1, acc, m, y, l, h => by
  rw [namesP] at h
  split at h
  ·rename_i hc
   obtain ⟨⟨c, m1⟩, h1, h2⟩ := bnd_inv h
   have h0 : m ≠ [] := by
    intro e; subst e
    have := isP_ne (Bool.and_eq_true_iff.1 hc).1
    exact absurd this (by simp [hd, z34])
   have q1 := word_len h0 h1
   have := names_len n _ _ _ _ h2
   rw [List.length_append, List.length_singleton] at this
   simp only at this
   omega
  ·cases h; omega
def okR (r : S81) : Prop := ∃ n, eqR n r r = true
theorem okR_of {r : S81} (h1 : r.f2.length ≤ 1000000) (h2 : okC r.f3) : okR r := by
 obtain ⟨n, hn⟩ := h2
 refine ⟨n, ?_⟩
 unfold eqR
 simp only [Bool.and_eq_true, decide_eq_true_eq, beq_self_eq_true, true_and]
 exact ⟨by simp [eqB], eqAll_refl _ (fun a _ => by simp [eqB]), h1, hn⟩
theorem rule_ok {m l : List TK} {r : S81} (hm : m.length ≤ 900000) (h : ruleP m = .ok (r, l)) : okR r := by
 obtain ⟨⟨a, m1⟩, h1, h⟩ := bnd_inv h
 obtain ⟨⟨nm, m2⟩, h2, h⟩ := bnd_inv h
 obtain ⟨⟨ns, m3⟩, h3, h⟩ := bnd_inv h
 have q1 : m1.length ≤ m.length := act_shr _ _ _ h1
 have q2 : m2.length ≤ m1.length := word_shr _ _ _ h2
 have q3 : m3.length ≤ m2.length := names_shr _ _ _ _ _ h3
 have q4 : ns.length ≤ 1 + m2.length := names_len _ _ _ _ _ h3
 have ht : m3.tail.length ≤ m3.length := by simp
 replace h : (if isP 1 ifT m3 = true then bnd (condP (factorP m3.length 0) m3.tail) fun c => .ok ((⟨a.1, a.2, ns, c.1⟩ : S81), c.2) else .ok ((⟨a.1, a.2, ns, z47⟩ : S81), m3)) = .ok (r, l) := h
 split at h
 ·obtain ⟨⟨c, m4⟩, h4, h⟩ := bnd_inv h
  obtain ⟨rfl, rfl⟩ := Prod.mk.inj (Except.ok.inj h)
  exact okR_of (by show ns.length ≤ 1000000; omega) (list_ok (Nat.le_refl _) (list_ok (Nat.le_refl _) (factor_ok _ _) (factor_shr _ _) andT 1) (list_shr (factor_shr _ _) andT 1) orT 2 _ _ _ (by omega) h4)
 ·obtain ⟨rfl, rfl⟩ := Prod.mk.inj (Except.ok.inj h)
  exact okR_of (by show ns.length ≤ 1000000; omega) (okC_node _ (by simp [z47]) (fun d hd => by cases hd))
theorem rules_ok : ∀ n acc m y l, m.length ≤ 900000 → (∀ r ∈ acc, okR r) → rulesP n acc m = .ok (y, l) → y.length ≤ acc.length + m.length ∧ ∀ r ∈ y, okR r
 | 0, acc, m, y, l, _, ha, h => by cases h; exact ⟨by omega, ha⟩
 | n + 1, acc, m, y, l, hm, ha, h => by
  rw [rulesP] at h
  split at h
  ·cases h; exact ⟨by omega, ha⟩
  ·rename_i hc
   have hne : m ≠ [] := by
    intro e; subst e
    exact hc (by show isP 0 ⟨#[]⟩ ([] : List TK) = true; rw [isP_kind]; rfl)
   obtain ⟨⟨c, m1⟩, h1, h⟩ := bnd_inv h
   obtain ⟨⟨u, m2⟩, h2, h⟩ := bnd_inv h
   have q1 : m1.length + 1 ≤ m.length := rule_lt hne h1
   have q2 : m2.length ≤ m1.length := end_shr _ _ _ h2
   obtain ⟨e1, e2⟩ := rules_ok n (acc ++ [c]) m2 y l (by omega) (fun d hd => by
    rcases List.mem_append.1 hd with q | q
    ·exact ha d q
    ·rw [List.mem_singleton.1 q]; exact rule_ok hm h1) h
   rw [List.length_append, List.length_singleton] at e1
   exact ⟨by omega, e2⟩
theorem policy_ok {m l : List TK} {x : S41} (hm : m.length ≤ 900000) (h : policyP m = .ok (x, l)) : x.f3.length ≤ 1000000 ∧ ∀ r ∈ x.f3, okR r := by
 obtain ⟨⟨a0, m1⟩, h1, h⟩ := bnd_inv h
 obtain ⟨⟨ar, m2⟩, h2, h⟩ := bnd_inv h
 obtain ⟨⟨u1, m3⟩, h3, h⟩ := bnd_inv h
 obtain ⟨⟨d0, m4⟩, h4, h⟩ := bnd_inv h
 obtain ⟨⟨da, m5⟩, h5, h⟩ := bnd_inv h
 obtain ⟨⟨u2, m6⟩, h6, h⟩ := bnd_inv h
 obtain ⟨⟨rs, m7⟩, h7, h⟩ := bnd_inv h
 have q0 := lines_shr m
 have q1 : m1.length ≤ (linesP m).length := take_shr _ _ _ _ _ h1
 have q2 : m2.length ≤ m1.length := word_shr _ _ _ h2
 have q3 : m3.length ≤ m2.length := end_shr _ _ _ h3
 have q4 : m4.length ≤ m3.length := take_shr _ _ _ _ _ h4
 have q5 : m5.length ≤ m4.length := act_shr _ _ _ h5
 have q6 : m6.length ≤ m5.length := end_shr _ _ _ h6
 obtain ⟨e1, e2⟩ := rules_ok _ _ _ _ _ (show m6.length ≤ 900000 by omega) (fun r hr => by cases hr) h7
 obtain ⟨rfl, rfl⟩ := Prod.mk.inj (Except.ok.inj h)
 have e1' : rs.length ≤ 0 + m6.length := e1
 exact ⟨by show rs.length ≤ 1000000; omega, e2⟩
theorem eqR_le {n m : Nat} (h : n ≤ m) {x y : S81} (e : eqR n x y = true) : eqR m x y = true := by
 induction h with
 | refl => exact e
 | step _ ih => exact eqR_mono _ _ _ ih
theorem okR_all : ∀ l : List S81, (∀ c ∈ l, okR c) → ∃ n, ∀ c ∈ l, eqR n c c = true
 | [], _ => ⟨0, fun c h => by cases h⟩
 | a :: r, h => by
  obtain ⟨n, hn⟩ := h a List.mem_cons_self
  obtain ⟨m, hm⟩ := okR_all r fun c hc => h c (List.mem_cons_of_mem _ hc)
  refine ⟨max n m, fun c hc => ?_⟩
  rcases List.mem_cons.1 hc with q | q
  ·subst q; exact eqR_le (Nat.le_max_left _ _) hn
  ·exact eqR_le (Nat.le_max_right _ _) (hm c q)
theorem like_ev (a b : ByteArray) (d : Int) (l : List S81) (h1 : l.length ≤ 1000000) (h2 : ∀ r ∈ l, okR r) : Ev (fun k => doorwardref15_Like.f k a b d l a b d l) true := by
 obtain ⟨n, hn⟩ := okR_all l h2
 refine ⟨n, fun k hk => ?_⟩
 show doorwardref15_Like.f k a b d l a b d l = some true
 unfold doorwardref15_Like.f
 rw [if_pos]
 simp only [Bool.and_eq_true, decide_eq_true_eq, beq_self_eq_true, true_and]
 exact ⟨by simp [eqB], by simp [eqB], h1, eqAll_refl _ fun r hr => eqR_le hk (hn r hr)⟩
theorem lexS_len0 {s : ByteArray} (h : (lexS s).2.1 = 0) : (lexS s).1.length ≤ 900000 := by
 unfold lexS at h ⊢
 split at h
 ·cases h
 ·rename_i hs
  rw [if_neg hs]
  cases hg : lexG s s.size 0 with
  | error e => rw [hg] at h; cases h
  | ok l =>
   obtain ⟨h1, h2⟩ := lexG_lim s _ _ _ hg
   simp [lexR]; omega
/-- What is parsed of a source that is a policy. -/
theorem parse_ok {s : ByteArray} (h : (parseS s).2.2.2.2.1 = 0) : ∃ L p l, (lexS s).2.1 = 0 ∧ s.size ≤ 2000 ∧ LB s.data.toList 0 = .ok L ∧ lexS s = (L ++ [endK s.size], 0, 0) ∧ policyP (L ++ [endK s.size]) = .ok (p, l) ∧ parseS s = (p.f0, p.f1, p.f2, p.f3, 0, 0) ∧ p.f3.length ≤ 1000000 ∧ ∀ r ∈ p.f3, okR r := by
 by_cases h0 : (lexS s).2.1 = 0
 ·obtain ⟨hs, L, hL, hS⟩ := lexS_ok0 h0
  have hp : parseS s = parseR (policyP (L ++ [endK s.size])) := by unfold parseS; rw [hS, if_pos rfl]
  have hlen := lexS_len0 h0
  rw [hS] at hlen
  cases hr : policyP (L ++ [endK s.size]) with
  | ok x =>
   obtain ⟨p, l⟩ := x
   rw [hr] at hp
   obtain ⟨e1, e2⟩ := policy_ok hlen hr
   exact ⟨L, p, l, h0, hs, hL, hS, hr, hp, e1, e2⟩
  | error e =>
   obtain ⟨bad, at_⟩ := e
   have h61 := policy_bad hr
   rw [hp, hr] at h
   have hb' : bad = 0 := h
   rcases h61 with q | q <;> omega
 ·have hp : parseS s = parseR (.error ((lexS s).2.1, (lexS s).2.2)) := by unfold parseS; rw [if_neg h0]
  rw [hp] at h
  exact absurd h h0
/-! ### a source with a rule more -/
inductive Ext (E N : TK) (Y : List TK) : List TK → List TK → Prop
 | fin (hE : E.f0 = 0) (hN : N.f0 = 4) : Ext E N Y [E] (N :: Y)
 | one {a : TK} {r r' : List TK} (h0 : a.f0 ≠ 0) (h : Ext E N Y r r') : Ext E N Y (a :: r) (a :: r')
theorem Ext.k0 {E N : TK} {Y m m' : List TK} (d : Ext E N Y m m') (h : (hd m).f0 ≠ 0) : (hd m').f0 = (hd m).f0 := by
 cases d with
 | fin hE _ => exact absurd hE h
 | one _ _ => rfl
theorem Ext.k1 {E N : TK} {Y m m' : List TK} (d : Ext E N Y m m') (h : (hd m).f0 ≠ 0) : (hd m').f1 = (hd m).f1 ∧ Ext E N Y m.tail m'.tail := by
 cases d with
 | fin hE _ => exact absurd hE h
 | one _ dh => exact ⟨rfl, dh⟩
theorem Ext.k2 {E N : TK} {Y m m' : List TK} (d : Ext E N Y m m') : ((hd m').f0 = 2) = ((hd m).f0 = 2) := by
 cases d with
 | fin hE hN =>
  show (N.f0 = 2) = (E.f0 = 2)
  rw [hE, hN]; simp
 | one _ _ => rfl
theorem Ext.isP_eq {E N : TK} {Y m m' : List TK} (d : Ext E N Y m m') (k : Int) (hk : k ≠ 0 ∧ k ≠ 4) (x : ByteArray) : isP k x m' = isP k x m := by
 cases d with
 | fin hE hN =>
  unfold isP
  show (N.f0 == k && _) = (E.f0 == k && _)
  rw [hE, hN, show ((0 : Int) == k) = false by simpa using Ne.symm hk.1, show ((4 : Int) == k) = false by simpa using Ne.symm hk.2]
  rfl
 | one _ _ => rfl
theorem Ext.nil_of {E N : TK} {Y m' : List TK} (d : Ext E N Y [] m') : m' = [] := by cases d
theorem Ext.of_nil {E N : TK} {Y m : List TK} (d : Ext E N Y m []) : m = [] := by cases d
theorem Ext.tail_len {E N : TK} {Y m m' : List TK} (d : Ext E N Y m m') {k : Int} {x : ByteArray} (h : isP k x m = true) (hk : k ≠ 0) : m'.tail.length + 1 = m'.length ∧ m.tail.length + 1 = m.length := by
 cases d with
 | fin _ _ => exact ⟨rfl, rfl⟩
 | one _ _ => exact ⟨rfl, rfl⟩
theorem take_X {E N : TK} {Y : List TK} {k : Int} (hk : k ≠ 0) {xs : List ByteArray} {m m' l : List TK} {s : ByteArray} (d : Ext E N Y m m') (h : takeP k xs m = .ok (s, l)) : ∃ l', takeP k xs m' = .ok (s, l') ∧ Ext E N Y l l' := by
 unfold takeP at h ⊢
 split at h
 ·rename_i hc
  obtain ⟨rfl, rfl⟩ := Prod.mk.inj (Except.ok.inj h)
  have h0 : (hd m).f0 = k := by rw [Bool.and_eq_true, beq_iff_eq] at hc; exact hc.1
  obtain ⟨e1, e2⟩ := d.k1 (by rw [h0]; exact hk)
  rw [d.k0 (by rw [h0]; exact hk), e1, if_pos hc]
  exact ⟨_, rfl, e2⟩
 ·cases h
theorem word_X {E N : TK} {Y : List TK} {m m' l : List TK} {s : ByteArray} (d : Ext E N Y m m') (h : wordP m = .ok (s, l)) : ∃ l', wordP m' = .ok (s, l') ∧ Ext E N Y l l' := by
 unfold wordP at h ⊢
 split at h
 ·cases h
 ·rename_i hr
  have h0 : (hd m).f0 = 1 := by
   obtain ⟨_, _, h2, _⟩ := takeP_ok h
   exact h2
  rw [(d.k1 (by rw [h0]; decide)).1, if_neg hr]
  exact take_X (by decide) d h
theorem num_X {E N : TK} {Y : List TK} {m m' l : List TK} {s : Int} (d : Ext E N Y m m') (h : numP m = .ok (s, l)) : ∃ l', numP m' = .ok (s, l') ∧ Ext E N Y l l' := by
 obtain ⟨⟨a, m1⟩, h1, h2⟩ := bnd_inv h
 obtain ⟨m1', e1, d1⟩ := take_X (by decide) d h1
 obtain ⟨rfl, rfl⟩ := Prod.mk.inj (Except.ok.inj h2)
 exact ⟨m1', by unfold numP; rw [e1]; rfl, d1⟩
theorem mask_X {E N : TK} {Y : List TK} {m m' l : List TK} {s : Int} (d : Ext E N Y m m') (h : maskP m = .ok (s, l)) : ∃ l', maskP m' = .ok (s, l') ∧ Ext E N Y l l' := by
 unfold maskP at h ⊢
 rw [d.isP_eq 3 ⟨by decide, by decide⟩]
 split at h
 ·rename_i hc
  obtain ⟨⟨a, m1⟩, h1, h2⟩ := bnd_inv h
  obtain ⟨m1', e1, d1⟩ := take_X (by decide) d h1
  rw [if_pos hc, e1, bnd_ok]
  exact num_X d1 h2
 ·rename_i hc
  obtain ⟨rfl, rfl⟩ := Prod.mk.inj (Except.ok.inj h)
  rw [if_neg hc]
  exact ⟨m', rfl, d⟩
theorem test_X {E N : TK} {Y : List TK} {m m' l : List TK} {x : S47} (d : Ext E N Y m m') (h : testP m = .ok (x, l)) : ∃ l', testP m' = .ok (x, l') ∧ Ext E N Y l l' := by
 obtain ⟨⟨a, m1⟩, h1, h⟩ := bnd_inv h
 obtain ⟨m1', e1, d1⟩ := take_X (by decide) d h1
 obtain ⟨⟨b, m2⟩, h2, h⟩ := bnd_inv h
 obtain ⟨m2', e2, d2⟩ := mask_X d1 h2
 obtain ⟨⟨c, m3⟩, h3, h⟩ := bnd_inv h
 obtain ⟨m3', e3, d3⟩ := take_X (by decide) d2 h3
 obtain ⟨⟨v, m4⟩, h4, h⟩ := bnd_inv h
 obtain ⟨m4', e4, d4⟩ := num_X d3 h4
 obtain ⟨rfl, rfl⟩ := Prod.mk.inj (Except.ok.inj h)
 refine ⟨m4', ?_, d4⟩
 unfold testP
 rw [e1, bnd_ok, e2, bnd_ok, e3, bnd_ok, e4, bnd_ok]
def XS (E N : TK) (Y : List TK) (n1 n2 : Nat) (p1 p2 : List TK → Except (Int × Int) (S47 × List TK)) : Prop := ∀ m m' x l, m.length ≤ n1 → m'.length ≤ n2 → Ext E N Y m m' → p1 m = .ok (x, l) → ∃ l', p2 m' = .ok (x, l') ∧ Ext E N Y l l'
theorem more_X {E N : TK} {Y : List TK} {L1 L2 : Nat} {p1 p2 : List TK → Except (Int × Int) (S47 × List TK)} (hp : XS E N Y L1 L2 p1 p2) (s1 : Shr p1) (s2 : Shr p2) (wd : ByteArray) : ∀ n1 n2 acc m m' y l, m.length ≤ n1 → m'.length ≤ n2 → m.length ≤ L1 + 1 → m'.length ≤ L2 + 1 → Ext E N Y m m' → moreP p1 wd n1 acc m = .ok (y, l) → ∃ l', moreP p2 wd n2 acc m' = .ok (y, l') ∧ Ext E N Y l l' := by
 intro n1
 induction n1 with
 | zero =>
  intro n2 acc m m' y l h1 h2 _ _ d h
  obtain rfl : m = [] := List.length_eq_zero_iff.1 (by omega)
  obtain rfl := d.nil_of
  cases h
  refine ⟨[], ?_, d⟩
  cases n2 with
  | zero => rfl
  | succ n2 => rw [moreP, if_neg]; unfold isP; simp [hd, z34]
 | succ n1 ih =>
  intro n2 acc m m' y l h1 h2 g1 g2 d h
  rw [moreP] at h
  cases n2 with
  | zero =>
   obtain rfl : m' = [] := List.length_eq_zero_iff.1 (by omega)
   obtain rfl := d.of_nil
   rw [if_neg (by unfold isP; simp [hd, z34])] at h
   cases h
   exact ⟨[], rfl, d⟩
  | succ n2 =>
   rw [moreP, d.isP_eq 1 ⟨by decide, by decide⟩]
   split at h
   ·rename_i hc
    rw [if_pos hc]
    obtain ⟨t1, t2⟩ := d.tail_len hc (by decide)
    have h0 := isP_ne hc
    obtain ⟨⟨c, m1⟩, h3, h⟩ := bnd_inv h
    obtain ⟨m1', e1, d1⟩ := hp _ _ _ _ (by omega) (by omega) (d.k1 (by rw [h0]; decide)).2 h3
    rw [e1, bnd_ok]
    have q1 := s1 _ _ _ h3
    have q2 := s2 _ _ _ e1
    exact ih n2 _ m1 m1' y l (by omega) (by omega) (by omega) (by omega) d1 h
   ·rename_i hc
    rw [if_neg hc]
    obtain ⟨rfl, rfl⟩ := Prod.mk.inj (Except.ok.inj h)
    exact ⟨m', rfl, d⟩
theorem list_X {E N : TK} {Y : List TK} {L1 L2 : Nat} {p1 p2 : List TK → Except (Int × Int) (S47 × List TK)} (hp : XS E N Y L1 L2 p1 p2) (s1 : Shr p1) (s2 : Shr p2) (wd : ByteArray) (kind : Int) : XS E N Y L1 L2 (listP p1 wd kind) (listP p2 wd kind) := by
 intro m m' x l h1 h2 d h
 obtain ⟨⟨c, m1⟩, h3, h⟩ := bnd_inv h
 obtain ⟨m1', e1, d1⟩ := hp _ _ _ _ h1 h2 d h3
 obtain ⟨⟨y, m2⟩, h4, h⟩ := bnd_inv h
 have q1 := s1 _ _ _ h3
 have q2 := s2 _ _ _ e1
 obtain ⟨m2', e2, d2⟩ := more_X hp s1 s2 wd _ m'.length _ _ m1' _ _ q1 q2 (by show m1.length ≤ _; omega) (by omega) d1 h4
 obtain ⟨rfl, rfl⟩ := Prod.mk.inj (Except.ok.inj h)
 refine ⟨m2', ?_, d2⟩
 unfold listP
 rw [e1, bnd_ok, e2, bnd_ok]
 rfl
theorem cond_X {E N : TK} {Y : List TK} {L1 L2 : Nat} {p1 p2 : List TK → Except (Int × Int) (S47 × List TK)} (hp : XS E N Y L1 L2 p1 p2) (s1 : Shr p1) (s2 : Shr p2) : XS E N Y L1 L2 (condP p1) (condP p2) :=
 list_X (list_X hp s1 s2 andT 1) (list_shr s1 andT 1) (list_shr s2 andT 1) orT 2
theorem factor_X {E N : TK} {Y : List TK} : ∀ n1 n2 deep, XS E N Y n1 n2 (factorP n1 deep) (factorP n2 deep) := by
 intro n1
 induction n1 with
 | zero => intro n2 deep m m' x l _ _ _ h; cases h
 | succ n1 ih =>
  intro n2 deep m m' x l h1 h2 d h
  rw [factorP] at h
  cases n2 with
  | zero =>
   obtain rfl : m' = [] := List.length_eq_zero_iff.1 (by omega)
   obtain rfl := d.of_nil
   split at h
   ·cases h
   rw [if_neg (by unfold isP; simp [hd, z34]), if_neg (by unfold isP; simp [hd, z34])] at h
   obtain ⟨⟨a, m1⟩, h3, h⟩ := bnd_inv h
   obtain ⟨_, _, q, _⟩ := takeP_ok h3
   exact absurd q (by simp [hd, z34])
  | succ n2 =>
   rw [factorP, d.isP_eq 1 ⟨by decide, by decide⟩, d.isP_eq 3 ⟨by decide, by decide⟩]
   split at h
   ·cases h
   rename_i hd8
   rw [if_neg hd8]
   split at h
   ·rename_i hc
    rw [if_pos hc]
    obtain ⟨t1, t2⟩ := d.tail_len hc (by decide)
    have h0 := isP_ne hc
    obtain ⟨⟨c, m1⟩, h3, h⟩ := bnd_inv h
    obtain ⟨m1', e1, d1⟩ := ih n2 (deep + 1) _ _ _ _ (by omega) (by omega) (d.k1 (by rw [h0]; decide)).2 h3
    obtain ⟨rfl, rfl⟩ := Prod.mk.inj (Except.ok.inj h)
    rw [e1, bnd_ok]
    exact ⟨m1', rfl, d1⟩
   rename_i hc1
   rw [if_neg hc1]
   split at h
   ·rename_i hc
    rw [if_pos hc]
    obtain ⟨t1, t2⟩ := d.tail_len hc (by decide)
    have h0 := isT_k (k := 3) (x := opT) (t := hd m) hc
    obtain ⟨⟨c, m1⟩, h3, h⟩ := bnd_inv h
    obtain ⟨m1', e1, d1⟩ := cond_X (ih n2 (deep + 1)) (factor_shr _ _) (factor_shr _ _) _ _ _ _ (by omega) (by omega) (d.k1 (by rw [h0]; decide)).2 h3
    obtain ⟨⟨s, m2⟩, h4, h⟩ := bnd_inv h
    obtain ⟨m2', e2, d2⟩ := take_X (by decide) d1 h4
    obtain ⟨rfl, rfl⟩ := Prod.mk.inj (Except.ok.inj h)
    rw [e1, bnd_ok, e2, bnd_ok]
    exact ⟨m2', rfl, d2⟩
   ·rename_i hc2
    rw [if_neg hc2]
    exact test_X d h
theorem act_X {E N : TK} {Y : List TK} {m m' l : List TK} {x : ByteArray × Int} (d : Ext E N Y m m') (h : actP m = .ok (x, l)) : ∃ l', actP m' = .ok (x, l') ∧ Ext E N Y l l' := by
 obtain ⟨⟨a, m1⟩, h1, h⟩ := bnd_inv h
 obtain ⟨m1', e1, d1⟩ := word_X d h1
 unfold actP
 rw [e1, bnd_ok]
 show ∃ l', (if (hd m1').f0 = 2 then bnd (numP m1') fun y => .ok ((a, y.1), y.2) else .ok ((a, 0), m1')) = _ ∧ _
 simp only [d1.k2]
 replace h : (if (hd m1).f0 = 2 then bnd (numP m1) fun y => .ok ((a, y.1), y.2) else .ok ((a, 0), m1)) = .ok (x, l) := h
 split at h
 ·rename_i hc
  rw [if_pos hc]
  obtain ⟨⟨v, m2⟩, h2, h⟩ := bnd_inv h
  obtain ⟨m2', e2, d2⟩ := num_X d1 h2
  obtain ⟨rfl, rfl⟩ := Prod.mk.inj (Except.ok.inj h)
  rw [e2, bnd_ok]
  exact ⟨m2', rfl, d2⟩
 ·rename_i hc
  rw [if_neg hc]
  obtain ⟨rfl, rfl⟩ := Prod.mk.inj (Except.ok.inj h)
  exact ⟨m1', rfl, d1⟩
theorem names_X {E N : TK} {Y : List TK} : ∀ n1 n2 acc m m' y l, m.length ≤ n1 → m'.length ≤ n2 → Ext E N Y m m' → namesP n1 acc m = .ok (y, l) → ∃ l', namesP n2 acc m' = .ok (y, l') ∧ Ext E N Y l l' := by
 have e0 : (isP 1 emptyT ([] : List TK) && !resS (hd ([] : List TK)).f1) = false := by unfold isP; simp [hd, z34]
 intro n1
 induction n1 with
 | zero =>
  intro n2 acc m m' y l h1 h2 d h
  obtain rfl : m = [] := List.length_eq_zero_iff.1 (by omega)
  obtain rfl := d.nil_of
  cases h
  refine ⟨[], ?_, d⟩
  cases n2 with
  | zero => rfl
  | succ n2 => rw [namesP, if_neg (by rw [e0]; decide)]
 | succ n1 ih =>
  intro n2 acc m m' y l h1 h2 d h
  rw [namesP] at h
  cases n2 with
  | zero =>
   obtain rfl : m' = [] := List.length_eq_zero_iff.1 (by omega)
   obtain rfl := d.of_nil
   rw [if_neg (by rw [e0]; decide)] at h
   cases h
   exact ⟨[], rfl, d⟩
  | succ n2 =>
   have hq : (isP 1 emptyT m' && !resS (hd m').f1) = (isP 1 emptyT m && !resS (hd m).f1) := by
    rw [d.isP_eq 1 ⟨by decide, by decide⟩]
    cases hc : isP 1 emptyT m with
    | false => rfl
    | true =>
     have h0 := isP_ne hc
     rw [(d.k1 (by rw [h0]; decide)).1]
   rw [namesP, hq]
   split at h
   ·rename_i hc
    rw [if_pos hc]
    obtain ⟨⟨c, m1⟩, h3, h⟩ := bnd_inv h
    obtain ⟨m1', e1, d1⟩ := word_X d h3
    rw [e1, bnd_ok]
    have hne : m ≠ [] := by intro e; rw [e, e0] at hc; cases hc
    have hne' : m' ≠ [] := by intro e; rw [e] at d; exact hne d.of_nil
    have q1 := word_len hne h3
    have q2 := word_len hne' e1
    exact ih n2 _ m1 m1' y l (by omega) (by omega) d1 h
   ·rename_i hc
    rw [if_neg hc]
    obtain ⟨rfl, rfl⟩ := Prod.mk.inj (Except.ok.inj h)
    exact ⟨m', rfl, d⟩
theorem rule_X {E N : TK} {Y : List TK} {m m' l : List TK} {x : S81} (d : Ext E N Y m m') (h : ruleP m = .ok (x, l)) : ∃ l', ruleP m' = .ok (x, l') ∧ Ext E N Y l l' := by
 obtain ⟨⟨a, m1⟩, h1, h⟩ := bnd_inv h
 obtain ⟨m1', e1, d1⟩ := act_X d h1
 obtain ⟨⟨nm, m2⟩, h2, h⟩ := bnd_inv h
 obtain ⟨m2', e2, d2⟩ := word_X d1 h2
 obtain ⟨⟨ns, m3⟩, h3, h⟩ := bnd_inv h
 obtain ⟨m3', e3, d3⟩ := names_X _ m2'.length _ _ _ _ _ (Nat.le_refl _) (Nat.le_refl _) d2 h3
 unfold ruleP
 rw [e1, bnd_ok, e2, bnd_ok, e3, bnd_ok]
 show ∃ l', (if isP 1 ifT m3' = true then bnd (condP (factorP m3'.length 0) m3'.tail) fun c => .ok ((⟨a.1, a.2, ns, c.1⟩ : S81), c.2) else .ok ((⟨a.1, a.2, ns, z47⟩ : S81), m3')) = _ ∧ _
 rw [d3.isP_eq 1 ⟨by decide, by decide⟩]
 replace h : (if isP 1 ifT m3 = true then bnd (condP (factorP m3.length 0) m3.tail) fun c => .ok ((⟨a.1, a.2, ns, c.1⟩ : S81), c.2) else .ok ((⟨a.1, a.2, ns, z47⟩ : S81), m3)) = .ok (x, l) := h
 split at h
 ·rename_i hc
  rw [if_pos hc]
  have h0 := isP_ne hc
  obtain ⟨⟨c, m4⟩, h4, h⟩ := bnd_inv h
  obtain ⟨m4', e4, d4⟩ := cond_X (factor_X m3.length m3'.length 0) (factor_shr _ _) (factor_shr _ _) _ _ _ _ (by simp) (by simp) (d3.k1 (by rw [h0]; decide)).2 h4
  obtain ⟨rfl, rfl⟩ := Prod.mk.inj (Except.ok.inj h)
  rw [e4, bnd_ok]
  exact ⟨m4', rfl, d4⟩
 ·rename_i hc
  rw [if_neg hc]
  obtain ⟨rfl, rfl⟩ := Prod.mk.inj (Except.ok.inj h)
  exact ⟨m3', rfl, d3⟩
theorem lines_X {E N : TK} {Y m m' : List TK} (d : Ext E N Y m m') : (∃ a r r', linesP m = a :: r ∧ linesP m' = a :: r' ∧ a.f0 ≠ 0 ∧ Ext E N Y r r') ∨ (linesP m = [E] ∧ linesP m' = linesP Y ∧ E.f0 = 0) := by
 induction d with
 | fin hE hN =>
  refine Or.inr ⟨?_, lines4 hN, hE⟩
  unfold linesP
  rw [if_neg (by rw [hE]; decide)]
 | @one a r r' h0 h ih =>
  by_cases h4 : a.f0 = 4
  ·rw [lines4 h4, lines4 h4]; exact ih
  ·refine Or.inl ⟨a, r, r', ?_, ?_, h0, h⟩
   ·unfold linesP; rw [if_neg h4]
   ·unfold linesP; rw [if_neg h4]
theorem endP_X {E N : TK} {Y m m' l : List TK} {x : Unit} (d : Ext E N Y m m') (h : endP m = .ok (x, l)) : ∃ l', endP m' = .ok (x, l') ∧ ((∃ a r r', l = a :: r ∧ l' = a :: r' ∧ a.f0 ≠ 0 ∧ Ext E N Y r r') ∨ (l = [E] ∧ l' = linesP Y ∧ E.f0 = 0)) := by
 cases d with
 | fin hE hN =>
  unfold endP at h ⊢
  rw [if_pos (show (hd [E]).f0 = 0 from hE)] at h
  obtain ⟨rfl, rfl⟩ := Prod.mk.inj (Except.ok.inj h)
  rw [if_neg (show ¬ (hd (N :: Y)).f0 = 0 by show ¬ N.f0 = 0; rw [hN]; decide)]
  have e4 : takeP 4 [] (N :: Y) = .ok (N.f1, Y) := take_any0 hN
  rw [e4, bnd_ok]
  refine ⟨_, rfl, Or.inr ⟨?_, rfl, hE⟩⟩
  unfold linesP
  rw [if_neg (by rw [hE]; decide)]
 | @one a r r' h0 dh =>
  unfold endP at h ⊢
  rw [if_neg (show ¬ (hd (a :: r)).f0 = 0 from h0)] at h
  rw [if_neg (show ¬ (hd (a :: r')).f0 = 0 from h0)]
  obtain ⟨⟨s, m1⟩, h1, h⟩ := bnd_inv h
  obtain ⟨rfl, rfl⟩ := Prod.mk.inj (Except.ok.inj h)
  obtain ⟨_, rfl, h4, _⟩ := takeP_ok h1
  have e4 : takeP 4 [] (a :: r') = .ok (a.f1, r') := take_any0 h4
  rw [e4, bnd_ok]
  exact ⟨_, rfl, lines_X dh⟩
theorem rules_acc (pre : List S81) : ∀ n acc m y l, rulesP n acc m = .ok (y, l) → rulesP n (pre ++ acc) m = .ok (pre ++ y, l)
 | 0, acc, m, y, l, h => by cases h; rfl
 | n + 1, acc, m, y, l, h => by
  rw [rulesP] at h ⊢
  split at h
  ·rename_i hc
   rw [if_pos hc]; cases h; rfl
  ·rename_i hc
   rw [if_neg hc]
   obtain ⟨⟨c, m1⟩, h1, h⟩ := bnd_inv h
   obtain ⟨⟨u, m2⟩, h2, h⟩ := bnd_inv h
   rw [h1, bnd_ok, h2, bnd_ok]
   have := rules_acc pre n _ _ _ _ h
   rw [← List.append_assoc] at this
   exact this
theorem rules_X {E N : TK} {Y : List TK} {qr : List S81} (hq : ∀ n, (linesP Y).length ≤ n → ∃ lq, rulesP n [] (linesP Y) = .ok (qr, lq)) : ∀ n1 n2 acc m m' y l, m.length ≤ n1 → m'.length ≤ n2 → ((∃ a r r', m = a :: r ∧ m' = a :: r' ∧ a.f0 ≠ 0 ∧ Ext E N Y r r') ∨ (m = [E] ∧ m' = linesP Y ∧ E.f0 = 0)) → rulesP n1 acc m = .ok (y, l) → ∃ l', rulesP n2 acc m' = .ok (y ++ qr, l') := by
 intro n1
 induction n1 with
 | zero =>
  intro n2 acc m m' y l h1 h2 hd_ h
  obtain rfl : m = [] := List.length_eq_zero_iff.1 (by omega)
  rcases hd_ with ⟨a, r, r', e, _⟩ | ⟨e, _⟩ <;> cases e
 | succ n1 ih =>
  intro n2 acc m m' y l h1 h2 hd_ h
  rw [rulesP] at h
  rcases hd_ with ⟨a, r, r', rfl, rfl, h0, d⟩ | ⟨rfl, rfl, hE⟩
  ·have hz : ∀ q : List TK, ¬ isP 0 emptyT (a :: q) = true := fun q => by
    show ¬ isP 0 ⟨#[]⟩ (a :: q) = true
    rw [isP_kind]
    simpa [hd] using h0
   rw [if_neg (hz r)] at h
   obtain ⟨⟨c, m1⟩, h3, h⟩ := bnd_inv h
   obtain ⟨m1', e1, d1⟩ := rule_X (.one h0 d) h3
   obtain ⟨⟨u, m2⟩, h4, h⟩ := bnd_inv h
   obtain ⟨m2', e2, d2⟩ := endP_X d1 h4
   have q1 := rule_lt (by simp) h3
   have q2 := rule_lt (by simp) e1
   have q3 : m2.length ≤ m1.length := end_shr _ _ _ h4
   have q4 : m2'.length ≤ m1'.length := end_shr _ _ _ e2
   cases n2 with
   | zero => simp at h2
   | succ n2 =>
    rw [rulesP, if_neg (hz r'), e1, bnd_ok, e2, bnd_ok]
    exact ih n2 _ m2 m2' y l (by omega) (by omega) d2 h
  ·have hz : isP 0 emptyT [E] = true := by
    show isP 0 ⟨#[]⟩ [E] = true
    rw [isP_kind]
    simpa [hd] using hE
   rw [if_pos hz] at h
   cases h
   obtain ⟨lq, hq'⟩ := hq n2 h2
   have := rules_acc acc _ _ _ _ _ hq'
   rw [List.append_nil] at this
   exact ⟨lq, this⟩
theorem policy_X {E N : TK} {Y m m' l : List TK} {x : S41} {qr : List S81} (hq : ∀ n, (linesP Y).length ≤ n → ∃ lq, rulesP n [] (linesP Y) = .ok (qr, lq)) (d : Ext E N Y m m') (h : policyP m = .ok (x, l)) : ∃ l', policyP m' = .ok (⟨x.f0, x.f1, x.f2, x.f3 ++ qr⟩, l') := by
 have noE : ∀ {k : Int} {xs : List ByteArray} {s : ByteArray} {q : List TK}, k ≠ 0 → E.f0 = 0 → takeP k xs [E] = .ok (s, q) → False := fun hk hE h => by
  obtain ⟨_, _, h2, _⟩ := takeP_ok h
  exact hk (h2.symm.trans hE)
 obtain ⟨⟨a0, m1⟩, h1, h⟩ := bnd_inv h
 rcases lines_X d with ⟨a, r, r', e0, e0', hz, dr⟩ | ⟨e0, _, hE⟩
 case' inr => rw [e0] at h1; exact (noE (by decide) hE h1).elim
 obtain ⟨m1', e1, d1⟩ := take_X (by decide) (by rw [e0, e0']; exact .one hz dr : Ext E N Y (linesP m) (linesP m')) h1
 obtain ⟨⟨ar, m2⟩, h2, h⟩ := bnd_inv h
 obtain ⟨m2', e2, d2⟩ := word_X d1 h2
 obtain ⟨⟨u1, m3⟩, h3, h⟩ := bnd_inv h
 obtain ⟨m3', e3, d3⟩ := endP_X d2 h3
 obtain ⟨⟨d0, m4⟩, h4, h⟩ := bnd_inv h
 have d3' : Ext E N Y m3 m3' := by
  rcases d3 with ⟨a, r, r', rfl, rfl, hz, dr⟩ | ⟨rfl, _, hE⟩
  ·exact .one hz dr
  ·exact (noE (by decide) hE h4).elim
 obtain ⟨m4', e4, d4⟩ := take_X (by decide) d3' h4
 obtain ⟨⟨da, m5⟩, h5, h⟩ := bnd_inv h
 obtain ⟨m5', e5, d5⟩ := act_X d4 h5
 obtain ⟨⟨u2, m6⟩, h6, h⟩ := bnd_inv h
 obtain ⟨m6', e6, d6⟩ := endP_X d5 h6
 obtain ⟨⟨rs, m7⟩, h7, h⟩ := bnd_inv h
 obtain ⟨m7', e7⟩ := rules_X hq _ m6'.length _ _ _ _ _ (Nat.le_refl _) (Nat.le_refl _) d6 h7
 obtain ⟨rfl, rfl⟩ := Prod.mk.inj (Except.ok.inj h)
 refine ⟨m7', ?_⟩
 unfold policyP
 rw [e1, bnd_ok, e2, bnd_ok, e3, bnd_ok, e4, bnd_ok, e5, bnd_ok, e6, bnd_ok, e7, bnd_ok]

end Go.Proofs.YtdfjjimmnbijmaaDoor.PP

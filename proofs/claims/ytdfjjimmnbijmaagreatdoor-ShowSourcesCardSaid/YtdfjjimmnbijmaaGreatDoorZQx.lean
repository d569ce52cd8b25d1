import Derived.Test.YtdfjjimmnbijmaaGreatDoorZQw
import Derived.Test.YtdfjjimmnbijmaaGreatDoorZQr
namespace Go.Proofs.YtdfjjimmnbijmaaGreatDoor.ZQ
open Go.RowKit Go.Proofs.YtdfjjimmnbijmaaGreatDoorW.PrintWords Go.Proofs.YtdfjjimmnbijmaaGreatDoorW.PrintLast Go.Proofs.YtdfjjimmnbijmaaGreatDoorW.PrintMore Go.Proofs.YtdfjjimmnbijmaaGreatDoor.Base
attribute [local go_sem] max2_int min2_int max_two min_two max_three min_three max_four min_four
set_option linter.unusedVariables false
set_option linter.unusedSimpArgs false
/-! ### what is parsed can be printed: rules, policies, sources -/
theorem act_good {l l' : List Tok} {x : ByteArray × Int} (hg : Gd l) (h : actP l = .ok (x, l')) : wordS x.1 = true ∧ 0 ≤ x.2 ∧ x.2 < 18446744073709551616 ∧ Gd l' ∧ ∃ k, wt l = k + wt l' ∧ (actS x.1 x.2).size ≤ 3 * k := by
  obtain ⟨⟨s, l1⟩, h1, h⟩ := bnd_inv h
  obtain ⟨w1, g1, e1, p1⟩ := word_good hg h1
  simp only at h
  split at h
  · obtain ⟨⟨v, l2⟩, h2, h⟩ := bnd_inv h
    replace h : (Except.ok ((s, v), l2) : Except (Int × Int) ((ByteArray × Int) × List Tok)) = .ok (x, l') := h
    obtain ⟨rfl, rfl⟩ := Prod.mk.inj (Except.ok.inj h)
    obtain ⟨m, m1, e2, g2, v0, v1, vs⟩ := num_good g1 h2
    refine ⟨w1, v0, v1, g2, s.size + m, by omega, ?_⟩
    unfold actS
    split
    · show s.size ≤ _; omega
    · have e3 : (⟨#[32]⟩ : ByteArray).size = 1 := rfl
      rw [joinT_two, joinT_one, sz_app, sz_app, e3]; show s.size + 1 + (numT v).size ≤ _; omega
  · replace h : (Except.ok ((s, (0 : Int)), l1) : Except (Int × Int) ((ByteArray × Int) × List Tok)) = .ok (x, l') := h
    obtain ⟨rfl, rfl⟩ := Prod.mk.inj (Except.ok.inj h)
    refine ⟨w1, (show (0 : Int) ≤ 0 by decide), (show (0 : Int) < 18446744073709551616 by decide), g1, s.size, e1, ?_⟩
    unfold actS
    rw [if_pos rfl]
    show s.size ≤ _; omega
theorem names_good : ∀ (n : Nat) (acc : List ByteArray) (m : List Tok) (y : List ByteArray) (l : List Tok), Gd m → (∀ s ∈ acc, wordS s = true ∧ 1 ≤ s.size) → namesP n acc m = .ok (y, l) → Gd l ∧ (∀ s ∈ y, wordS s = true ∧ 1 ≤ s.size) ∧ acc.length ≤ y.length ∧ wt m + sumZ acc = sumZ y + wt l
  | 0, acc, m, y, l, hg, ha, h => by cases h; exact ⟨hg, ha, Nat.le_refl _, by omega⟩
  | n + 1, acc, m, y, l, hg, ha, h => by
    rw [namesP] at h
    split at h
    · obtain ⟨⟨s, m1⟩, h1, h⟩ := bnd_inv h
      obtain ⟨w1, g1, e1, p1⟩ := word_good hg h1
      obtain ⟨g2, a2, l2, e2⟩ := names_good n (acc ++ [s]) m1 y l g1 (fun x hx => by
        rcases List.mem_append.1 hx with q | q
        · exact ha x q
        · rw [List.mem_singleton.1 q]; exact ⟨w1, p1⟩) h
      rw [List.length_append, List.length_singleton] at l2
      rw [sumZ_app, sumZ_cons, sumZ_nil] at e2
      exact ⟨g2, a2, by omega, by omega⟩
    · cases h; exact ⟨hg, ha, Nat.le_refl _, by omega⟩
theorem sum_len : ∀ l : List ByteArray, (∀ s ∈ l, 1 ≤ s.size) → l.length ≤ sumZ l
  | [], _ => Nat.zero_le _
  | s :: r, h => by
    have h1 := h s List.mem_cons_self
    have h2 := sum_len r fun x hx => h x (List.mem_cons_of_mem _ hx)
    rw [sumZ_cons, List.length_cons]; omega
structure RI (r : RN) (k : Nat) : Prop where
  rng : rngC r.f3 = true ∧ 0 ≤ r.f1 ∧ r.f1 < 18446744073709551616
  ok : k ≤ 300 → (ruleS r).2 = true
  siz : k ≤ 300 → (ruleS r).1.size + 1 ≤ 3 * k
  len : r.f2.length ≤ k ∧ nodesC r.f3 ≤ k + 1 ∧ 1 ≤ k
theorem ruleS_none {r : RN} (h1 : wordS r.f0 = true) (h2 : r.f2 ≠ []) (h3 : ∀ s ∈ r.f2, wordS s = true) (hn : noneS r.f3 = true) : ruleS r = (outS r, true) := by
  unfold ruleS
  rw [if_pos ⟨h1, fun e => h2 (List.length_eq_zero_iff.1 e), by rw [List.any_eq_false]; intro s hs; rw [h3 s hs]; decide⟩, if_pos hn]
theorem ruleS_cond {r : RN} (h1 : wordS r.f0 = true) (h2 : r.f2 ≠ []) (h3 : ∀ s ∈ r.f2, wordS s = true) (hf : fitsC r.f3 = true) (hn : nodesC r.f3 ≤ 100) (hd : depthC r.f3 ≤ 8) : ruleS r = (joinT ⟨#[32, 105, 102, 32]⟩ [outS r, writeC r.f3], true) := by
  have hnn : noneS r.f3 = false := by
    rw [fitsC_eq, Bool.and_eq_true] at hf
    unfold noneS
    rw [decide_eq_false (by rcases one_cases hf.1 with ⟨h, _⟩ | ⟨_, h, _⟩ | ⟨_, h, _⟩ <;> omega), Bool.false_and]
  unfold ruleS
  rw [if_pos ⟨h1, fun e => h2 (List.length_eq_zero_iff.1 e), by rw [List.any_eq_false]; intro s hs; rw [h3 s hs]; decide⟩, hnn, if_neg (by decide), if_pos ⟨by unfold rightS; rw [decide_eq_true hn, hf]; rfl, hd⟩]
theorem rule_good {m l : List Tok} {r : RN} (hg : Gd m) (h : ruleP m = .ok (r, l)) : Gd l ∧ ∃ k, wt m = k + wt l ∧ RI r k := by
  obtain ⟨⟨a, m1⟩, h1, h⟩ := bnd_inv h
  obtain ⟨⟨nm, m2⟩, h2, h⟩ := bnd_inv h
  obtain ⟨⟨ns, m3⟩, h3, h⟩ := bnd_inv h
  replace h2 : wordP m1 = .ok (nm, m2) := h2
  replace h3 : namesP m2.length [nm] m2 = .ok (ns, m3) := h3
  obtain ⟨w1, a0, a1, g1, k1, e1, s1⟩ := act_good hg h1
  obtain ⟨w2, g2, e2, p2⟩ := word_good g1 h2
  obtain ⟨g3, w3, l3, e3⟩ := names_good _ _ _ _ _ g2 (fun x hx => by rw [List.mem_singleton.1 hx]; exact ⟨w2, p2⟩) h3
  rw [sumZ_cons, sumZ_nil] at e3
  have hsum := sum_len ns fun s hs => (w3 s hs).2
  have hne : ns ≠ [] := by rintro rfl; simp at l3
  have hall : ∀ s ∈ ns, wordS s = true := fun s hs => (w3 s hs).1
  have hnl : 1 ≤ ns.length := List.length_pos_iff.2 hne
  have e5 : (⟨#[32]⟩ : ByteArray).size = 1 := rfl
  have hj : (joinT ⟨#[32]⟩ ns).size + 1 = ns.length + sumZ ns := by
    obtain ⟨x, q, rfl⟩ := List.exists_cons_of_ne_nil hne
    rw [joinT_size, e5, List.length_cons]; omega
  have hout : ∀ c : CN, (outS (⟨a.1, a.2, ns, c⟩ : RN)).size = (actS a.1 a.2).size + 1 + (joinT ⟨#[32]⟩ ns).size := fun c => by
    unfold outS
    rw [joinT_two, joinT_one, sz_app, sz_app, e5]
  replace h : (if isP 1 ifT m3 = true then bnd (condP (factorP m3.length 0) m3.tail) fun c => .ok ((⟨a.1, a.2, ns, c.1⟩ : RN), c.2) else .ok ((⟨a.1, a.2, ns, z28⟩ : RN), m3)) = .ok (r, l) := h
  split at h
  · rename_i hp
    obtain ⟨q1, q2⟩ := isP_good (by decide) (by rw [Lib.toList_data]; rfl) hp
    obtain ⟨⟨c, m4⟩, h4, h⟩ := bnd_inv h
    replace h : (Except.ok ((⟨a.1, a.2, ns, c⟩ : RN), m4) : Except (Int × Int) (RN × List Tok)) = .ok (r, l) := h
    obtain ⟨rfl, rfl⟩ := Prod.mk.inj (Except.ok.inj h)
    obtain ⟨g4, k4, e4, o1, o2, o3, o4, o5⟩ := cond_good (factor_good m3.length 0) _ _ _ (q2 g3) h4
    have e6 : ifT.size = 2 := rfl
    rw [e6] at q1
    have hr := fun hk : k1 + sumZ ns + 2 + k4 ≤ 300 => ruleS_cond (r := (⟨a.1, a.2, ns, c⟩ : RN)) w1 hne hall o1 (by show nodesC c ≤ 100; omega) (by show depthC c ≤ 8; omega)
    refine ⟨g4, k1 + sumZ ns + 2 + k4, by omega, ⟨o2, a0, a1⟩, fun hk => by rw [hr hk], fun hk => ?_, by show ns.length ≤ _; omega, by show nodesC c ≤ _; omega, by omega⟩
    have e7 : (⟨#[32, 105, 102, 32]⟩ : ByteArray).size = 4 := rfl
    rw [hr hk, joinT_two, joinT_one]
    show (outS (⟨a.1, a.2, ns, c⟩ : RN) ++ ⟨#[32, 105, 102, 32]⟩ ++ writeC c).size + 1 ≤ _
    rw [sz_app, sz_app, e7, hout]; omega
  · obtain ⟨rfl, rfl⟩ := Prod.mk.inj (Except.ok.inj h)
    have hr := ruleS_none (r := (⟨a.1, a.2, ns, z28⟩ : RN)) w1 hne hall (by show noneS z28 = true; unfold noneS; rw [show bareS z28 = true from bare_of 0 []]; rfl)
    have hz : rngC z28 = true := by
      rw [rngC_iff]
      exact ⟨by unfold rngB; decide, by show rngL [] = true; rw [rngL]⟩
    have hzn : nodesC z28 = 1 := by rw [nodesC_eq]; show 1 + nodesL [] = 1; rw [nodesL]
    refine ⟨g3, k1 + sumZ ns, by omega, ⟨hz, a0, a1⟩, fun _ => by rw [hr], fun _ => ?_, by show ns.length ≤ _; omega, by show nodesC z28 ≤ _; omega, by omega⟩
    rw [hr]
    show (outS (⟨a.1, a.2, ns, z28⟩ : RN)).size + 1 ≤ _
    rw [hout]; omega
theorem lines_good : ∀ l : List Tok, (Gd l → Gd (linesP l)) ∧ wt (linesP l) ≤ wt l
  | [] => ⟨fun h => h, Nat.le_refl _⟩
  | t :: r => by
    unfold linesP
    split
    · obtain ⟨h1, h2⟩ := lines_good r
      exact ⟨fun h => h1 h.tail, by rw [wt]; omega⟩
    · exact ⟨fun h => h, Nat.le_refl _⟩
theorem end_good {l l' : List Tok} {u : Unit} (hg : Gd l) (h : endP l = .ok (u, l')) : Gd l' ∧ wt l' ≤ wt l := by
  unfold endP at h
  split at h
  · obtain ⟨_, rfl⟩ := Prod.mk.inj (Except.ok.inj h)
    exact ⟨(lines_good l).1 hg, (lines_good l).2⟩
  · obtain ⟨⟨x, l1⟩, h1, h2⟩ := bnd_inv h
    clear h
    replace h2 : (Except.ok ((), linesP l1) : Except (Int × Int) (Unit × List Tok)) = .ok (u, l') := h2
    obtain ⟨_, rfl⟩ := Prod.mk.inj (Except.ok.inj h2)
    obtain ⟨t, rfl, _, _, _⟩ := take_inv (by decide) h1
    have := (lines_good l1).2
    exact ⟨(lines_good l1).1 hg.tail, by rw [wt]; show wt (linesP l1) ≤ _; omega⟩
theorem rules_good : ∀ (n : Nat) (acc : List RN) (m : List Tok) (y : List RN) (l : List Tok), Gd m → rulesP n acc m = .ok (y, l) → ∃ z, y = acc ++ z ∧ (∀ r ∈ z, ∃ k, k ≤ wt m ∧ RI r k) ∧ z.length ≤ wt m ∧ (wt m ≤ 300 → sumZ (z.map fun r => (ruleS r).1) + z.length ≤ 3 * wt m)
  | 0, acc, m, y, l, hg, h => by cases h; exact ⟨[], by simp, fun r hr => (by cases hr), by simp, by simp [sumZ_nil]⟩
  | n + 1, acc, m, y, l, hg, h => by
    rw [rulesP] at h
    split at h
    · cases h; exact ⟨[], by simp, fun r hr => (by cases hr), by simp, by simp [sumZ_nil]⟩
    · obtain ⟨⟨c, m1⟩, h1, h⟩ := bnd_inv h
      obtain ⟨⟨u, m2⟩, h2, h⟩ := bnd_inv h
      obtain ⟨g1, k, e1, ri⟩ := rule_good hg h1
      obtain ⟨g2, e2⟩ := end_good g1 h2
      obtain ⟨z, rfl, a1, a3, a2⟩ := rules_good n (acc ++ [c]) m2 y l g2 h
      have hp := ri.len.2.2
      refine ⟨c :: z, by simp, fun r hr => ?_, by rw [List.length_cons]; omega, fun hw => ?_⟩
      · rcases List.mem_cons.1 hr with q | q
        · exact ⟨k, by omega, q ▸ ri⟩
        · obtain ⟨k', q1, q2⟩ := a1 r q
          exact ⟨k', by omega, q2⟩
      · have hs := ri.siz (by omega)
        have a4 := a2 (by omega)
        rw [List.map_cons, sumZ_cons, List.length_cons]; omega
theorem policy_good {m l : List Tok} {x : S25} (hg : Gd m) (h : policyP m = .ok (x, l)) : 0 ≤ x.f2 ∧ x.f2 < 18446744073709551616 ∧ (∀ r ∈ x.f3, ∃ k, k ≤ wt m ∧ RI r k) ∧ x.f3.length ≤ wt m ∧ (wt m ≤ 300 → (sourceS x.f0 x.f1 x.f2 x.f3).2 = true) := by
  obtain ⟨⟨a0, m1⟩, h1, h⟩ := bnd_inv h
  obtain ⟨⟨ar, m2⟩, h2, h⟩ := bnd_inv h
  obtain ⟨⟨u1, m3⟩, h3, h⟩ := bnd_inv h
  obtain ⟨⟨d0, m4⟩, h4, h⟩ := bnd_inv h
  obtain ⟨⟨da, m5⟩, h5, h⟩ := bnd_inv h
  obtain ⟨⟨u2, m6⟩, h6, h⟩ := bnd_inv h
  obtain ⟨⟨rs, m7⟩, h7, h⟩ := bnd_inv h
  replace h2 : wordP m1 = .ok (ar, m2) := h2
  replace h3 : endP m2 = .ok (u1, m3) := h3
  replace h4 : takeP 1 [defT] m3 = .ok (d0, m4) := h4
  replace h5 : actP m4 = .ok (da, m5) := h5
  replace h6 : endP m5 = .ok (u2, m6) := h6
  replace h7 : rulesP m6.length [] m6 = .ok (rs, m7) := h7
  replace h : (Except.ok ((⟨ar, da.1, da.2, rs⟩ : S25), m7) : Except (Int × Int) (S25 × List Tok)) = .ok (x, l) := h
  obtain ⟨rfl, rfl⟩ := Prod.mk.inj (Except.ok.inj h)
  have g0 := (lines_good m).1 hg
  have w0 := (lines_good m).2
  obtain ⟨t1, q1, k1, x1, y1⟩ := take_inv (by decide) h1
  have hs1 : t1.f1.size = 4 := by
    have : Lib.containsS [archT] a0 = true := y1
    rw [Lib.containsS_iff] at this
    obtain rfl : a0 = archT := by simpa using this
    rw [x1]; rfl
  rw [q1] at g0 w0
  rw [wt, hs1] at w0
  obtain ⟨w2, g2, e2, p2⟩ := word_good g0.tail h2
  obtain ⟨g3, e3⟩ := end_good g2 h3
  obtain ⟨t4, q4, k4, x4, y4⟩ := take_inv (by decide) h4
  have hs4 : t4.f1.size = 7 := by
    have : Lib.containsS [defT] d0 = true := y4
    rw [Lib.containsS_iff] at this
    obtain rfl : d0 = defT := by simpa using this
    rw [x4]; rfl
  rw [q4] at g3 e3
  rw [wt, hs4] at e3
  obtain ⟨w5, v0, v1, g5, k5, e5, s5⟩ := act_good g3.tail h5
  obtain ⟨g6, e6⟩ := end_good g5 h6
  obtain ⟨z, hz, a1, a3, a2⟩ := rules_good _ _ _ _ _ g6 h7
  rw [List.nil_append] at hz
  subst hz
  refine ⟨v0, v1, fun r hr => by obtain ⟨k, q1, q2⟩ := a1 r hr; exact ⟨k, by omega, q2⟩, by show rs.length ≤ _; omega, fun hw => ?_⟩
  have a2 := a2 (by omega)
  have hlen : rs.length ≤ 900 := by omega
  have hT : (T10 ([headA ar, headD da.1 da.2] ++ rs.map fun r => (ruleS r).1)).size ≤ 2000 := by
    have e1 : (⟨#[32]⟩ : ByteArray).size = 1 := rfl
    have e4 : (⟨#[97, 114, 99, 104]⟩ : ByteArray).size = 4 := rfl
    have e7 : (⟨#[100, 101, 102, 97, 117, 108, 116]⟩ : ByteArray).size = 7 := rfl
    have e10 : (⟨#[10]⟩ : ByteArray).size = 1 := rfl
    have hA : (headA ar).size = 5 + ar.size := by unfold headA; rw [joinT_two, joinT_one, sz_app, sz_app, e1, e4]
    have hD : (headD da.1 da.2).size = 8 + (actS da.1 da.2).size := by unfold headD; rw [joinT_two, joinT_one, sz_app, sz_app, e1, e7]
    unfold T10
    rw [List.cons_append, sz_app, joinT_size, e10, sumZ_cons, List.cons_append, List.nil_append, sumZ_cons, List.length_cons, List.length_map, hA, hD]
    omega
  have hok : ∀ r ∈ rs, (ruleS r).2 = true := fun r hr => by obtain ⟨k, hk, ri⟩ := a1 r hr; exact ri.ok (by omega)
  show (sourceS ar da.1 da.2 rs).2 = true
  rw [source_of ⟨w2, w5⟩ (by omega) hok (fun _ => by omega) hT]
/-! #### the lexer's tokens are good -/
theorem runB_take (p : Int → Bool) : ∀ l : List UInt8, runB p (l.take (runB p l)) = runB p l
  | [] => rfl
  | c :: r => by
    by_cases h : p c.toNat = true
    · rw [runB_cons, if_pos h, List.take_succ_cons, runB_cons, if_pos h, runB_take p r]
    · rw [runB_cons, if_neg h]; rfl
theorem step_word {l : List UInt8} {n : Nat} (h : stepB l = some (n, some 1)) : stepB (l.take n) = some (n, some 1) := by
  cases l with
  | nil => cases h
  | cons c r =>
    rw [stepB_cons] at h
    split at h
    · injection h with h; injection h with _ h2; cases h2
    rename_i h1
    split at h
    · injection h with h; injection h with _ h2; cases h2
    rename_i h2
    split at h
    · injection h with h; injection h with _ h2; injection h2 with h2; exact absurd h2 (by decide)
    rename_i h3
    split at h
    · rename_i h4
      injection h with h
      injection h with hn _
      have hn1 : n = runB eitS r + 1 := by
        rw [← hn, runB_cons, if_pos (by unfold eitS; rw [h4]; rfl)]
      have ht : (c :: r).take n = c :: r.take (runB eitS r) := by rw [hn1, List.take_succ_cons]
      rw [ht, stepB_cons, if_neg h1, if_neg h2, if_neg h3, if_pos h4, ← ht, ← hn, runB_take]
    · split at h
      · split at h
        · injection h with h; injection h with _ h2; injection h2 with h2; exact absurd h2 (by decide)
        · cases h
      · split at h
        · cases h
        · injection h with h; injection h with _ h2; injection h2 with h2; exact absurd h2 (by decide)
theorem LB_good : ∀ (m : Nat) (l : List UInt8) (o : Nat) (ts : List Tok), l.length ≤ m → l.length ≤ 2000 → LB l o = .ok ts → Gd ts ∧ wt ts ≤ l.length := by
  intro m
  induction m with
  | zero =>
    intro l o ts h _ he
    obtain rfl : l = [] := List.length_eq_zero_iff.1 (by omega)
    cases he
    exact ⟨fun t ht => (by cases ht), Nat.le_refl _⟩
  | succ m ih =>
    intro l o ts h h2 he
    by_cases hl : l = []
    · subst hl; cases he; exact ⟨fun t ht => (by cases ht), Nat.le_refl _⟩
    · rw [LB_step l o hl] at he
      cases hs : stepB l with
      | none => rw [hs] at he; cases he
      | some x =>
        obtain ⟨n, ko⟩ := x
        have hp := stepB_pos hs
        have hdl : (l.drop n).length = l.length - n := List.length_drop ..
        rw [hs] at he
        cases ko with
        | none =>
          obtain ⟨g1, w1⟩ := ih (l.drop n) (o + n) ts (by omega) (by omega) he
          exact ⟨g1, by omega⟩
        | some k =>
          simp only at he
          cases hr : LB (l.drop n) (o + n) with
          | error e => rw [hr] at he; cases he
          | ok q =>
            rw [hr] at he
            cases he
            obtain ⟨g1, w1⟩ := ih (l.drop n) (o + n) q (by omega) (by omega) hr
            have hsz : (mkB (l.take n)).size = n := by rw [mkB_size, List.length_take]; omega
            refine ⟨fun t ht => ?_, ?_⟩
            · rcases List.mem_cons.1 ht with e | e
              · subst e
                refine ⟨fun _ => by show 1 ≤ (mkB (l.take n)).size; omega, fun hk => ?_⟩
                have hk : k = 1 := hk
                subst hk
                refine ⟨?_, by show (mkB (l.take n)).size ≤ 2000; omega⟩
                show stepB (bts (mkB (l.take n))) = some ((mkB (l.take n)).size, some 1)
                rw [hsz, show bts (mkB (l.take n)) = l.take n from mkB_data _]
                exact step_word hs
              · exact g1 t e
            · rw [wt]
              show (mkB (l.take n)).size + wt q ≤ l.length
              omega
theorem lexS_good {s : ByteArray} (h : (lexS s).2.1 = 0) : Gd (lexS s).1 ∧ wt (lexS s).1 ≤ s.size := by
  unfold lexS at h ⊢
  split at h
  · cases h
  rename_i h2
  rw [if_neg h2]
  have hl : (bts s).length = s.size := (Lib.size_eq s).symm
  cases hg : lexG s s.size 0 with
  | error p => rw [hg] at h; exact absurd h (by show ¬ (60 : Int) = 0; decide)
  | ok ts =>
    have e : LB (bts s) 0 = .ok ts := by
      rw [← hg, LX_B s s.size 0 (Nat.zero_le _), List.drop_zero]
      unfold LB bts
      rw [← Lib.size_eq]
    obtain ⟨g1, w1⟩ := LB_good (bts s).length (bts s) 0 ts (Nat.le_refl _) (by omega) e
    have hw : ∀ a b : List Tok, wt (a ++ b) = wt a + wt b := by
      intro a b
      induction a with
      | nil => rw [List.nil_append, wt]; omega
      | cons t r ih => rw [List.cons_append, wt, wt, ih]; omega
    have he : (s.extract s.size s.size).size = 0 := by rw [ByteArray.size_extract]; omega
    refine ⟨fun t ht => ?_, ?_⟩
    · rcases List.mem_append.1 ht with q | q
      · exact g1 t q
      · rw [List.mem_singleton.1 q]
        exact ⟨fun q => absurd rfl q, fun q => by exact absurd (show (0 : Int) = 1 from q) (by decide)⟩
    · show wt (ts ++ [(⟨0, s.extract s.size s.size, s.size⟩ : Tok)]) ≤ s.size
      rw [hw, wt, wt]
      show wt ts + ((s.extract s.size s.size).size + 0) ≤ s.size
      omega
/-! ### what a row of tokens is refused with -/
abbrev TK := S74
def isT (k : Int) (x : ByteArray) (t : TK) : Bool := t.f0 == k && (x.toList.isEmpty || t.f1.toList == x.toList)
theorem isT_k {k : Int} {x : ByteArray} {t : TK} (h : isT k x t = true) : t.f0 = k := by
  unfold isT at h
  rw [Bool.and_eq_true, beq_iff_eq] at h
  exact h.1
theorem isP_T (k : Int) (x : ByteArray) (m : List TK) : isP k x m = isT k x (hd m) := rfl
theorem bnd_err {α β : Type} {r : Except (Int × Int) α} {f : α → Except (Int × Int) β} {e : Int × Int} (h : bnd r f = .error e) : r = .error e ∨ ∃ a, r = .ok a ∧ f a = .error e := by
  cases r with
  | error e' => exact Or.inl (by cases h; rfl)
  | ok a => exact Or.inr ⟨a, rfl, h⟩
def Bad (b : Int) : Prop := b = 61 ∨ b = 62
theorem take_bad {k : Int} {xs : List ByteArray} {m : List TK} {b p : Int} (h : takeP k xs m = .error (b, p)) : Bad b := by
  unfold takeP at h
  split at h
  · cases h
  · cases h; exact Or.inl rfl
theorem word_bad {m : List TK} {b p : Int} (h : wordP m = .error (b, p)) : Bad b := by
  unfold wordP at h
  split at h
  · cases h; exact Or.inl rfl
  · exact take_bad h
theorem num_bad {m : List TK} {b p : Int} (h : numP m = .error (b, p)) : Bad b := by
  rcases bnd_err h with h | ⟨a, _, h⟩
  · exact take_bad h
  · cases h
theorem mask_bad {m : List TK} {b p : Int} (h : maskP m = .error (b, p)) : Bad b := by
  unfold maskP at h
  split at h
  · rcases bnd_err h with h | ⟨a, _, h⟩
    · exact take_bad h
    · exact num_bad h
  · cases h
theorem test_bad {m : List TK} {b p : Int} (h : testP m = .error (b, p)) : Bad b := by
  rcases bnd_err h with h | ⟨a, _, h⟩
  · exact take_bad h
  rcases bnd_err h with h | ⟨a, _, h⟩
  · exact mask_bad h
  rcases bnd_err h with h | ⟨a, _, h⟩
  · exact take_bad h
  rcases bnd_err h with h | ⟨a, _, h⟩
  · exact num_bad h
  · cases h
theorem isP_len {k : Int} {x : ByteArray} {m : List TK} (h : isP k x m = true) (hk : k ≠ 0) : m.tail.length + 1 = m.length := by
  cases m with
  | nil =>
    have := isT_k (t := hd ([] : List TK)) h
    exact absurd this.symm hk
  | cons a r => rfl
def PB (L : Nat) (f : List TK → Except (Int × Int) (S28 × List TK)) : Prop := ∀ m b p, m.length < L → f m = .error (b, p) → Bad b
theorem more_bad {L : Nat} {f : List TK → Except (Int × Int) (S28 × List TK)} (hp : PB L f) (hs : Shr f) (wd : ByteArray) : ∀ n acc m b p, m.length ≤ L → moreP f wd n acc m = .error (b, p) → Bad b
  | 0, acc, m, b, p, _, h => by cases h
  | n + 1, acc, m, b, p, hm, h => by
    rw [moreP] at h
    split at h
    · rename_i hc
      have hl := isP_len hc (by decide)
      rcases bnd_err h with h | ⟨⟨c, m1⟩, h1, h⟩
      · exact hp _ _ _ (by omega) h
      · have q : m1.length ≤ m.tail.length := hs _ _ _ h1
        exact more_bad hp hs wd n _ _ _ _ (show m1.length ≤ L by omega) h
    · cases h
theorem list_bad {L : Nat} {f : List TK → Except (Int × Int) (S28 × List TK)} (hp : PB L f) (hs : Shr f) (wd : ByteArray) (kind : Int) : PB L (listP f wd kind) := by
  intro m b p hm h
  rcases bnd_err h with h | ⟨⟨c, m1⟩, h1, h⟩
  · exact hp _ _ _ hm h
  · have q : m1.length ≤ m.length := hs _ _ _ h1
    rcases bnd_err h with h | ⟨y, _, h⟩
    · exact more_bad hp hs wd _ _ _ _ _ (show m1.length ≤ L by omega) h
    · cases h
theorem cond_bad {L : Nat} {f : List TK → Except (Int × Int) (S28 × List TK)} (hp : PB L f) (hs : Shr f) : PB L (condP f) := list_bad (list_bad hp hs andT 1) (list_shr hs andT 1) orT 2
theorem factor_bad : ∀ n deep, PB n (factorP n deep)
  | 0, deep => fun m b p hm h => absurd hm (by omega)
  | n + 1, deep => fun m b p hm h => by
    rw [factorP] at h
    split at h
    · cases h; exact Or.inr rfl
    split at h
    · rename_i hc
      have hl := isP_len hc (by decide)
      rcases bnd_err h with h | ⟨c, _, h⟩
      · exact factor_bad n (deep + 1) _ _ _ (by omega) h
      · cases h
    split at h
    · rename_i hc
      have hl := isP_len hc (by decide)
      rcases bnd_err h with h | ⟨c, _, h⟩
      · exact cond_bad (factor_bad n (deep + 1)) (factor_shr _ _) _ _ _ (by omega) h
      rcases bnd_err h with h | ⟨c, _, h⟩
      · exact take_bad h
      · cases h
    · exact test_bad h
theorem act_bad {m : List TK} {b p : Int} (h : actP m = .error (b, p)) : Bad b := by
  rcases bnd_err h with h | ⟨a, _, h⟩
  · exact word_bad h
  try simp only at h
  split at h
  · rcases bnd_err h with h | ⟨a, _, h⟩
    · exact num_bad h
    · cases h
  · cases h
theorem names_bad : ∀ n acc m b p, namesP n acc m = .error (b, p) → Bad b
  | 0, acc, m, b, p, h => by cases h
  | n + 1, acc, m, b, p, h => by
    rw [namesP] at h
    split at h
    · rcases bnd_err h with h | ⟨c, _, h⟩
      · exact word_bad h
      · exact names_bad n _ _ _ _ h
    · cases h
theorem rule_bad {m : List TK} {b p : Int} (h : ruleP m = .error (b, p)) : Bad b := by
  rcases bnd_err h with h | ⟨a, _, h⟩
  · exact act_bad h
  rcases bnd_err h with h | ⟨c, _, h⟩
  · exact word_bad h
  rcases bnd_err h with h | ⟨⟨ns, m3⟩, _, h⟩
  · exact names_bad _ _ _ _ _ h
  try simp only at h
  split at h
  · rename_i hc
    have hl := isP_len hc (by decide)
    rcases bnd_err h with h | ⟨c, _, h⟩
    · exact cond_bad (factor_bad _ _) (factor_shr _ _) _ _ _ (by omega) h
    · cases h
  · cases h
theorem endP_bad {m : List TK} {b p : Int} (h : endP m = .error (b, p)) : Bad b := by
  unfold endP at h
  split at h
  · cases h
  · rcases bnd_err h with h | ⟨c, _, h⟩
    · exact take_bad h
    · cases h
theorem rules_bad : ∀ n acc m b p, rulesP n acc m = .error (b, p) → Bad b
  | 0, acc, m, b, p, h => by cases h
  | n + 1, acc, m, b, p, h => by
    rw [rulesP] at h
    split at h
    · cases h
    · rcases bnd_err h with h | ⟨c, _, h⟩
      · exact rule_bad h
      rcases bnd_err h with h | ⟨d, _, h⟩
      · exact endP_bad h
      · exact rules_bad n _ _ _ _ h
theorem policy_bad {m : List TK} {b p : Int} (h : policyP m = .error (b, p)) : Bad b := by
  rcases bnd_err h with h | ⟨_, _, h⟩
  · exact take_bad h
  rcases bnd_err h with h | ⟨_, _, h⟩
  · exact word_bad h
  rcases bnd_err h with h | ⟨_, _, h⟩
  · exact endP_bad h
  rcases bnd_err h with h | ⟨_, _, h⟩
  · exact take_bad h
  rcases bnd_err h with h | ⟨_, _, h⟩
  · exact act_bad h
  rcases bnd_err h with h | ⟨_, _, h⟩
  · exact endP_bad h
  rcases bnd_err h with h | ⟨_, _, h⟩
  · exact rules_bad _ _ _ _ _ h
  · cases h
theorem eqB_refl (a : ByteArray) : eqB a a = true := by unfold eqB; exact beq_self_eq_true _
theorem eqAll_self {α : Type} {e : α → α → Bool} : ∀ l : List α, (∀ a ∈ l, e a a = true) → eqAll e l l = true
  | [], _ => rfl
  | a :: r, h => by rw [eqAll, h a List.mem_cons_self, eqAll_self r (fun x hx => h x (List.mem_cons_of_mem _ hx))]; rfl
theorem eqK_refl : ∀ c : CN, nodesC c ≤ 1000000 → ∀ n : Nat, nodesC c ≤ n → eqK n c c = true := by
  refine cond_ind fun c ih hn n h => ?_
  obtain ⟨m, rfl⟩ : ∃ m, n = m + 1 := ⟨n - 1, by have := nodesC_pos c; omega⟩
  have hl : c.f1.length ≤ 1000000 := by have := nodesL_len c.f1; rw [nodesC_eq] at hn; omega
  rw [eqK, decide_eq_true hl, eqAll_self c.f1 (fun k hk => ih k hk (by have := nodes_kid hk; omega) m (by have := nodes_kid hk; omega))]
  simp
theorem like_ev (a d : ByteArray) (n : Int) (rs : List RN) (hl : rs.length ≤ 1000000) (hr : ∀ r ∈ rs, r.f2.length ≤ 1000000 ∧ nodesC r.f3 ≤ 1000000) : Ev (fun k => doorwardref15_Like.f k a d n rs a d n rs) true := by
  refine ⟨1000000, fun k hk => ?_⟩
  show doorwardref15_Like.f k a d n rs a d n rs = some true
  unfold doorwardref15_Like.f
  have e : eqAll (eqR k) rs rs = true := by
    refine eqAll_self rs fun r h => ?_
    obtain ⟨h1, h2⟩ := hr r h
    unfold eqR
    rw [eqB_refl, eqAll_self r.f2 (fun s _ => eqB_refl s), decide_eq_true h1, eqK_refl r.f3 h2 k (by omega)]
    simp
  rw [if_pos]
  rw [eqB_refl, eqB_refl, decide_eq_true hl, e]
  simp

end Go.Proofs.YtdfjjimmnbijmaaGreatDoor.ZQ

import Derived.Test.YtdfjjimmnbijmaaGreatDoorZQm
namespace Go.Proofs.YtdfjjimmnbijmaaGreatDoor.ZQ
open Go.RowKit Go.Proofs.YtdfjjimmnbijmaaGreatDoorW.PrintWords Go.Proofs.YtdfjjimmnbijmaaGreatDoorW.PrintLast Go.Proofs.YtdfjjimmnbijmaaGreatDoorW.PrintMore Go.Proofs.YtdfjjimmnbijmaaGreatDoor.Base
attribute [local go_sem] max2_int min2_int max_two min_two max_three min_three max_four min_four
set_option linter.unusedVariables false
set_option linter.unusedSimpArgs false
/-! ### a printed policy is parsed as itself -/
theorem rn_eta (r : RN) : (⟨r.f0, r.f1, r.f2, r.f3⟩ : RN) = r := by cases r; rfl
theorem none_z {c : CN} (h : noneS c = true) : c = z28 := by
  unfold noneS at h
  rw [Bool.and_eq_true, Bool.and_eq_true, decide_eq_true_eq, decide_eq_true_eq] at h
  obtain ⟨h0, hb, hl⟩ := h
  obtain ⟨b1, b2, b3, b4⟩ := bare_iff hb
  have e := cn_eta c
  rw [h0, List.length_eq_zero_iff.1 hl, b1, b2, b3, b4] at e
  exact e.symm
theorem act_key {n : ByteArray} {d : Int} (hn : wordS n = true) (h0 : 0 ≤ d) (h1 : d < 18446744073709551616) {l : List S74} {t : Key} {r : List Key} (ht : t.1 ≠ 2) (h : l.map key = actK n d ++ t :: r) : ∃ l', actP l = .ok ((n, d), l') ∧ l'.map key = t :: r := by
  unfold actK at h
  rw [List.cons_append] at h
  obtain ⟨w1, w2⟩ := wordP_key h (res_word hn)
  unfold actP
  rw [w1, bnd_ok]
  simp only
  by_cases hd : d = 0
  · rw [if_pos hd, List.nil_append] at w2
    obtain ⟨k, s⟩ := t
    rw [(hd_key w2).1, if_neg ht]
    exact ⟨_, by rw [hd], w2⟩
  · rw [if_neg hd, List.cons_append, List.nil_append] at w2
    obtain ⟨n1, n2⟩ := numP_key h0 h1 w2
    rw [(hd_key w2).1, if_pos rfl, n1, bnd_ok]
    exact ⟨_, rfl, n2⟩
theorem names_key : ∀ (xs : List ByteArray) (m : Nat) (acc : List ByteArray) (l : List S74) (r : List Key), xs.length ≤ m → (∀ s ∈ xs, wordS s = true) → l.map key = xs.map nameK ++ r → (∀ k s q, r = (k, s) :: q → k ≠ 1 ∨ resS s = true) → ∃ l', namesP m acc l = .ok (acc ++ xs, l') ∧ l'.map key = r
  | [], m, acc, l, r, _, _, h, hr => by
    rw [List.map_nil, List.nil_append] at h
    refine ⟨l, ?_, h⟩
    rw [List.append_nil]
    cases m with
    | zero => rw [namesP]
    | succ m =>
      have e : (isP 1 emptyT l && !resS (hd l).f1) = false := by
        cases r with
        | nil =>
          obtain rfl : l = [] := List.map_eq_nil_iff.1 h
          have e1 : isP 1 emptyT ([] : List S74) = false := by
            unfold isP
            rw [show ((hd ([] : List S74)).f0 == 1) = false from rfl, Bool.false_and]
          rw [e1, Bool.false_and]
        | cons t q =>
          obtain ⟨k, s⟩ := t
          rw [isP_key h, (hd_key h).2.1]
          rcases hr k s q rfl with e | e
          · rw [beq_eq_false_iff_ne.2 e, Bool.false_and, Bool.false_and]
          · rw [e, Bool.not_true, Bool.and_false]
      rw [namesP, e, if_neg (by decide)]
  | s :: xs, m, acc, l, r, hm, hw, h, hr => by
    obtain ⟨m', rfl⟩ : ∃ m', m = m' + 1 := ⟨m - 1, by simp at hm; omega⟩
    rw [List.map_cons, List.cons_append] at h
    have h : l.map key = (1, s) :: (xs.map nameK ++ r) := h
    have hs := res_word (hw s List.mem_cons_self)
    have e : (isP 1 emptyT l && !resS (hd l).f1) = true := by
      rw [isP_key h, (hd_key h).2.1, hs]
      have : emptyT.toList.isEmpty = true := by rw [Lib.toList_data]; rfl
      rw [this]; rfl
    obtain ⟨w1, w2⟩ := wordP_key h hs
    obtain ⟨l', h1, h2⟩ := names_key xs m' (acc ++ [s]) l.tail r (by simp at hm; omega) (fun x hx => hw x (List.mem_cons_of_mem _ hx)) w2 hr
    refine ⟨l', ?_, h2⟩
    rw [namesP, e, if_pos rfl, w1, bnd_ok]
    simp only
    rw [h1, List.append_assoc, List.singleton_append]
theorem key_len {l : List S74} {ks : List Key} (h : l.map key = ks) : l.length = ks.length := by rw [← h, List.length_map]
theorem rule_key {r : RN} (hd : rngC r.f3 = true ∧ 0 ≤ r.f1 ∧ r.f1 < 18446744073709551616) (h : (ruleS r).2 = true) {l : List S74} {q : List Key} (hl : l.map key = tokR r ++ nlK :: q) : ∃ l', ruleP l = .ok (r, l') ∧ l'.map key = nlK :: q := by
  obtain ⟨h1, h2, h3, h4⟩ := rule_ok h
  obtain ⟨nm, more, hn⟩ := List.exists_cons_of_ne_nil h2
  unfold tokR at hl
  rw [hn, List.map_cons, List.append_assoc, List.cons_append, List.cons_append, List.append_assoc] at hl
  obtain ⟨l1, a1, a2⟩ := act_key h1 hd.2.1 hd.2.2 (t := nameK nm) (show (1 : Int) ≠ 2 by decide) hl
  have a2 : l1.map key = (1, nm) :: _ := a2
  obtain ⟨w1, w2⟩ := wordP_key a2 (res_word (h3 nm (by rw [hn]; exact List.mem_cons_self)))
  have hmore : ∀ s ∈ more, wordS s = true := fun s hs => h3 s (by rw [hn]; exact List.mem_cons_of_mem _ hs)
  have hlen : more.length ≤ l1.tail.length := by
    rw [key_len w2, List.length_append, List.length_map]; omega
  unfold ruleP
  rw [a1, bnd_ok]
  simp only
  rw [w1, bnd_ok]
  simp only
  rcases h4 with ⟨hno, _⟩ | ⟨hno, hnd, hf, h8, _⟩
  · rw [if_pos hno, List.nil_append] at w2
    obtain ⟨l2, n1, n2⟩ := names_key more l1.tail.length [nm] l1.tail _ hlen hmore w2 (fun k s q' e => Or.inl (by injection e with e1 _; injection e1 with e2 _; rw [← e2]; decide))
    have e : isP 1 ifT l2 = false := isP_no n2 1 (by decide) _ (by rw [Lib.toList_data]; rfl) (fun q' e => by injection e with e1 _; injection e1 with e2 _; exact absurd e2 (by decide))
    refine ⟨l2, ?_, n2⟩
    rw [n1, bnd_ok]
    simp only
    rw [e, if_neg (by decide), List.singleton_append, ← hn, ← none_z hno, rn_eta]
  · rw [if_neg (by rw [hno]; decide), List.cons_append] at w2
    obtain ⟨l2, n1, n2⟩ := names_key more l1.tail.length [nm] l1.tail _ hlen hmore w2 (fun k s q' e => Or.inr (by injection e with e1 _; injection e1 with _ e3; rw [← e3]; decide))
    have n2 : l2.map key = (1, ifT) :: (tokC r.f3 ++ nlK :: q) := n2
    have e : isP 1 ifT l2 = true := by rw [isP_key n2]; simp
    have hfu : depthC r.f3 < l2.length := by
      have := tok_len r.f3 hf
      rw [key_len n2, List.length_cons, List.length_append]; omega
    obtain ⟨_, _, ht⟩ := hd_key n2
    obtain ⟨l3, c1, c2⟩ := (cond_ok r.f3 hf hd.1).2.2 l2.length 0 hfu (by omega) l2.tail _ ht ⟨fun q' e => by injection e with e1 _; injection e1 with e2 _; exact absurd e2 (by decide), fun q' e => by injection e with e1 _; injection e1 with e2 _; exact absurd e2 (by decide)⟩
    refine ⟨l3, ?_, c2⟩
    rw [n1, bnd_ok]
    simp only
    rw [e, if_pos rfl, c1, bnd_ok, List.singleton_append, ← hn, rn_eta]
theorem lines_id {l : List S74} {r : List Key} (h : l.map key = r) (hr : ∀ k s q, r = (k, s) :: q → k ≠ 4) : linesP l = l := by
  cases l with
  | nil => rfl
  | cons t q =>
    unfold linesP
    rw [if_neg]
    intro e
    exact hr t.f0 t.f1 (q.map key) (by rw [← h]; rfl) e
theorem end_key {l : List S74} {q : List Key} (h : l.map key = nlK :: q) (hq : ∀ k s q', q = (k, s) :: q' → k ≠ 4) : endP l = .ok ((), l.tail) ∧ l.tail.map key = q := by
  have h : l.map key = (4, ⟨#[10]⟩) :: q := h
  obtain ⟨t1, t2⟩ := takeP_key h [] rfl
  refine ⟨?_, t2⟩
  unfold endP
  rw [(hd_key h).1, if_neg (by decide), t1, bnd_ok]
  simp only
  rw [lines_id t2 hq]
theorem tokR_head (r : RN) (q : List Key) : ∃ q', tokR r ++ q = (1, r.f0) :: q' := by
  unfold tokR actK
  rw [List.cons_append, List.cons_append]
  exact ⟨_, rfl⟩
theorem rules_key : ∀ (rs : List RN) (m : Nat) (acc : List RN) (l : List S74), rs.length ≤ m → (∀ r ∈ rs, (rngC r.f3 = true ∧ 0 ≤ r.f1 ∧ r.f1 < 18446744073709551616) ∧ (ruleS r).2 = true) → l.map key = (rs.flatMap fun r => tokR r ++ [nlK]) ++ [(0, ⟨#[]⟩)] → ∃ l', rulesP m acc l = .ok (acc ++ rs, l')
  | [], m, acc, l, _, _, h => by
    rw [List.flatMap_nil, List.nil_append] at h
    rw [List.append_nil]
    cases m with
    | zero => exact ⟨l, by rw [rulesP]⟩
    | succ m =>
      have e : isP 0 emptyT l = true := by rw [isP_key h]; have : emptyT.toList.isEmpty = true := by { rw [Lib.toList_data]; rfl }; rw [this]; rfl
      exact ⟨l, by rw [rulesP, e, if_pos rfl]⟩
  | r :: t, m, acc, l, hm, hr, h => by
    obtain ⟨m', rfl⟩ : ∃ m', m = m' + 1 := ⟨m - 1, by simp at hm; omega⟩
    rw [List.flatMap_cons, List.append_assoc, List.append_assoc, List.singleton_append] at h
    obtain ⟨hd1, hr1⟩ := hr r List.mem_cons_self
    obtain ⟨q', hq'⟩ := tokR_head r (nlK :: ((t.flatMap fun r => tokR r ++ [nlK]) ++ [(0, ⟨#[]⟩)]))
    have e : isP 0 emptyT l = false := by
      rw [isP_key (h.trans hq')]; rfl
    obtain ⟨l1, r1, r2⟩ := rule_key hd1 hr1 h
    have hnext : ∀ k s q', (t.flatMap fun r => tokR r ++ [nlK]) ++ [((0, ⟨#[]⟩) : Key)] = (k, s) :: q' → k ≠ 4 := by
      intro k s q' e
      cases t with
      | nil => rw [List.flatMap_nil, List.nil_append] at e; injection e with e1 _; injection e1 with e2 _; rw [← e2]; decide
      | cons x y =>
        rw [List.flatMap_cons, List.append_assoc, List.append_assoc] at e
        obtain ⟨q2, h2⟩ := tokR_head x ([nlK] ++ ((y.flatMap fun r => tokR r ++ [nlK]) ++ [(0, ⟨#[]⟩)]))
        rw [h2] at e
        injection e with e1 _; injection e1 with e2 _; rw [← e2]; decide
    obtain ⟨n1, n2⟩ := end_key r2 hnext
    obtain ⟨l', h3⟩ := rules_key t m' (acc ++ [r]) l1.tail (by simp at hm; omega) (fun x hx => hr x (List.mem_cons_of_mem _ hx)) n2
    refine ⟨l', ?_⟩
    rw [rulesP, e, if_neg (by decide), r1, bnd_ok]
    simp only
    rw [n1, bnd_ok]
    simp only
    rw [h3, List.append_assoc, List.singleton_append]
theorem policy_key {a d : ByteArray} {n : Int} {rs : List RN} (ha : wordS a = true) (hdw : wordS d = true) (h0 : 0 ≤ n) (h1 : n < 18446744073709551616) (hr : ∀ r ∈ rs, (rngC r.f3 = true ∧ 0 ≤ r.f1 ∧ r.f1 < 18446744073709551616) ∧ (ruleS r).2 = true) {l : List S74} (hl : l.map key = toksP a d n rs ++ [(0, ⟨#[]⟩)]) : ∃ l', policyP l = .ok (⟨a, d, n, rs⟩, l') := by
  unfold toksP at hl
  rw [List.cons_append, List.cons_append, List.cons_append, List.cons_append, List.append_assoc, List.cons_append] at hl
  have e0 : linesP l = l := lines_id hl (fun k s q e => by injection e with e1 _; injection e1 with e2 _; rw [← e2]; decide)
  have hl : l.map key = (1, archT) :: _ := hl
  obtain ⟨t1, t2⟩ := takeP_key hl [archT] (by decide)
  obtain ⟨w1, w2⟩ := wordP_key t2 (res_word ha)
  obtain ⟨n1, n2⟩ := end_key w2 (fun k s q e => by injection e with e1 _; injection e1 with e2 _; rw [← e2]; decide)
  have n2 : l.tail.tail.tail.map key = (1, defT) :: (actK d n ++ nlK :: ((rs.flatMap fun r => tokR r ++ [nlK]) ++ [(0, ⟨#[]⟩)])) := n2
  obtain ⟨d1, d2⟩ := takeP_key n2 [defT] (by decide)
  obtain ⟨l2, a1, a2⟩ := act_key hdw h0 h1 (t := nlK) (by decide) d2
  have hnext : ∀ k s q', (rs.flatMap fun r => tokR r ++ [nlK]) ++ [((0, ⟨#[]⟩) : Key)] = (k, s) :: q' → k ≠ 4 := by
    intro k s q' e
    cases rs with
    | nil => rw [List.flatMap_nil, List.nil_append] at e; injection e with e1 _; injection e1 with e2 _; rw [← e2]; decide
    | cons x y =>
      rw [List.flatMap_cons, List.append_assoc, List.append_assoc] at e
      obtain ⟨q2, h2⟩ := tokR_head x ([nlK] ++ ((y.flatMap fun r => tokR r ++ [nlK]) ++ [(0, ⟨#[]⟩)]))
      rw [h2] at e
      injection e with e1 _; injection e1 with e2 _; rw [← e2]; decide
  obtain ⟨m1, m2⟩ := end_key a2 hnext
  have hlen : rs.length ≤ l2.tail.length := by
    have hf : ∀ q : List RN, q.length ≤ (q.flatMap fun r => tokR r ++ [nlK]).length := by
      intro q
      induction q with
      | nil => exact Nat.le_refl _
      | cons x y ih => rw [List.flatMap_cons, List.length_append, List.length_append, List.length_cons, List.length_singleton]; omega
    have := hf rs
    rw [key_len m2, List.length_append]; omega
  obtain ⟨l3, h3⟩ := rules_key rs l2.tail.length [] l2.tail hlen hr m2
  refine ⟨l3, ?_⟩
  unfold policyP
  rw [e0, t1, bnd_ok]
  simp only
  rw [w1, bnd_ok]
  simp only
  rw [n1, bnd_ok]
  simp only
  rw [d1, bnd_ok]
  simp only
  rw [a1, bnd_ok]
  simp only
  rw [m1, bnd_ok]
  simp only
  rw [h3, bnd_ok, List.nil_append]
/-- What is written is parsed as that policy. -/
theorem parse_source {a d : ByteArray} {n : Int} {rs : List RN} (h0 : 0 ≤ n) (h1 : n < 18446744073709551616) (hr : ∀ r ∈ rs, rngC r.f3 = true ∧ 0 ≤ r.f1 ∧ r.f1 < 18446744073709551616) (h : (sourceS a d n rs).2 = true) : parseS (sourceS a d n rs).1 = (a, d, n, rs, 0, 0) ∧ (sourceS a d n rs).1.size ≤ 2000 := by
  obtain ⟨⟨ha, hdw⟩, _, hok, _, hs, hsz⟩ := source_ok h
  rw [hs]
  have hx := Lx_source ha hdw h0 h1 (rs := rs) (fun r hr' => Tk_rule (hr r hr') (hok r hr'))
  obtain ⟨ts, e1, e2⟩ := lexS_Lx hsz hx
  obtain ⟨l', e3⟩ := policy_key ha hdw h0 h1 (fun r hr' => ⟨hr r hr', hok r hr'⟩) e2
  refine ⟨?_, hsz⟩
  unfold parseS
  rw [e1]
  simp only
  rw [if_pos trivial, e3]
  rfl

end Go.Proofs.YtdfjjimmnbijmaaGreatDoor.ZQ

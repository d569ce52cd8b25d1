import Derived.Test.YtdfjjimmnbijmaaDoorLBpC
namespace Go.Proofs.YtdfjjimmnbijmaaDoor.LB
open Go.RowKit Go.Proofs.YtdfjjimmnbijmaaDoorW.PrintWords Go.Proofs.YtdfjjimmnbijmaaDoorW.PrintLast Go.Proofs.YtdfjjimmnbijmaaDoorW.PrintMore Go.Proofs.YtdfjjimmnbijmaaDoor.Base
attribute [local go_sem] max2_int min2_int max_two min_two max_three min_three max_four min_four
set_option linter.unusedVariables false
set_option linter.unusedSimpArgs false
/-! ### rows of bytes put together: what is put between two tokens, and sources that are joined -/
theorem runB_cons (p : Int → Bool) (c : UInt8) (r : List UInt8) : runB p (c :: r) = if p c.toNat = true then runB p r + 1 else 0 := by
  unfold runB
  rw [List.takeWhile_cons]
  split <;> simp_all
theorem runB_nil (p : Int → Bool) : runB p [] = 0 := rfl
theorem runB_le (p : Int → Bool) : ∀ l : List UInt8, runB p l ≤ l.length
  | [] => Nat.le_refl _
  | c :: r => by
    have := runB_le p r
    rw [runB_cons]
    split <;> simp <;> omega
theorem runB_take (p : Int → Bool) : ∀ (l : List UInt8) (j : Nat), runB p l ≤ j → runB p (l.take j) = runB p l
  | [], j, _ => by rw [List.take_nil]
  | c :: r, 0, h => by rw [List.take_zero, runB_nil]; omega
  | c :: r, j + 1, h => by
    rw [List.take_succ_cons, runB_cons, runB_cons]
    rw [runB_cons] at h
    by_cases hp : p c.toNat = true
    · rw [if_pos hp] at h
      rw [if_pos hp, if_pos hp, runB_take p r j (by omega)]
    · rw [if_neg hp, if_neg hp]
theorem runB_app (p : Int → Bool) (c : UInt8) (t : List UInt8) (hc : p c.toNat = false) : ∀ l : List UInt8, runB p (l ++ c :: t) = runB p l
  | [] => by rw [List.nil_append, runB_cons, hc]; rfl
  | d :: r => by rw [List.cons_append, runB_cons, runB_cons, runB_app p c t hc r]
theorem runB_lt (p : Int → Bool) (t : List UInt8) : ∀ l : List UInt8, runB p l < l.length → runB p (l ++ t) = runB p l
  | [], h => by simp at h
  | d :: r, h => by
    rw [List.cons_append, runB_cons, runB_cons]
    rw [runB_cons] at h
    by_cases hp : p d.toNat = true
    · rw [if_pos hp] at h
      rw [if_pos hp, if_pos hp, runB_lt p t r (by simp at h; omega)]
    · rw [if_neg hp, if_neg hp]
theorem runB_full (p : Int → Bool) (t : List UInt8) : ∀ l : List UInt8, (∀ c ∈ l, p c.toNat = true) → runB p (l ++ t) = l.length + runB p t
  | [], _ => by simp
  | d :: r, h => by
    rw [List.cons_append, runB_cons, if_pos (h d List.mem_cons_self), runB_full p t r (fun c hc => h c (List.mem_cons_of_mem _ hc))]
    simp; omega
theorem runB_all (p : Int → Bool) : ∀ l : List UInt8, runB p l = l.length → ∀ c ∈ l, p c.toNat = true
  | [], _ => fun c hc => by cases hc
  | d :: r, h => by
    rw [runB_cons] at h
    by_cases hp : p d.toNat = true
    · rw [if_pos hp] at h
      intro c hc
      rcases List.mem_cons.1 hc with e | e
      · subst e; exact hp
      · exact runB_all p r (by simp at h; omega) c e
    · rw [if_neg hp] at h; simp at h
theorem sgS_one {c : Int} {two : Bool} (h : sgS c two ≤ 1) : sgS c false = sgS c two := by
  cases two with
  | false => rfl
  | true =>
    unfold sgS at h ⊢
    by_cases h1 : c = 61 ∨ c = 33 ∨ c = 60 ∨ c = 62
    · rw [if_pos ⟨rfl, h1⟩] at h; omega
    · rw [if_neg (show ¬ (false = true ∧ (c = 61 ∨ c = 33 ∨ c = 60 ∨ c = 62)) from fun e => absurd e.1 (by decide)), if_neg (show ¬ (true = true ∧ (c = 61 ∨ c = 33 ∨ c = 60 ∨ c = 62)) from fun e => h1 e.2)]
theorem take_min {α : Type} (l : List α) {n j : Nat} (h : n ≤ j) : (l.take j).take n = l.take n := by rw [List.take_take, Nat.min_eq_left h]
theorem stepB_cons (c : UInt8) (r : List UInt8) : stepB (c :: r) =
    if c.toNat = 32 ∨ c.toNat = 9 ∨ c.toNat = 13 then some (1, none)
    else if c.toNat = 35 then some (runB notNl (c :: r), none)
    else if c.toNat = 10 then some (1, some 4)
    else if letS c.toNat then some (runB eitS (c :: r), some 1)
    else if dS c.toNat then (if (numS (mkB ((c :: r).take (runB eitS (c :: r))))).isSome then some (runB eitS (c :: r), some 2) else none)
    else if sgS c.toNat (r.head? == some 61) = 0 then none else some (sgS c.toNat (r.head? == some 61), some 3) := rfl
theorem stepB_take {l : List UInt8} {n j : Nat} {k : Option Int} (h : stepB l = some (n, k)) (hj : n ≤ j) : stepB (l.take j) = some (n, k) := by
  have hp := stepB_pos h
  cases l with
  | nil => cases h
  | cons c r =>
    obtain ⟨i, rfl⟩ : ∃ i, j = i + 1 := ⟨j - 1, by omega⟩
    rw [List.take_succ_cons]
    rw [stepB_cons] at h ⊢
    by_cases h1 : c.toNat = 32 ∨ c.toNat = 9 ∨ c.toNat = 13
    · rw [if_pos h1] at h ⊢; exact h
    rw [if_neg h1] at h ⊢
    by_cases h2 : c.toNat = 35
    · rw [if_pos h2] at h ⊢
      cases h
      have e := runB_take notNl (c :: r) (i + 1) hj
      rw [List.take_succ_cons] at e
      rw [e]
    rw [if_neg h2] at h ⊢
    by_cases h3 : c.toNat = 10
    · rw [if_pos h3] at h ⊢; exact h
    rw [if_neg h3] at h ⊢
    by_cases h4 : letS c.toNat = true
    · rw [if_pos h4] at h ⊢
      cases h
      have e := runB_take eitS (c :: r) (i + 1) hj
      rw [List.take_succ_cons] at e
      rw [e]
    rw [if_neg h4] at h ⊢
    by_cases h5 : dS c.toNat = true
    · rw [if_pos h5] at h ⊢
      by_cases h6 : (numS (mkB ((c :: r).take (runB eitS (c :: r))))).isSome = true
      · rw [if_pos h6] at h
        cases h
        have e := runB_take eitS (c :: r) (i + 1) hj
        have e2 := take_min (c :: r) hj
        rw [List.take_succ_cons] at e e2
        rw [e, e2, if_pos h6]
      · rw [if_neg h6] at h; cases h
    rw [if_neg h5] at h ⊢
    by_cases h7 : sgS c.toNat (r.head? == some 61) = 0
    · rw [if_pos h7] at h; cases h
    · rw [if_neg h7] at h
      cases h
      have e : sgS c.toNat ((r.take i).head? == some 61) = sgS c.toNat (r.head? == some 61) := by
        cases i with
        | zero => rw [List.take_zero]; exact sgS_one hj
        | succ i => cases r <;> rfl
      rw [e, if_neg h7]
theorem stepB_app {l : List UInt8} (hl : l ≠ []) (c : UInt8) (t : List UInt8) (h1 : eitS c.toNat = false) (h2 : c ≠ 61) (h3 : c.toNat = 10 ∨ l.head? ≠ some 35) : stepB (l ++ c :: t) = stepB l := by
  cases l with
  | nil => exact absurd rfl hl
  | cons d r =>
    have e := runB_app eitS c t h1 (d :: r)
    have et : ((d :: r) ++ c :: t).take (runB eitS (d :: r)) = (d :: r).take (runB eitS (d :: r)) := List.take_append_of_le_length (runB_le _ _)
    rw [List.cons_append] at e et ⊢
    rw [stepB_cons, stepB_cons, e, et]
    have es : ((r ++ c :: t).head? == some 61) = (r.head? == some 61) := by
      cases r with
      | nil => simp [h2]
      | cons x y => rfl
    rw [es]
    by_cases h4 : d.toNat = 35
    · have h5 : c.toNat = 10 := by
        rcases h3 with h | h
        · exact h
        · exact absurd (by rw [List.head?_cons, ← UInt8.toNat_inj.1 (show d.toNat = (35 : UInt8).toNat from h4)]) h
      have e2 := runB_app notNl c t (by simp [notNl, h5]) (d :: r)
      rw [List.cons_append] at e2
      rw [e2]
    · rw [if_neg h4, if_neg h4]
def shT (d : Nat) (t : S34) : S34 := ⟨t.f0, t.f1, t.f2 + d⟩
def shE (d : Nat) : Except Nat (List S34) → Except Nat (List S34)
  | .ok l => .ok (l.map (shT d))
  | .error e => .error (e + d)
theorem LB_shift : ∀ (m : Nat) (l : List UInt8) (o d : Nat), l.length ≤ m → LB l (o + d) = shE d (LB l o) := by
  intro m
  induction m with
  | zero =>
    intro l o d h
    obtain rfl : l = [] := List.length_eq_zero_iff.1 (by omega)
    rfl
  | succ m ih =>
    intro l o d h
    by_cases hl : l = []
    · subst hl; rfl
    · rw [LB_step l (o + d) hl, LB_step l o hl]
      cases hs : stepB l with
      | none => rfl
      | some x =>
        obtain ⟨n, k⟩ := x
        have hp := stepB_pos hs
        have e := ih (l.drop n) (o + n) d (by simp; omega)
        rw [Nat.add_right_comm] at e
        cases k with
        | none => exact e
        | some k =>
          simp only [e]
          cases LB (l.drop n) (o + n) <;> simp [consT, shE, shT]
theorem LB_at : ∀ (m : Nat) (l : List UInt8) (o : Nat), l.length ≤ m → ∀ ts, LB l o = .ok ts → ∀ t ∈ ts, ∃ j : Nat, t.f2 = ((o + j : Nat) : Int) ∧ j < l.length := by
  intro m
  induction m with
  | zero =>
    intro l o h ts hts t ht
    obtain rfl : l = [] := List.length_eq_zero_iff.1 (by omega)
    cases hts; cases ht
  | succ m ih =>
    intro l o h ts hts t ht
    by_cases hl : l = []
    · subst hl; cases hts; cases ht
    · rw [LB_step l o hl] at hts
      cases hs : stepB l with
      | none => rw [hs] at hts; cases hts
      | some x =>
        obtain ⟨n, k⟩ := x
        have hp := stepB_pos hs
        have hlen : (l.drop n).length = l.length - n := List.length_drop ..
        rw [hs] at hts
        cases k with
        | none =>
          obtain ⟨j, h1, h2⟩ := ih (l.drop n) (o + n) (by omega) ts hts t ht
          exact ⟨n + j, by rw [h1, Nat.add_assoc], by omega⟩
        | some k =>
          simp only at hts
          cases hr : LB (l.drop n) (o + n) with
          | error e => rw [hr] at hts; cases hts
          | ok ts1 =>
            rw [hr] at hts
            cases hts
            rcases List.mem_cons.1 ht with e | e
            · subst e; exact ⟨0, rfl, by omega⟩
            · obtain ⟨j, h1, h2⟩ := ih (l.drop n) (o + n) (by omega) ts1 hr t e
              exact ⟨n + j, by rw [h1, Nat.add_assoc], by omega⟩
def strip (t : S34) : Int × ByteArray := (t.f0, t.f1)
theorem strip_sh (d : Nat) (ts : List S34) : (ts.map (shT d)).map strip = ts.map strip := by
  rw [List.map_map]; rfl
/-- What is passed over, put ahead of a token: nothing of the tokens changes but their places. -/
theorem LB_put (q R : List UInt8) (hnl : ∀ c ∈ (32 :: q : List UInt8), notNl c.toNat = true) (hR : ∀ o, LB (32 :: q ++ R) o = LB R (o + (32 :: q).length)) :
    ∀ (m : Nat) (A : List UInt8) (o : Nat) (ts : List S34), A.length ≤ m → LB (A ++ R) o = .ok ts → (R = [] ∨ ∃ t ∈ ts, t.f2 = ((o + A.length : Nat) : Int)) →
    ∃ ts', LB (A ++ (32 :: q ++ R)) o = .ok ts' ∧ ts'.map strip = ts.map strip := by
  have base : ∀ (o : Nat) (ts : List S34), LB R o = .ok ts → ∃ ts', LB (32 :: q ++ R) o = .ok ts' ∧ ts'.map strip = ts.map strip := by
    intro o ts h
    refine ⟨ts.map (shT (32 :: q).length), ?_, strip_sh _ _⟩
    rw [hR, LB_shift _ _ _ _ (Nat.le_refl _), h]; rfl
  intro m
  induction m with
  | zero =>
    intro A o ts h hts _
    obtain rfl : A = [] := List.length_eq_zero_iff.1 (by omega)
    exact base o ts hts
  | succ m ih =>
    intro A o ts h hts hat
    by_cases hA : A = []
    · subst hA; exact base o ts hts
    have hApos := List.length_pos_iff.2 hA
    have hne : A ++ R ≠ [] := fun e => hA (List.append_eq_nil_iff.1 e).1
    have hne' : A ++ (32 :: q ++ R) ≠ [] := fun e => hA (List.append_eq_nil_iff.1 e).1
    rw [LB_step _ _ hne] at hts
    cases hs : stepB (A ++ R) with
    | none => rw [hs] at hts; cases hts
    | some x =>
      obtain ⟨n, k⟩ := x
      have hp := stepB_pos hs
      rw [hs] at hts
      have hn : n ≤ A.length ∧ (R = [] ∨ ∃ ts1, LB ((A ++ R).drop n) (o + n) = .ok ts1 ∧ ∃ t ∈ ts1, t.f2 = ((o + A.length : Nat) : Int)) := by
        rcases hat with hat | ⟨t, ht, hf⟩
        · refine ⟨?_, Or.inl hat⟩
          have := hp.2; rw [hat, List.append_nil] at this; exact this
        · cases k with
          | none =>
            obtain ⟨j, h1, h2⟩ := LB_at _ _ _ (Nat.le_refl _) ts hts t ht
            exact ⟨by omega, Or.inr ⟨ts, hts, t, ht, hf⟩⟩
          | some k =>
            simp only at hts
            cases hr : LB ((A ++ R).drop n) (o + n) with
            | error e => rw [hr] at hts; cases hts
            | ok ts1 =>
              rw [hr] at hts
              cases hts
              rcases List.mem_cons.1 ht with e | e
              · subst e; simp only at hf; omega
              · obtain ⟨j, h1, h2⟩ := LB_at _ _ _ (Nat.le_refl _) ts1 hr t e
                exact ⟨by omega, Or.inr ⟨ts1, rfl, t, e, hf⟩⟩
      obtain ⟨hn, hat'⟩ := hn
      have hsA : stepB A = some (n, k) := by
        have := stepB_take hs hn
        rwa [List.take_left'  rfl] at this
      have hdrop : ∀ X : List UInt8, (A ++ X).drop n = A.drop n ++ X := fun X => List.drop_append_of_le_length hn
      have htake : ∀ X : List UInt8, (A ++ X).take n = A.take n := fun X => List.take_append_of_le_length hn
      have hlen : (A.drop n).length = A.length - n := List.length_drop ..
      have same : stepB (A ++ (32 :: q ++ R)) = some (n, k) → ∃ ts', LB (A ++ (32 :: q ++ R)) o = .ok ts' ∧ ts'.map strip = ts.map strip := by
        intro hs'
        rw [LB_step _ _ hne', hs']
        rw [hdrop] at hat'
        have hat2 : ∀ ts1, LB (A.drop n ++ R) (o + n) = .ok ts1 → (R = [] ∨ ∃ t ∈ ts1, t.f2 = ((o + n + (A.drop n).length : Nat) : Int)) := by
          intro ts1 h1
          rcases hat' with h | ⟨ts2, h2, t, h3, h4⟩
          · exact Or.inl h
          · rw [h1] at h2; cases h2
            exact Or.inr ⟨t, h3, by rw [h4, hlen]; omega⟩
        cases k with
        | none =>
          simp only [hdrop] at hts ⊢
          exact ih (A.drop n) (o + n) ts (by omega) hts (hat2 ts hts)
        | some k =>
          simp only [hdrop, htake] at hts ⊢
          cases hr : LB (A.drop n ++ R) (o + n) with
          | error e => rw [hr] at hts; cases hts
          | ok ts1 =>
            rw [hr] at hts
            cases hts
            obtain ⟨ts', h1, h2⟩ := ih (A.drop n) (o + n) ts1 (by omega) hr (hat2 ts1 hr)
            rw [h1]
            exact ⟨_, rfl, by rw [List.map_cons, List.map_cons, h2]⟩
      by_cases hhd : A.head? = some 35
      · cases A with
        | nil => cases hhd
        | cons a A' =>
          obtain rfl : a = 35 := by simpa using hhd
          have e35 : ∀ Y : List UInt8, stepB (35 :: Y) = some (runB notNl (35 :: Y), none) := fun Y => by
            rw [stepB_cons, if_neg (by decide), if_pos (by decide)]
          have hsA2 := hsA
          rw [e35] at hsA2
          obtain ⟨hn1, hk1⟩ := Prod.mk.inj (Option.some.inj hsA2)
          subst hk1
          by_cases hlt : n < (35 :: A').length
          · apply same
            rw [List.cons_append, e35, ← List.cons_append, runB_lt notNl _ _ (by omega), hn1]
          · have hnA : n = (35 :: A').length := by omega
            have hall := runB_all notNl (35 :: A') (by omega)
            have hs2 := hs
            rw [List.cons_append, e35, ← List.cons_append, runB_full notNl R _ hall] at hs2
            have hr0 : runB notNl R = 0 := by have := (Prod.mk.inj (Option.some.inj hs2)).1; omega
            have hst : stepB (35 :: A' ++ (32 :: q ++ R)) = some ((35 :: A').length + (32 :: q).length, none) := by
              rw [List.cons_append, e35, ← List.cons_append, runB_full notNl _ _ hall, runB_full notNl _ _ hnl, hr0, Nat.add_zero]
            rw [LB_step _ _ hne', hst]
            have hd : (35 :: A' ++ (32 :: q ++ R)).drop ((35 :: A').length + (32 :: q).length) = R := by
              rw [← List.drop_drop, List.drop_left' rfl, List.drop_left' rfl]
            have hd2 : (35 :: A' ++ R).drop n = R := by rw [hnA, List.drop_left' rfl]
            simp only [hd]
            simp only [hd2] at hts
            refine ⟨ts.map (shT (32 :: q).length), ?_, strip_sh _ _⟩
            rw [← Nat.add_assoc, LB_shift _ _ _ _ (Nat.le_refl _), ← hnA, hts]; rfl
      · apply same
        rw [List.cons_append, stepB_app hA 32 _ (by decide) (by decide) (Or.inr hhd)]
        exact hsA
def joinE : Except Nat (List S34) → Except Nat (List S34) → Except Nat (List S34)
  | .error e, _ => .error e
  | .ok a, x => ahead a x
theorem joinE_cons (t : S34) (x y : Except Nat (List S34)) : joinE (consT t x) y = consT t (joinE x y) := by
  cases x <;> cases y <;> rfl
theorem LB_line (t : List UInt8) (o : Nat) : LB (10 :: t) o = consT ⟨4, mkB [10], o⟩ (LB t (o + 1)) := by
  rw [LB_step _ _ (by simp), show stepB (10 :: t) = some (1, some 4) from rfl]
  rfl
/-- Two sources with an end of line between. -/
theorem LB_join (t : List UInt8) : ∀ (m : Nat) (A : List UInt8) (o : Nat), A.length ≤ m → LB (A ++ 10 :: t) o = joinE (LB A o) (consT ⟨4, mkB [10], ((o + A.length : Nat) : Int)⟩ (LB t (o + A.length + 1))) := by
  intro m
  induction m with
  | zero =>
    intro A o h
    obtain rfl : A = [] := List.length_eq_zero_iff.1 (by omega)
    rw [List.nil_append, LB_line, LB_nil]
    simp only [joinE, List.length_nil, Nat.add_zero]
    cases LB t (o + 1) <;> rfl
  | succ m ih =>
    intro A o h
    by_cases hA : A = []
    · subst hA
      rw [List.nil_append, LB_line, LB_nil]
      simp only [joinE, List.length_nil, Nat.add_zero]
      cases LB t (o + 1) <;> rfl
    have hne : A ++ 10 :: t ≠ [] := fun e => hA (List.append_eq_nil_iff.1 e).1
    rw [LB_step _ _ hne, LB_step _ _ hA, stepB_app hA 10 t (by decide) (by decide) (Or.inl (by decide))]
    cases hs : stepB A with
    | none => rfl
    | some x =>
      obtain ⟨n, k⟩ := x
      have hp := stepB_pos hs
      have hdrop : (A ++ 10 :: t).drop n = A.drop n ++ 10 :: t := List.drop_append_of_le_length hp.2
      have htake : (A ++ 10 :: t).take n = A.take n := List.take_append_of_le_length hp.2
      have hlen : (A.drop n).length = A.length - n := List.length_drop ..
      have e := ih (A.drop n) (o + n) (by omega)
      have ho : o + n + (A.drop n).length = o + A.length := by omega
      rw [ho] at e
      cases k with
      | none => simp only [hdrop]; exact e
      | some k => simp only [hdrop, htake]; rw [e, ← joinE_cons]
theorem mkB_app (a b : List UInt8) : mkB a ++ mkB b = mkB (a ++ b) := by
  apply ba_ext
  rw [mkB_data]
  simp [mkB]

end Go.Proofs.YtdfjjimmnbijmaaDoor.LB

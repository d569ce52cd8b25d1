import Derived.Test.YtdfjjimmnbijmaaDoorLBpD
import Derived.Test.YtdfjjimmnbijmaaDoorLB5
namespace Go.Proofs.YtdfjjimmnbijmaaDoor.LB
open Go.RowKit Go.Proofs.YtdfjjimmnbijmaaDoorW.PrintWords Go.Proofs.YtdfjjimmnbijmaaDoorW.PrintLast Go.Proofs.YtdfjjimmnbijmaaDoorW.PrintMore Go.Proofs.YtdfjjimmnbijmaaDoor.Base
attribute [local go_sem] max2_int min2_int max_two min_two max_three min_three max_four min_four
set_option linter.unusedVariables false
set_option linter.unusedSimpArgs false
/-! ### the law of blanks -/
def cutS (m : Nat) (s : ByteArray) : ByteArray := s.extract 0 (min s.size m)
theorem cutS_le (m : Nat) (s : ByteArray) : (cutS m s).size ≤ m := by simp [cutS]; omega
def endK (s : ByteArray) : S34 := ⟨0, s.extract s.size s.size, s.size⟩
theorem lexS_ok {s : ByteArray} (hs : s.size ≤ 2000) {l : List S34} (h : LB s.data.toList 0 = .ok l) : lexS s = (l ++ [endK s], 0, 0) := by
  have h0 := LX_LB s 0 (Nat.zero_le _)
  rw [List.drop_zero] at h0
  rw [lexS_LX s (by omega), h0, h]
  rfl
theorem lexS_err {s : ByteArray} (hs : s.size ≤ 2000) {e : Nat} (h : LB s.data.toList 0 = .error e) : lexS s = ([], 60, (e : Int)) := by
  have h0 := LX_LB s 0 (Nat.zero_le _)
  rw [List.drop_zero] at h0
  rw [lexS_LX s (by omega), h0, h]
  rfl
theorem rd_get {a : List S34} {i : Nat} {x : S34} (h : a[i]? = some x) : rd_T34 a (i : Int) = x := by
  unfold rd_T34
  rw [List.getD_eq_getElem?_getD, Int.toNat_natCast, h]; rfl
theorem LB_four : ∀ (m : Nat) (l : List UInt8) (o : Nat), l.length ≤ m → ∀ ts, LB l o = .ok ts → ∀ t ∈ ts, t.f0 = 4 → ∃ j : Nat, t.f2 = ((o + j : Nat) : Int) ∧ ∃ r, l.drop j = 10 :: r := by
  intro m
  induction m with
  | zero =>
    intro l o h ts hts t ht
    obtain rfl : l = [] := List.length_eq_zero_iff.1 (by omega)
    cases hts; cases ht
  | succ m ih =>
    intro l o h ts hts t ht h4
    by_cases hl : l = []
    · subst hl; cases hts; cases ht
    · rw [LB_step l o hl] at hts
      cases hs : stepB l with
      | none => rw [hs] at hts; cases hts
      | some x =>
        obtain ⟨n, k⟩ := x
        have hp := stepB_pos hs
        have hlen : (l.drop n).length = l.length - n := List.length_drop ..
        rw [hs] at hts
        cases k with
        | none =>
          obtain ⟨j, h1, r, h2⟩ := ih (l.drop n) (o + n) (by omega) ts hts t ht h4
          exact ⟨n + j, by rw [h1, Nat.add_assoc], r, by rw [← List.drop_drop]; exact h2⟩
        | some k =>
          simp only at hts
          cases hr : LB (l.drop n) (o + n) with
          | error e => rw [hr] at hts; cases hts
          | ok ts1 =>
            rw [hr] at hts
            cases hts
            rcases List.mem_cons.1 ht with e | e
            · subst e
              refine ⟨0, rfl, ?_⟩
              simp only at h4
              subst h4
              cases l with
              | nil => exact absurd rfl hl
              | cons c r =>
                rw [stepB_cons] at hs
                by_cases h1 : c.toNat = 32 ∨ c.toNat = 9 ∨ c.toNat = 13
                · rw [if_pos h1] at hs; cases hs
                rw [if_neg h1] at hs
                by_cases h2 : c.toNat = 35
                · rw [if_pos h2] at hs; cases hs
                rw [if_neg h2] at hs
                by_cases h3 : c.toNat = 10
                · exact ⟨r, by rw [List.drop_zero, ← UInt8.toNat_inj.1 (show c.toNat = (10 : UInt8).toNat from h3)]⟩
                rw [if_neg h3] at hs
                by_cases h5 : letS c.toNat = true
                · rw [if_pos h5] at hs; cases hs
                rw [if_neg h5] at hs
                by_cases h6 : dS c.toNat = true
                · rw [if_pos h6] at hs
                  split at hs <;> cases hs
                rw [if_neg h6] at hs
                split at hs <;> cases hs
            · obtain ⟨j, h1, r, h2⟩ := ih (l.drop n) (o + n) (by omega) ts1 hr t e h4
              exact ⟨n + j, by rw [h1, Nat.add_assoc], r, by rw [← List.drop_drop]; exact h2⟩
theorem strip_l1 (a b : List S34) (hl : a.length ≤ 1000000) (h : a.map strip = b.map strip) : ∀ (d i : Nat), i + d = a.length → Ev (fun k => doorwardlaw14_LexBlanks.l1 k a b (a.length : Int) (i : Int)) true := by
  have hlen : a.length = b.length := by have := congrArg List.length h; simpa using this
  intro d
  induction d with
  | zero =>
    intro i hi
    apply succ
    simp only [doorwardlaw14_LexBlanks.l1]
    refine evN (show ¬ (i : Int) < (a.length : Int) by omega) ?_
    rw [alive_f]
    exact now rfl
  | succ d ih =>
    intro i hi
    apply succ
    have hia : i < a.length := by omega
    have hib : i < b.length := by omega
    have ea := List.getElem?_eq_getElem hia
    have eb := List.getElem?_eq_getElem hib
    have es : strip a[i] = strip b[i] := by
      have := congrArg (fun l => l[i]?) h
      simpa [List.getElem?_map, ea, eb] using this
    have ra := rd_get ea
    have rb := rd_get eb
    generalize a[i] = x at es ra
    generalize b[i] = y at es rb
    obtain ⟨e1, e2⟩ := Prod.mk.inj es
    simp only [doorwardlaw14_LexBlanks.l1]
    refine evP (show (i : Int) < (a.length : Int) by omega) ?_
    refine evP (show 0 ≤ (i : Int) by omega) ?_
    refine evP (show (i : Int) < (a.length : Int) by omega) ?_
    refine evP (show (i : Int) < (b.length : Int) by omega) ?_
    rw [ra]
    rw [rb]
    refine evP e1 ?_
    refine evP (by rw [e2]) ?_
    rw [w1 (show i < 9223372036854775807 by omega)]
    exact ih (i + 1) (by omega)
theorem ext0 (s : ByteArray) (j : Nat) : s.extract 0 j = mkB (s.data.toList.take j) := by
  have := extract_mkB s 0 j
  rw [Nat.zero_add, List.drop_zero] at this
  exact this
theorem extE (s : ByteArray) (j : Nat) (hj : j ≤ s.size) : s.extract j s.size = mkB (s.data.toList.drop j) := by
  have := extract_mkB s j (s.size - j)
  rw [show j + (s.size - j) = s.size by omega] at this
  rw [this]
  congr 1
  apply List.take_of_length_le
  rw [List.length_drop, ← Lib.size_eq]
  exact Nat.le_refl _
theorem blanks_j3 (s : ByteArray) (hs : s.size ≤ 900) (l : List S34) (hl : LB s.data.toList 0 = .ok l) (q : Nat) (hq : q < (l ++ [endK s]).length) (put : List UInt8) (hpl : put.length ≤ 102)
    (hp0 : ∃ p, put = 32 :: p) (hnl : ∀ c ∈ put, notNl c.toNat = true)
    (hR : ∀ j : Nat, (rd_T34 (l ++ [endK s]) (q : Int)).f2 = (j : Int) → ∀ o, LB (put ++ s.data.toList.drop j) o = LB (s.data.toList.drop j) (o + put.length)) :
    Ev (fun k => doorwardlaw14_LexBlanks.j3 k s (q : Int) (l ++ [endK s]) (mkB put)) true := by
  obtain ⟨p, rfl⟩ := hp0
  have hlen : (l ++ [endK s]).length ≤ 1000000 := by
    have := ahead_len s s.size 0 (by omega) (by omega) l (by rw [LX_LB s 0 (Nat.zero_le _), List.drop_zero]; exact hl)
    simp; omega
  obtain ⟨t, ht⟩ : ∃ t, (l ++ [endK s])[q]? = some t := ⟨_, List.getElem?_eq_getElem hq⟩
  have hrd := rd_get ht
  rw [hrd] at hR
  have hj : ∃ j : Nat, t.f2 = (j : Int) ∧ j ≤ s.size ∧ (s.data.toList.drop j = [] ∨ ∃ t ∈ l, t.f2 = (j : Int)) := by
    have hm := List.mem_of_getElem? ht
    rw [List.mem_append, List.mem_singleton] at hm
    rcases hm with hm | hm
    · obtain ⟨j, h1, h2⟩ := LB_at _ _ _ (Nat.le_refl _) l hl t hm
      rw [Nat.zero_add] at h1
      exact ⟨j, h1, by rw [Lib.size_eq]; omega, Or.inr ⟨t, hm, h1⟩⟩
    · subst hm
      exact ⟨s.size, rfl, Nat.le_refl _, Or.inl (List.drop_of_length_le (by rw [← Lib.size_eq]; exact Nat.le_refl _))⟩
  obtain ⟨j, hj, hjs, hat⟩ := hj
  have hR' := hR j hj
  have hA : (s.data.toList.take j).length = j := by rw [List.length_take, ← Lib.size_eq]; omega
  have hAR : s.data.toList.take j ++ s.data.toList.drop j = s.data.toList := List.take_append_drop ..
  obtain ⟨ts', h1, h2⟩ := LB_put p (s.data.toList.drop j) hnl hR' _ (s.data.toList.take j) 0 l (Nat.le_refl _) (by rw [hAR]; exact hl) (by rw [hA, Nat.zero_add]; exact hat)
  have hsz : (mkB (s.data.toList.take j ++ (32 :: p ++ s.data.toList.drop j))).size ≤ 2000 := by
    rw [mkB_size, List.length_append, List.length_append, hA, List.length_drop, ← Lib.size_eq]; omega
  have hlex := lexS_ok hsz (l := ts') (by rw [mkB_data]; exact h1)
  have hcat : (s.extract 0 j ++ mkB (32 :: p)) ++ s.extract j s.size = mkB (s.data.toList.take j ++ (32 :: p ++ s.data.toList.drop j)) := by
    rw [ext0, extE s j hjs, mkB_app, mkB_app, List.append_assoc]
  have hlen2 : ts'.length = l.length := by have := congrArg List.length h2; simpa using this
  apply succ
  simp only [doorwardlaw14_LexBlanks.j3]
  refine evP (show 0 ≤ (q : Int) by omega) ?_
  refine evP (show (q : Int) < ((l ++ [endK s]).length : Int) by omega) ?_
  rw [hrd]
  rw [hj]
  refine evN (show ¬ (j : Int) < 0 by omega) ?_
  rw [decide_eq_false (show ¬ (j : Int) > (s.size : Int) by omega)]
  apply succ
  simp only [doorwardlaw14_LexBlanks.j4]
  have hb1 : (s.extract 0 j).size + (mkB (32 :: p)).size ≤ 9223372036854775807 := by
    rw [mkB_size, ext0, mkB_size, hA]; omega
  have hb2 : ((s.extract 0 j) ++ mkB (32 :: p)).size + (s.extract j s.size).size ≤ 9223372036854775807 := by
    rw [ext0, extE s j hjs, mkB_app, mkB_size, mkB_size, List.length_append, hA, List.length_drop, ← Lib.size_eq]; omega
  refine evN (show ¬ (false = true) by decide) ?_
  refine evP (show 0 ≤ (j : Int) by omega) ?_
  refine evP (show (j : Int) ≤ (s.size : Int) by omega) ?_
  rw [Int.toNat_natCast]
  refine evP hb1 ?_
  refine evP hb2 ?_
  rw [hcat]
  show Ev (fun k => (some (lexS _)).bind _) true
  rw [hlex]
  simp only [Option.bind_some]
  have hne : (((ts' ++ [endK (mkB (s.data.toList.take j ++ (32 :: p ++ s.data.toList.drop j)))]).length : Int) != ((l ++ [endK s]).length : Int)) = false := by
    simp [hlen2]
  refine evP trivial ?_
  rw [hne]
  apply succ
  simp only [doorwardlaw14_LexBlanks.j5]
  refine evN (show ¬ (false = true) by decide) ?_
  have hstr : (l ++ [endK s]).map strip = (ts' ++ [endK (mkB (s.data.toList.take j ++ (32 :: p ++ s.data.toList.drop j)))]).map strip := by
    rw [List.map_append, List.map_append, h2]
    congr 1
    simp only [List.map_cons, List.map_nil, strip, endK]
    congr 2
    apply ba_ext
    rw [Lib.extract_data, Lib.extract_data]
    simp
  exact strip_l1 _ _ hlen hstr (l ++ [endK s]).length 0 (by omega)
theorem put_l0 (s : ByteArray) (q : Int) (rm : ByteArray) (toks : List S34) (n : Nat) (hn : n ≤ rm.size) (hn2 : n ≤ 100) (r : Bool)
    (hj : ∀ p' : List UInt8, p'.length ≤ 102 → (∀ c ∈ p', notNl c.toNat = true) → (∃ t, p' = 32 :: 35 :: t) → Ev (fun k => doorwardlaw14_LexBlanks.j3 k s q toks (mkB p')) r) :
    ∀ (d i : Nat) (p : List UInt8), i + d = n → p.length ≤ 2 + i → (∀ c ∈ p, notNl c.toNat = true) → (∃ t, p = 32 :: 35 :: t) →
    Ev (fun k => doorwardlaw14_LexBlanks.l0 k s q rm toks (mkB p) (n : Int) (i : Int)) r := by
  intro d
  induction d with
  | zero =>
    intro i p hi hp hnl h0
    apply succ
    simp only [doorwardlaw14_LexBlanks.l0]
    refine evN (show ¬ (i : Int) < (n : Int) by omega) ?_
    exact hj p (by omega) hnl h0
  | succ d ih =>
    intro i p hi hp hnl h0
    apply succ
    have hir : i < rm.data.toList.length := by rw [← Lib.size_eq]; omega
    have hbt := bt_get rm i _ (List.getElem?_eq_getElem hir)
    have hex : rm.extract i (i + 1) = mkB [rm.data.toList[i]] := by
      rw [extract_mkB rm i 1, drop_cons hir]; rfl
    generalize rm.data.toList[i] = c at hbt hex
    simp only [doorwardlaw14_LexBlanks.l0]
    refine evP (show (i : Int) < (n : Int) by omega) ?_
    refine evP (show 0 ≤ (i : Int) by omega) ?_
    refine evP (show (i : Int) < (rm.size : Int) by omega) ?_
    rw [hbt]
    rw [w1 (show i < 9223372036854775807 by omega)]
    by_cases hc : (c.toNat : Int) = 10
    · refine evP hc ?_
      exact ih (i + 1) p (by omega) (by omega) hnl h0
    · refine evN hc ?_
      refine evP (show (i : Int) ≤ ((i + 1 : Nat) : Int) by omega) ?_
      refine evP (show ((i + 1 : Nat) : Int) ≤ (rm.size : Int) by omega) ?_
      rw [Int.toNat_natCast]
      rw [Int.toNat_natCast]
      rw [hex]
      refine evP (by rw [mkB_size, mkB_size]; simp; omega) ?_
      rw [mkB_app]
      refine ih (i + 1) (p ++ [c]) (by omega) (by simp; omega) ?_ ?_
      · intro x hx
        rw [List.mem_append, List.mem_singleton] at hx
        rcases hx with hx | hx
        · exact hnl x hx
        · subst hx
          simp only [notNl, Bool.not_eq_true', beq_eq_false_iff_ne]
          exact hc
      · obtain ⟨t, rfl⟩ := h0
        exact ⟨t ++ [c], rfl⟩
theorem LB_blank (R : List UInt8) (o : Nat) : LB ([32, 9] ++ R) o = LB R (o + 2) := by
  rw [LB_step _ _ (by simp), show stepB ([32, 9] ++ R) = some (1, none) from rfl]
  show LB (9 :: R) (o + 1) = _
  rw [LB_step _ _ (by simp), show stepB (9 :: R) = some (1, none) from rfl]
  rfl
theorem LB_remark (t R : List UInt8) (o : Nat) (hnl : ∀ c ∈ (32 :: 35 :: t : List UInt8), notNl c.toNat = true) (hR : R = [] ∨ ∃ r, R = 10 :: r) : LB (32 :: 35 :: t ++ R) o = LB R (o + (32 :: 35 :: t).length) := by
  have h0 : runB notNl R = 0 := by
    rcases hR with rfl | ⟨r, rfl⟩
    · rfl
    · rw [runB_cons, if_neg (by decide)]
  rw [LB_step _ _ (by simp), show stepB (32 :: 35 :: t ++ R) = some (1, none) from rfl]
  show LB (35 :: t ++ R) (o + 1) = _
  have hs : stepB (35 :: t ++ R) = some ((35 :: t).length, none) := by
    rw [List.cons_append, stepB_cons, if_neg (by decide), if_pos (by decide), ← List.cons_append, runB_full notNl R (35 :: t) (fun c hc => hnl c (List.mem_cons_of_mem _ hc)), h0, Nat.add_zero]
  rw [LB_step _ _ (by simp), hs]
  simp only
  rw [List.drop_left' rfl]
  congr 1
  simp; omega
theorem at_nat (a1 : Int) (n : Nat) (hn : 1 ≤ n) (hn2 : n ≤ 1000000) : ∃ q : Nat, Int.tmod (wrap64 (Int.tmod a1 (n : Int) + (n : Int))) (n : Int) = (q : Int) ∧ q < n := by
  have h1 : -(n : Int) < Int.tmod a1 (n : Int) ∧ Int.tmod a1 (n : Int) < (n : Int) := by
    have := Int.tmod_lt_of_pos a1 (show (0 : Int) < (n : Int) by omega)
    have h2 := Int.lt_tmod_of_pos a1 (show (0 : Int) < (n : Int) by omega)
    omega
  generalize Int.tmod a1 (n : Int) = m at h1
  rw [wr (by omega) (by omega)]
  have h3 : 0 ≤ m + (n : Int) := by omega
  have h4 := Int.tmod_nonneg (n : Int) h3
  have h5 := Int.tmod_lt_of_pos (m + (n : Int)) (show (0 : Int) < (n : Int) by omega)
  exact ⟨(Int.tmod (m + (n : Int)) (n : Int)).toNat, by omega, by omega⟩
theorem lexBlanks_law (a0 : ByteArray) (a1 : Int) (a2 : ByteArray) : Ev (fun k => doorwardlaw14_LexBlanks.f k a0 a1 a2) true := by
  have hmn : mn (a0.size : Int) 900 = ((min a0.size 900 : Nat) : Int) := by unfold mn; split <;> omega
  have hle := cutS_le 900 a0
  simp only [doorwardlaw14_LexBlanks.f]
  rw [hmn]
  refine evP (by omega) ?_
  refine evP (by omega) ?_
  rw [Int.toNat_natCast]
  have hc : a0.extract 0 (min a0.size 900) = cutS 900 a0 := rfl
  rw [hc]
  show Ev (fun k => (some (lexS (cutS 900 a0))).bind _) true
  generalize cutS 900 a0 = s at hle ⊢
  simp only [Option.bind_some]
  cases hl : LB s.data.toList 0 with
  | error e =>
    rw [lexS_err (by omega) hl]
    simp only
    refine evN (by decide) ?_
    apply succ
    simp only [doorwardlaw14_LexBlanks.j0]
    refine evP trivial ?_
    rw [alive_f]
    exact now rfl
  | ok l =>
    rw [lexS_ok (by omega) hl]
    simp only
    have hlen : (l ++ [endK s]).length ≤ 1000000 := by
      have := ahead_len s s.size 0 (by omega) (by omega) l (by rw [LX_LB s 0 (Nat.zero_le _), List.drop_zero]; exact hl)
      simp; omega
    have hpos : 1 ≤ (l ++ [endK s]).length := by simp
    have hb : (((l ++ [endK s]).length : Int) == 0) = false := by rw [beq_eq_false_iff_ne]; omega
    refine evP trivial ?_
    rw [hb]
    obtain ⟨q, hq, hq2⟩ := at_nat a1 (l ++ [endK s]).length hpos hlen
    obtain ⟨t, ht⟩ : ∃ t, (l ++ [endK s])[q]? = some t := ⟨_, List.getElem?_eq_getElem hq2⟩
    have hrd := rd_get ht
    have hblank : ∀ b, b = false → Ev (fun k => doorwardlaw14_LexBlanks.j1 k s (q : Int) a2 (l ++ [endK s]) (⟨#[32, 9]⟩ : ByteArray) b) true := by
      rintro b rfl
      apply succ
      simp only [doorwardlaw14_LexBlanks.j1]
      refine evN (by decide) ?_
      exact blanks_j3 s hle l hl q hq2 [32, 9] (by simp) ⟨[9], rfl⟩ (by decide) (fun j _ o => LB_blank _ _)
    have hrem : t.f0 = 4 ∨ t.f0 = 0 → ∀ b, b = true → Ev (fun k => doorwardlaw14_LexBlanks.j1 k s (q : Int) a2 (l ++ [endK s]) (⟨#[32, 9]⟩ : ByteArray) b) true := by
      rintro hk b rfl
      apply succ
      simp only [doorwardlaw14_LexBlanks.j1]
      refine evP trivial ?_
      have hm : mn (a2.size : Int) 100 = ((min a2.size 100 : Nat) : Int) := by unfold mn; split <;> omega
      rw [hm]
      refine put_l0 s q a2 (l ++ [endK s]) (min a2.size 100) (by omega) (by omega) true ?_ (min a2.size 100) 0 [32, 35] (by omega) (by simp) (by decide) ⟨[], rfl⟩
      rintro p' hp' hnl ⟨t', rfl⟩
      refine blanks_j3 s hle l hl q hq2 (32 :: 35 :: t') hp' ⟨_, rfl⟩ hnl ?_
      intro j hj o
      rw [hrd] at hj
      refine LB_remark t' _ o hnl ?_
      have hm := List.mem_of_getElem? ht
      rw [List.mem_append, List.mem_singleton] at hm
      rcases hm with hm | hm
      · have h14 : 1 ≤ t.f0 := by
          have hlx : LX s 0 = .ok l := by rw [LX_LB s 0 (Nat.zero_le _), List.drop_zero]; exact hl
          exact (LX_kind s s.size 0 (by omega) (by omega) l hlx t hm).1
        obtain ⟨i, h1, r, h2⟩ := LB_four _ _ _ (Nat.le_refl _) l hl t hm (by omega)
        rw [Nat.zero_add, hj] at h1
        obtain rfl : j = i := by omega
        exact Or.inr ⟨r, h2⟩
      · subst hm
        have : j = s.size := by have h : ((s.size : Nat) : Int) = (j : Int) := hj; omega
        exact Or.inl (List.drop_of_length_le (by rw [this, ← Lib.size_eq]; exact Nat.le_refl _))
    apply succ
    simp only [doorwardlaw14_LexBlanks.j0]
    rw [hq]
    rw [hrd]
    refine evN (by decide) ?_
    refine evN (show ¬ (((l ++ [endK s]).length : Int) = 0) by omega) ?_
    refine evP (show 0 ≤ (q : Int) by omega) ?_
    refine evP (show (q : Int) < ((l ++ [endK s]).length : Int) by omega) ?_
    by_cases h4 : t.f0 = 4
    · refine evP h4 ?_
      exact hrem (Or.inl h4) _ rfl
    · refine evN h4 ?_
      by_cases h0 : t.f0 = 0
      · exact hrem (Or.inr h0) _ (by rw [beq_iff_eq]; exact h0)
      · exact hblank _ (by rw [beq_eq_false_iff_ne]; exact h0)

end Go.Proofs.YtdfjjimmnbijmaaDoor.LB

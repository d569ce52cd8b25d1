import Derived.Test.YtdfjjimmnbijmaaDoorLA
namespace Go.Proofs.YtdfjjimmnbijmaaDoor.LA
open Go.RowKit Go.Proofs.YtdfjjimmnbijmaaDoorW.PrintWords Go.Proofs.YtdfjjimmnbijmaaDoorW.PrintLast Go.Proofs.YtdfjjimmnbijmaaDoorW.PrintMore Go.Proofs.YtdfjjimmnbijmaaDoor.Base
attribute [local go_sem] max2_int min2_int max_two min_two max_three min_three max_four min_four
set_option linter.unusedVariables false
set_option linter.unusedSimpArgs false
theorem succ {α : Type} {g : Nat → Option α} {r : α} (h : Ev (fun k => g (k + 1)) r) : Ev g r := Ev.step (fun _ => rfl) h
theorem w1 {i : Nat} (h : i < 9223372036854775807) : wrap64 ((i : Int) + 1) = ((i + 1 : Nat) : Int) := by unfold wrap64; omega
theorem wr {i : Int} (h : -9223372036854775808 ≤ i) (h' : i ≤ 9223372036854775807) : wrap64 i = i := by unfold wrap64; omega
theorem now {α : Type} {r r' : α} (h : r = r') : Ev (fun _ => some r) r' := h ▸ Ev.now r
theorem evc {α : Type} {g : Nat → Option α} {r r' : α} (h : Ev g r) (e : r = r') : Ev g r' := e ▸ h
theorem drop_cons {α : Type} {l : List α} {i : Nat} (h : i < l.length) : l.drop i = l[i] :: l.drop (i + 1) := List.drop_eq_getElem_cons h
theorem str_eq (a b : ByteArray) : a.toList = b.toList ↔ a = b := ⟨tl_inj, fun h => h ▸ rfl⟩
theorem nil_iff (a : ByteArray) : a.toList = [] ↔ a.size = 0 := by
  rw [Lib.toList_data, Lib.size_eq, List.length_eq_zero_iff]
theorem alive_f : doorwardlaw14_alive.f = some true := by
  have h : lex_Lex.f (⟨#[]⟩ : ByteArray) = some ([⟨0, ⟨#[]⟩, 0⟩], 0, 0) := by unfold lex_Lex.f; rfl
  unfold doorwardlaw14_alive.f
  rw [h]
  rfl
def sh (s : ByteArray) : ByteArray := s.extract 0 (min s.size 2100)
theorem sh_le (s : ByteArray) : (sh s).size ≤ 2100 := by simp [sh]; omega
theorem short_f (s : ByteArray) : doorwardlaw14_short.f s = some (sh s) := by
  have h : mn (s.size : Int) 2100 = ((min s.size 2100 : Nat) : Int) := by unfold mn; split <;> omega
  unfold doorwardlaw14_short.f sh
  rw [h, if_pos (by omega), if_pos (by omega)]
  rfl
/-! ### the reference's number -/
def dOf (c : Nat) : Nat := if c ≤ 57 then c - 48 else c - 87
def refN (b : Nat) (acc : Nat) : List UInt8 → Option Nat
  | [] => some acc
  | c :: r => if nP b c.toNat then (if acc * b + dOf c.toNat ≤ 18446744073709551615 then refN b (acc * b + dOf c.toNat) r else none) else none
theorem rdigit_f (c : Int) : doorwardref14_digit.f c = some (dS c) := by
  unfold doorwardref14_digit.f dS
  by_cases h : c ≥ 48
  · rw [if_pos h]; simp [h]
  · rw [if_neg h]; simp [h]
theorem rletter_f (c : Int) : doorwardref14_letter.f c = some (letS c) := letS_f c
theorem value_f (c : Nat) (hc : c < 256) : doorwardref14_value.f (c : Int) = some (if 48 ≤ c ∧ c ≤ 57 then ((c - 48 : Nat) : Int) else if 97 ≤ c ∧ c ≤ 102 then ((c - 87 : Nat) : Int) else 99) := by
  unfold doorwardref14_value.f
  rw [rdigit_f]
  simp only [Option.bind_some, dS]
  by_cases h1 : 48 ≤ c ∧ c ≤ 57
  · rw [if_pos (by simp; omega), if_pos h1]; congr 1; omega
  · rw [if_neg (by simp; omega), if_neg h1]
    by_cases h2 : 97 ≤ c ∧ c ≤ 102
    · rw [if_pos (by omega), if_pos (by omega), if_pos h2]; congr 1; omega
    · rw [if_neg h2]
      by_cases h3 : (c : Int) ≥ 97
      · rw [if_pos h3, if_neg (by omega)]
      · rw [if_neg h3]
theorem refN_l0 (b : Nat) (hb : b = 10 ∨ b = 16) (t : ByteArray) (ht : t.size ≤ 1000000) : ∀ (d i acc : Nat), i + d = t.size → acc ≤ 18446744073709551615 → Ev (fun k => doorwardref14_Number.l0 k (b : Int) t (acc : Int) (i : Int)) (numR (refN b acc (t.data.toList.drop i))) := by
  intro d
  induction d with
  | zero =>
    intro i acc hi ha
    apply succ
    simp only [doorwardref14_Number.l0, if_neg (show ¬ (i : Int) < (t.size : Int) by omega)]
    rw [List.drop_of_length_le (by rw [← Lib.size_eq]; omega)]
    exact now rfl
  | succ d ih =>
    intro i acc hi ha
    apply succ
    have hil : i < t.data.toList.length := by rw [← Lib.size_eq]; omega
    simp only [doorwardref14_Number.l0, if_pos (show (i : Int) < (t.size : Int) by omega), if_pos (show 0 ≤ (i : Int) by omega)]
    rw [drop_cons hil]
    have hbt := bt_get t i (t.data.toList[i]) (List.getElem?_eq_getElem hil)
    simp only [hbt]
    generalize t.data.toList[i] = c
    have hc := c.toNat_lt
    simp only [value_f c.toNat (by omega), Option.bind_some]
    rw [refN]
    by_cases hn : nP b c.toNat = true
    · rw [if_pos hn]
      have hcs := nP_cases hn
      have hv : (if 48 ≤ c.toNat ∧ c.toNat ≤ 57 then ((c.toNat - 48 : Nat) : Int) else if 97 ≤ c.toNat ∧ c.toNat ≤ 102 then ((c.toNat - 87 : Nat) : Int) else 99) = ((dOf c.toNat : Nat) : Int) := by
        unfold dOf
        rcases hcs with q | q
        · rw [if_pos q, if_pos q.2]
        · rw [if_neg (by omega), if_pos q.2, if_neg (by omega)]
      have hd : dOf c.toNat < b := by
        unfold dOf
        rcases hcs with q | q
        · rw [if_pos q.2]; omega
        · rw [if_neg (by omega)]; omega
      simp only [hv, if_neg (show ¬ ((dOf c.toNat : Nat) : Int) ≥ (b : Int) by omega), if_neg (show ¬ (b : Int) = 0 by omega)]
      have e1 : IntKind.u64.wrap (18446744073709551615 - (dOf c.toNat : Int)) = ((18446744073709551615 - dOf c.toNat : Nat) : Int) := by rw [IntKind.wrap_u64]; omega
      have e2 : Int.tdiv ((18446744073709551615 - dOf c.toNat : Nat) : Int) (b : Int) = (((18446744073709551615 - dOf c.toNat) / b : Nat) : Int) := by
        rw [Int.ofNat_tdiv]
      have e3 : IntKind.u64.wrap (((18446744073709551615 - dOf c.toNat) / b : Nat) : Int) = (((18446744073709551615 - dOf c.toNat) / b : Nat) : Int) := by
        have hle : (18446744073709551615 - dOf c.toNat) / b ≤ 18446744073709551615 := Nat.le_trans (Nat.div_le_self _ _) (Nat.sub_le _ _)
        generalize (18446744073709551615 - dOf c.toNat) / b = q at hle ⊢
        rw [IntKind.wrap_u64]; omega
      simp only [e1, e2, e3]
      have key : ((18446744073709551615 - dOf c.toNat) / b < acc) ↔ ¬ (acc * b + dOf c.toNat ≤ 18446744073709551615) := by
        rw [Nat.div_lt_iff_lt_mul (by omega)]
        omega
      by_cases hov : acc * b + dOf c.toNat ≤ 18446744073709551615
      · rw [if_pos hov]
        simp only [if_neg (show ¬ (acc : Int) > (((18446744073709551615 - dOf c.toNat) / b : Nat) : Int) from fun h => key.1 (Int.ofNat_lt.1 h) hov)]
        have e4 : IntKind.u64.wrap ((b : Int) * (acc : Int)) = ((acc * b : Nat) : Int) := by
          have : (b : Int) * (acc : Int) = ((acc * b : Nat) : Int) := by rw [Int.mul_comm]; simp
          rw [this, IntKind.wrap_u64]; omega
        have e5 : IntKind.u64.wrap (((acc * b : Nat) : Int) + (dOf c.toNat : Int)) = ((acc * b + dOf c.toNat : Nat) : Int) := by rw [IntKind.wrap_u64]; omega
        simp only [e4, e5, w1 (show i < 9223372036854775807 by omega)]
        exact ih (i + 1) _ (by omega) hov
      · rw [if_neg hov]
        simp only [if_pos (show (acc : Int) > (((18446744073709551615 - dOf c.toNat) / b : Nat) : Int) from Int.ofNat_lt.2 (key.2 hov))]
        exact now rfl
    · rw [if_neg hn]
      have hge : (b : Int) ≤ (if 48 ≤ c.toNat ∧ c.toNat ≤ 57 then ((c.toNat - 48 : Nat) : Int) else if 97 ≤ c.toNat ∧ c.toNat ≤ 102 then ((c.toNat - 87 : Nat) : Int) else 99) := by
        simp only [nP, Bool.or_eq_true, Bool.and_eq_true, decide_eq_true_eq, beq_iff_eq, not_or] at hn
        rcases hb with rfl | rfl
        · rw [if_neg (by omega)]; split <;> omega
        · rw [if_neg (by omega), if_neg (by omega)]; omega
      simp only [ge_iff_le, if_pos hge]
      exact now rfl
theorem refN_bad (b : Nat) : ∀ (l : List UInt8) (acc : Nat), (∃ c ∈ l, nP b c.toNat = false) → refN b acc l = none
  | [], _, h => by obtain ⟨c, hc, _⟩ := h; cases hc
  | c :: r, acc, h => by
    rw [refN]
    by_cases hn : nP b c.toNat = true
    · rw [if_pos hn]
      split
      · obtain ⟨x, hx, hx2⟩ := h
        rcases List.mem_cons.1 hx with e | e
        · subst e; rw [hn] at hx2; cases hx2
        · exact refN_bad b r _ ⟨x, e, hx2⟩
      · rfl
    · rw [if_neg hn]
theorem refN_10 : ∀ (l : List UInt8) (acc : Nat), (∀ c ∈ l, nP 10 c.toNat = true) → refN 10 acc l = (match Lib.parseUintM (2 ^ 64 - 1) acc l with | .ok u => some u | _ => none)
  | [], acc, _ => by rw [refN, Lib.parseUintM]
  | c :: r, acc, h => by
    have hc := h c List.mem_cons_self
    have hcs := nP_cases hc
    have hd : 48 ≤ c.toNat ∧ c.toNat ≤ 57 := by omega
    have he : dOf c.toNat = c.toNat - 48 := by unfold dOf; rw [if_pos hd.2]
    rw [refN, show ((10 : Nat) : Int) = 10 from rfl, if_pos hc, Lib.parseUintM, if_pos hd, he]
    have ih := refN_10 r (acc * 10 + (c.toNat - 48)) (fun x hx => h x (List.mem_cons_of_mem _ hx))
    by_cases h1 : 1844674407370955162 ≤ acc
    · rw [if_pos h1, if_neg (by omega)]
    · rw [if_neg h1]
      by_cases h2 : 2 ^ 64 - 1 < acc * 10 + (c.toNat - 48)
      · rw [if_pos h2, if_neg (by omega)]
      · rw [if_neg h2, if_pos (by omega)]
        exact ih
theorem refN_16 : ∀ (l : List UInt8) (acc k : Nat), (∀ c ∈ l, nP 16 c.toNat = true) → k + l.length ≤ 16 → acc < 16 ^ k → refN 16 acc l = some (hexV acc l)
  | [], acc, _, _, _, _ => rfl
  | c :: r, acc, k, h, hk, ha => by
    have hc := h c List.mem_cons_self
    have hcs := nP_cases hc
    have he : dOf c.toNat = hexD c.toNat := rfl
    have hd : hexD c.toNat < 16 := by unfold hexD; split <;> omega
    have hk1 : k + 1 ≤ 16 := by simp at hk; omega
    have hp1 : 16 ^ (k + 1) = 16 ^ k * 16 := Nat.pow_succ 16 k
    have hp : 16 ^ (k + 1) ≤ 16 ^ 16 := Nat.pow_le_pow_right (by omega) hk1
    have e16 : 16 ^ 16 = 18446744073709551616 := by decide
    rw [refN, show ((16 : Nat) : Int) = 16 from rfl, if_pos hc, he, if_pos (by omega), hexV]
    exact refN_16 r _ (k + 1) (fun x hx => h x (List.mem_cons_of_mem _ hx)) (by simp at hk; omega) (by omega)
theorem refN_ge (b : Nat) : ∀ (l : List UInt8) (acc v : Nat), acc ≤ 18446744073709551615 → refN b acc l = some v → acc * b ^ l.length ≤ v ∧ v ≤ 18446744073709551615
  | [], acc, v, ha, h => by
    rw [refN] at h; cases h; simp; exact ha
  | c :: r, acc, v, ha, h => by
    rw [refN] at h
    split at h
    · split at h
      · rename_i h1 h2
        obtain ⟨h3, h4⟩ := refN_ge b r _ v h2 h
        refine ⟨?_, h4⟩
        have e : acc * b ^ (c :: r).length = (acc * b) * b ^ r.length := by rw [List.length_cons, Nat.pow_succ, Nat.mul_comm (b ^ r.length) b, Nat.mul_assoc]
        rw [e]
        exact Nat.le_trans (Nat.mul_le_mul_right _ (Nat.le_add_right _ _)) h3
      · cases h
    · cases h
theorem run_lt_bad (p : Int → Bool) (s : ByteArray) (h : runS p s s.size 0 < s.size) : ∃ c ∈ s.data.toList, p c.toNat = false := by
  have aux : ∀ d i, i + d = s.size → runS p s d i < d → ∃ j, j < s.size ∧ p (bt s (j : Nat)) = false := by
    intro d
    induction d with
    | zero => intro i _ h; omega
    | succ d ih =>
      intro i hi h
      rw [runS] at h
      split at h
      · obtain ⟨j, h1, h2⟩ := ih (i + 1) (by omega) (by omega)
        exact ⟨j, h1, h2⟩
      · rename_i hp
        exact ⟨i, by omega, by simpa using hp⟩
  obtain ⟨j, h1, h2⟩ := aux s.size 0 (by omega) h
  have hj : j < s.data.toList.length := by rw [← Lib.size_eq]; exact h1
  refine ⟨s.data.toList[j], List.getElem_mem _, ?_⟩
  rw [← bt_get s j _ (List.getElem?_eq_getElem hj)]
  exact h2
theorem numV_refN10 (r : ByteArray) (hr0 : r.size ≠ 0) (hz : ¬ (1 < r.size ∧ bt r 0 = 48)) : refN 10 0 r.data.toList = numV 10 r := by
  unfold numV
  by_cases h20 : 20 < r.size
  · rw [if_pos (Or.inr (Or.inl h20))]
    cases hv : refN 10 0 r.data.toList with
    | none => rfl
    | some v =>
      exfalso
      have hl : r.data.toList.length = r.size := (Lib.size_eq r).symm
      cases hd : r.data.toList with
      | nil => rw [hd] at hl; simp at hl; omega
      | cons c l =>
        rw [hd] at hv hl
        have hb0 := bt_get r 0 c (by rw [hd]; rfl)
        have hc48 : c.toNat ≠ 48 := fun e => hz ⟨by omega, by
          have h0 : bt r ((0 : Nat) : Int) = 48 := by rw [hb0, e]; rfl
          exact h0⟩
        rw [refN] at hv
        split at hv
        · rename_i hn
          have hcs := nP_cases hn
          split at hv
          · rename_i hle
            have hge := (refN_ge 10 l _ v hle hv)
            have hd1 : 1 ≤ 0 * 10 + dOf c.toNat := by
              unfold dOf
              rcases hcs with q | q
              · rw [if_pos q.2]; omega
              · omega
            have hll : 20 ≤ l.length := by simp at hl; omega
            have hp : 10 ^ 20 ≤ 10 ^ l.length := Nat.pow_le_pow_right (by omega) hll
            have hm : 1 * 10 ^ l.length ≤ (0 * 10 + dOf c.toNat) * 10 ^ l.length := Nat.mul_le_mul_right _ hd1
            have e20 : 10 ^ 20 = 100000000000000000000 := by decide
            omega
          · cases hv
        · cases hv
  · rw [if_neg (by omega), if_neg (fun h => hz h.2)]
    by_cases hb : runS (nP 10) r r.size 0 < r.size
    · rw [if_pos hb]
      exact refN_bad 10 _ 0 (run_lt_bad _ r hb)
    · rw [if_neg hb, if_neg (by decide)]
      have hall := all_nP 10 r (by have := runS_le (nP 10) r r.size 0; omega)
      rw [refN_10 _ 0 hall, Lib.parseUintB, if_neg (by intro h; apply hr0; rw [Lib.size_eq, h]; rfl)]
      cases Lib.parseUintM (2 ^ 64 - 1) 0 r.data.toList <;> rfl
theorem numV_refN16 (r : ByteArray) (hr0 : r.size ≠ 0) (h16 : ¬ 16 < r.size) : refN 16 0 r.data.toList = numV 16 r := by
  unfold numV
  rw [if_neg (by omega), if_neg (by simp)]
  by_cases hb : runS (nP 16) r r.size 0 < r.size
  · rw [if_pos hb]
    exact refN_bad 16 _ 0 (run_lt_bad _ r hb)
  · rw [if_neg hb, if_pos rfl]
    have hall := all_nP 16 r (by have := runS_le (nP 16) r r.size 0; omega)
    exact refN_16 _ 0 0 hall (by rw [← Lib.size_eq]; omega) (by decide)
theorem number_ev (s : ByteArray) (hs : s.size ≤ 1000000) : Ev (fun k => doorwardref14_Number.f k s) (numR (numS s)) := by
  have key : ∀ b, preS s ⟨#[48, 120]⟩ = b → Ev (fun k => doorwardref14_Number.j0 k s 10 s b) (numR (numS s)) := by
    intro b hb
    apply succ
    cases b with
    | false =>
      have hN : numS s = numV 10 s := by unfold numS cutN; rw [hb]; rfl
      rw [hN]
      simp only [doorwardref14_Number.j0, if_neg (show ¬ (false = true) by decide)]
      apply succ
      have hj2 : ∀ z : Bool, Ev (fun k => doorwardref14_Number.j2 k 10 s z) (if z = true then ((0 : Int), false) else numR (refN 10 0 s.data.toList)) := by
        intro z
        apply succ
        cases z with
        | true => simp only [doorwardref14_Number.j2, if_true]; exact now rfl
        | false =>
          simp only [doorwardref14_Number.j2, if_neg (show ¬ (false = true) by decide)]
          exact refN_l0 10 (Or.inl rfl) s hs s.size 0 0 (by omega) (by omega)
      by_cases h0 : s.size = 0
      · have hV : numV 10 s = none := by unfold numV; rw [if_pos (Or.inl h0)]
        rw [hV]
        simp only [doorwardref14_Number.j1, if_pos ((nil_iff s).2 h0)]
        exact hj2 true
      · simp only [doorwardref14_Number.j1, if_neg (show ¬ s.toList = [] from fun h => h0 ((nil_iff s).1 h)), if_true]
        by_cases h1 : 1 < s.size
        · simp only [if_pos (show (s.size : Int) > 1 by omega), if_pos (show 0 < (s.size : Int) by omega)]
          refine evc (hj2 _) ?_
          by_cases hz : bt s 0 = 48
          · have hV : numV 10 s = none := by
              unfold numV
              by_cases h20 : 20 < s.size
              · rw [if_pos (Or.inr (Or.inl h20))]
              · rw [if_neg (by omega), if_pos ⟨rfl, h1, hz⟩]
            rw [hV, if_pos (by simpa using hz)]; rfl
          · rw [if_neg (by simpa using hz), numV_refN10 s h0 (fun h => hz h.2)]
        · simp only [if_neg (show ¬ (s.size : Int) > 1 by omega)]
          refine evc (hj2 false) ?_
          rw [if_neg (by decide), numV_refN10 s h0 (fun h => h1 h.1)]
    | true =>
      have h2 := (cutN_true hb).2
      have hN : numS s = numV 16 (s.extract 2 s.size) := by unfold numS cutN; rw [hb]; rfl
      rw [hN]
      simp only [doorwardref14_Number.j0, if_true, if_pos (show 2 ≤ (s.size : Int) by omega)]
      have hr : (s.extract 2 s.size).size ≤ 1000000 := by simp; omega
      generalize s.extract 2 s.size = r at hr ⊢
      by_cases h16 : 16 < r.size
      · have hV : numV 16 r = none := by unfold numV; rw [if_pos (Or.inr (Or.inr ⟨rfl, h16⟩))]
        rw [hV]
        simp only [if_pos (show (r.size : Int) > 16 by omega)]
        exact now rfl
      · simp only [if_neg (show ¬ (r.size : Int) > 16 by omega)]
        apply succ
        by_cases h0 : r.size = 0
        · have hV : numV 16 r = none := by unfold numV; rw [if_pos (Or.inl h0)]
          rw [hV]
          simp only [doorwardref14_Number.j1, if_pos ((nil_iff r).2 h0)]
          apply succ
          simp only [doorwardref14_Number.j2, if_true]
          exact now rfl
        · simp only [doorwardref14_Number.j1, if_neg (show ¬ r.toList = [] from fun h => h0 ((nil_iff r).1 h)), if_neg (show ¬ (16 : Int) = 10 by decide)]
          apply succ
          simp only [doorwardref14_Number.j2, if_neg (show ¬ (false = true) by decide)]
          rw [← numV_refN16 r h0 h16]
          exact refN_l0 16 (Or.inr rfl) r hr r.size 0 0 (by omega) (by omega)
  unfold doorwardref14_Number.f
  have e2 : (⟨#[48, 120]⟩ : ByteArray).toList = ([48, 120] : List UInt8) := by rw [Lib.toList_data]
  by_cases h2 : (s.size : Int) ≥ 2
  · simp only [if_pos h2, if_pos (show (0 : Int) ≤ 2 by decide), if_pos (show 2 ≤ (s.size : Int) by omega)]
    apply key
    unfold preS
    have e : (⟨#[48, 120]⟩ : ByteArray).size = 2 := rfl
    rw [e2, e]
    simp
    omega
  · simp only [if_neg h2]
    apply key
    unfold preS
    have e : (⟨#[48, 120]⟩ : ByteArray).size = 2 := rfl
    rw [e]
    simp
    omega

/-! ### the reference's tokens -/
theorem end_ev (s : ByteArray) (hs : s.size ≤ 1000000) : ∀ (d i : Nat), i + d = s.size → Ev (fun k => doorwardref14_end.l0 k s (i : Int)) ((i + runS eitS s d i : Nat) : Int) := by
  intro d
  induction d with
  | zero =>
    intro i hi
    apply succ
    simp only [doorwardref14_end.l0, if_neg (show ¬ (i : Int) < (s.size : Int) by omega)]
    exact now rfl
  | succ d ih =>
    intro i hi
    apply succ
    simp only [doorwardref14_end.l0, if_pos (show (i : Int) < (s.size : Int) by omega), if_pos (show 0 ≤ (i : Int) by omega), rletter_f, rdigit_f, Option.bind_some, w1 (show i < 9223372036854775807 by omega)]
    rw [runS]
    unfold eitS
    have ih1 := ih (i + 1) (by omega)
    have e : ((i + 1 + runS eitS s d (i + 1) : Nat) : Int) = ((i + (runS eitS s d (i + 1) + 1) : Nat) : Int) := by omega
    unfold eitS at ih1 e
    cases h1 : letS (bt s i) with
    | true =>
      simp only [Bool.true_or, if_true]
      exact evc ih1 e
    | false =>
      cases h2 : dS (bt s i) with
      | true =>
        simp only [Bool.or_true, if_true, if_neg (show ¬ (false = true) by decide)]
        exact evc ih1 e
      | false =>
        simp only [Bool.or_self, if_neg (show ¬ (false = true) by decide)]
        exact now rfl
theorem remark_ev (s : ByteArray) (hs : s.size ≤ 1000000) : ∀ (d i : Nat), i + d = s.size → Ev (fun k => doorwardref14_Token.l0 k s (i : Int)) ((-1 : Int), ((i + runS notNl s d i : Nat) : Int)) := by
  intro d
  induction d with
  | zero =>
    intro i hi
    apply succ
    simp only [doorwardref14_Token.l0, if_neg (show ¬ (i : Int) < (s.size : Int) by omega)]
    exact now rfl
  | succ d ih =>
    intro i hi
    apply succ
    simp only [doorwardref14_Token.l0, if_pos (show (i : Int) < (s.size : Int) by omega), if_pos (show 0 ≤ (i : Int) by omega), w1 (show i < 9223372036854775807 by omega)]
    rw [runS]
    by_cases h : bt s i = 10
    · simp only [if_pos h]
      rw [if_neg (by simp [notNl, h])]
      exact now rfl
    · simp only [if_neg h]
      rw [if_pos (by simp [notNl, h])]
      exact evc (ih (i + 1) (by omega)) (by rw [show i + 1 + runS notNl s d (i + 1) = i + (runS notNl s d (i + 1) + 1) by omega])
/-- A sign's text at a place: by its bytes. -/
theorem preS_1 (s : ByteArray) (p : Nat) (hp : p < s.size) (c : UInt8) : preS (s.extract p s.size) ⟨#[c]⟩ = (bt s p == (c.toNat : Int)) := by
  have hl : p < s.data.toList.length := by rw [← Lib.size_eq]; exact hp
  unfold preS
  have e1 : (⟨#[c]⟩ : ByteArray).size = 1 := rfl
  have e2 : (⟨#[c]⟩ : ByteArray).toList = [c] := by rw [Lib.toList_data]
  rw [e1, e2, Lib.extract_toList, Lib.extract_data, List.drop_zero]
  have ht : (s.data.toList.drop p).take (s.size - p) = s.data.toList.drop p := by
    rw [List.take_of_length_le]; rw [List.length_drop, ← Lib.size_eq]; exact Nat.le_refl _
  rw [ht, drop_cons hl, bt_get s p _ (List.getElem?_eq_getElem hl)]
  simp
  rw [Bool.eq_iff_iff]
  simp
  constructor
  · rintro ⟨_, h⟩; rw [h]
  · intro h; exact ⟨by omega, UInt8.toNat_inj.1 (by omega)⟩
theorem preS_2 (s : ByteArray) (p : Nat) (hp : p < s.size) (c d : UInt8) : preS (s.extract p s.size) ⟨#[c, d]⟩ = (bt s p == (c.toNat : Int) && (decide (p + 1 < s.size) && bt s ((p + 1 : Nat) : Int) == (d.toNat : Int))) := by
  have hl : p < s.data.toList.length := by rw [← Lib.size_eq]; exact hp
  unfold preS
  have e1 : (⟨#[c, d]⟩ : ByteArray).size = 2 := rfl
  have e2 : (⟨#[c, d]⟩ : ByteArray).toList = [c, d] := by rw [Lib.toList_data]
  rw [e1, e2, Lib.extract_toList, Lib.extract_data, List.drop_zero]
  have ht : (s.data.toList.drop p).take (s.size - p) = s.data.toList.drop p := by
    rw [List.take_of_length_le]; rw [List.length_drop, ← Lib.size_eq]; exact Nat.le_refl _
  rw [ht, drop_cons hl, bt_get s p _ (List.getElem?_eq_getElem hl)]
  by_cases h2 : p + 1 < s.size
  · have hl2 : p + 1 < s.data.toList.length := by rw [← Lib.size_eq]; exact h2
    rw [drop_cons hl2, bt_get s (p + 1) _ (List.getElem?_eq_getElem hl2)]
    simp
    rw [Bool.eq_iff_iff]
    simp
    constructor
    · rintro ⟨_, h, h'⟩; rw [h, h']; exact ⟨rfl, h2, rfl⟩
    · rintro ⟨h, _, h'⟩; exact ⟨by omega, UInt8.toNat_inj.1 (by omega), UInt8.toNat_inj.1 (by omega)⟩
  · rw [List.drop_of_length_le (by rw [← Lib.size_eq]; omega)]
    simp [h2]

def sgS (c : Int) (two : Bool) : Nat :=
  if two = true ∧ (c = 61 ∨ c = 33 ∨ c = 60 ∨ c = 62) then 2 else if c = 60 ∨ c = 62 ∨ c = 38 ∨ c = 40 ∨ c = 41 then 1 else 0
theorem sign_size (s : ByteArray) (p : Nat) (hp : p < s.size) : (signFrom (s.extract p s.size) signsL).size = sgS (bt s p) (decide (p + 1 < s.size) && bt s ((p + 1 : Nat) : Int) == 61) := by
  simp only [signsL, signFrom, preS_1 s p hp, preS_2 s p hp]
  generalize bt s (p : Int) = c
  have e61 : ((61 : UInt8).toNat : Int) = 61 := rfl
  have e33 : ((33 : UInt8).toNat : Int) = 33 := rfl
  have e60 : ((60 : UInt8).toNat : Int) = 60 := rfl
  have e62 : ((62 : UInt8).toNat : Int) = 62 := rfl
  have e38 : ((38 : UInt8).toNat : Int) = 38 := rfl
  have e40 : ((40 : UInt8).toNat : Int) = 40 := rfl
  have e41 : ((41 : UInt8).toNat : Int) = 41 := rfl
  rw [e61, e33, e60, e62, e38, e40, e41]
  generalize (decide (p + 1 < s.size) && bt s ((p + 1 : Nat) : Int) == 61) = two
  unfold sgS
  cases two with
  | true =>
    simp only [Bool.and_true, beq_iff_eq, true_and]
    by_cases h1 : c = 61
    · rw [if_pos h1, if_pos (Or.inl h1)]; rfl
    rw [if_neg h1]
    by_cases h2 : c = 33
    · rw [if_pos h2, if_pos (by omega)]; rfl
    rw [if_neg h2]
    by_cases h3 : c = 60
    · rw [if_pos h3, if_pos (by omega)]; rfl
    rw [if_neg h3]
    by_cases h4 : c = 62
    · rw [if_pos h4, if_pos (by omega)]; rfl
    rw [if_neg h4, if_neg h3, if_neg h4, if_neg (show ¬ (c = 61 ∨ c = 33 ∨ c = 60 ∨ c = 62) by omega)]
    by_cases h5 : c = 38
    · rw [if_pos h5, if_pos (by omega)]; rfl
    rw [if_neg h5]
    by_cases h6 : c = 40
    · rw [if_pos h6, if_pos (by omega)]; rfl
    rw [if_neg h6]
    by_cases h7 : c = 41
    · rw [if_pos h7, if_pos (by omega)]; rfl
    rw [if_neg h7, if_neg (by omega)]; rfl
  | false =>
    simp only [Bool.and_false, beq_iff_eq, false_and, if_neg (show ¬ (false = true) by decide)]
    by_cases h3 : c = 60
    · rw [if_pos h3, if_neg (by simp), if_pos (by omega)]; rfl
    rw [if_neg h3]
    by_cases h4 : c = 62
    · rw [if_pos h4, if_neg (by simp), if_pos (by omega)]; rfl
    rw [if_neg h4]
    by_cases h5 : c = 38
    · rw [if_pos h5, if_neg (by simp), if_pos (by omega)]; rfl
    rw [if_neg h5]
    by_cases h6 : c = 40
    · rw [if_pos h6, if_neg (by simp), if_pos (by omega)]; rfl
    rw [if_neg h6]
    by_cases h7 : c = 41
    · rw [if_pos h7, if_neg (by simp), if_pos (by omega)]; rfl
    rw [if_neg h7, if_neg (by simp), if_neg (by omega)]; rfl
theorem rsign_ev (s : ByteArray) (p : Nat) (hs : s.size ≤ 1000000) (hp : p < s.size) : Ev (fun k => doorwardref14_sign.f k s (p : Int)) (((signFrom (s.extract p s.size) signsL).size : Nat) : Int) := by
  rw [sign_size s p hp]
  have hj1 : ∀ (c : Int) (b two : Bool), b = (two && decide (c = 61 ∨ c = 33 ∨ c = 60 ∨ c = 62)) → Ev (fun k => doorwardref14_sign.j1 k c b) ((sgS c two : Nat) : Int) := by
    intro c b two hb
    apply succ
    unfold sgS
    cases b with
    | true =>
      simp only [doorwardref14_sign.j1, if_true]
      have := hb.symm
      simp only [Bool.and_eq_true, decide_eq_true_eq] at this
      rw [if_pos this]
      exact now rfl
    | false =>
      have hn : ¬ (two = true ∧ (c = 61 ∨ c = 33 ∨ c = 60 ∨ c = 62)) := by
        intro h
        have := hb.symm
        rw [h.1, decide_eq_true h.2] at this
        exact absurd this (by decide)
      rw [if_neg hn]
      simp only [doorwardref14_sign.j1, if_neg (show ¬ (false = true) by decide)]
      by_cases h3 : c = 60
      · simp only [if_pos h3]; rw [if_pos (by omega)]; exact now rfl
      simp only [if_neg h3]
      by_cases h4 : c = 62
      · simp only [if_pos h4]; rw [if_pos (by omega)]; exact now rfl
      simp only [if_neg h4]
      by_cases h5 : c = 38
      · simp only [if_pos h5]; rw [if_pos (by omega)]; exact now rfl
      simp only [if_neg h5]
      by_cases h6 : c = 40
      · simp only [if_pos h6]; rw [if_pos (by omega)]; exact now rfl
      simp only [if_neg h6]
      by_cases h7 : c = 41
      · simp only [if_pos h7]; rw [if_pos (by omega)]; exact now rfl
      simp only [if_neg h7]
      rw [if_neg (by omega)]; exact now rfl
  have hj0 : ∀ (c : Int) (two : Bool), Ev (fun k => doorwardref14_sign.j0 k c two) ((sgS c two : Nat) : Int) := by
    intro c two
    apply succ
    cases two with
    | false =>
      simp only [doorwardref14_sign.j0, if_neg (show ¬ (false = true) by decide)]
      exact hj1 c false false rfl
    | true =>
      simp only [doorwardref14_sign.j0, if_true]
      by_cases h1 : c = 61
      · simp only [if_pos h1]; exact hj1 c true true (by simp [h1])
      simp only [if_neg h1]
      by_cases h2 : c = 33
      · simp only [if_pos h2]; exact hj1 c true true (by simp [h2])
      simp only [if_neg h2]
      by_cases h3 : c = 60
      · simp only [if_pos h3]; exact hj1 c true true (by simp [h3])
      simp only [if_neg h3]
      exact hj1 c (c == 62) true (by simp [h1, h2, h3]; rw [Bool.eq_iff_iff]; simp)
  simp only [doorwardref14_sign.f, if_pos (show 0 ≤ (p : Int) by omega), if_pos (show (p : Int) < (s.size : Int) by omega), w1 (show p < 9223372036854775807 by omega)]
  by_cases h : p + 1 < s.size
  · simp only [if_pos (show ((p + 1 : Nat) : Int) < (s.size : Int) by omega), if_pos (show 0 ≤ ((p + 1 : Nat) : Int) by omega)]
    rw [decide_eq_true h, Bool.true_and]
    exact hj0 _ _
  · simp only [if_neg (show ¬ ((p + 1 : Nat) : Int) < (s.size : Int) by omega)]
    rw [decide_eq_false h, Bool.false_and]
    exact hj0 _ _
def tokR (p : Nat) : Option (Nat × Option Int) → Int × Int
  | none => (-2, p)
  | some (n, none) => (-1, ((p + n : Nat) : Int))
  | some (n, some k) => (k, ((p + n : Nat) : Int))
theorem token_ev (s : ByteArray) (p : Nat) (hs : s.size ≤ 1000000) (hp : p < s.size) : Ev (fun k => doorwardref14_Token.f k s (p : Int)) (tokR p (stepL s p)) := by
  have hend := end_ev s hs (s.size - p) p (by omega)
  have hle := runS_le eitS s (s.size - p) p
  have hj : ∀ b : Bool, b = decide (bt s p = 32 ∨ bt s p = 9 ∨ bt s p = 13) → Ev (fun k => doorwardref14_Token.j0 k s (p : Int) (bt s p) b) (tokR p (stepL s p)) := by
    intro b hb
    apply succ
    unfold stepL
    cases b with
    | true =>
      simp only [doorwardref14_Token.j0, if_true]
      rw [if_pos (of_decide_eq_true hb.symm)]
      exact now (by simp only [tokR, w1 (show p < 9223372036854775807 by omega)])
    | false =>
      simp only [doorwardref14_Token.j0, if_neg (show ¬ (false = true) by decide)]
      rw [if_neg (of_decide_eq_false hb.symm)]
      by_cases h1 : bt s p = 35
      · simp only [if_pos h1]; exact remark_ev s hs _ p (by omega)
      simp only [if_neg h1]
      by_cases h2 : bt s p = 10
      · simp only [if_pos h2]; exact now (by simp only [tokR, w1 (show p < 9223372036854775807 by omega)])
      simp only [if_neg h2, rletter_f, rdigit_f, Option.bind_some]
      cases h3 : letS (bt s p) with
      | true =>
        simp only [if_true]
        exact Ev.bind hend (now rfl)
      | false =>
        simp only [if_neg (show ¬ (false = true) by decide)]
        cases h4 : dS (bt s p) with
        | true =>
          simp only [if_true]
          refine Ev.bind hend ?_
          simp only [if_pos (show 0 ≤ (p : Int) by omega), if_pos (show (p : Int) ≤ ((p + runS eitS s (s.size - p) p : Nat) : Int) by omega), if_pos (show ((p + runS eitS s (s.size - p) p : Nat) : Int) ≤ (s.size : Int) by omega), Int.toNat_natCast]
          refine Ev.bind (number_ev _ (by simp; omega)) ?_
          cases numS (s.extract p (p + runS eitS s (s.size - p) p)) with
          | none => simp only [numR, if_neg (show ¬ (false = true) by decide), Option.isSome_none]; exact now rfl
          | some u => simp only [numR, if_true, Option.isSome_some]; exact now rfl
        | false =>
          simp only [if_neg (show ¬ (false = true) by decide)]
          refine Ev.bind (rsign_ev s p hs hp) ?_
          have hsz : (signFrom (s.extract p s.size) signsL).size ≤ 2 := by rw [sign_size s p hp]; unfold sgS; split <;> (try split) <;> omega
          by_cases h5 : (signFrom (s.extract p s.size) signsL).size = 0
          · simp only [if_neg (show ¬ (((signFrom (s.extract p s.size) signsL).size : Nat) : Int) > 0 by omega)]
            rw [if_pos h5]; exact now rfl
          · simp only [if_pos (show (((signFrom (s.extract p s.size) signsL).size : Nat) : Int) > 0 by omega)]
            rw [if_neg h5]
            refine now ?_
            simp only [tokR]
            rw [wr (by omega) (by omega)]; simp
  simp only [doorwardref14_Token.f, if_pos (show 0 ≤ (p : Int) by omega), if_pos (show (p : Int) < (s.size : Int) by omega)]
  by_cases h1 : bt s p = 32
  · simp only [if_pos h1]
    exact hj true (by simp [h1])
  simp only [if_neg h1]
  by_cases h2 : bt s p = 9
  · simp only [if_pos h2]
    exact hj true (by simp [h2])
  simp only [if_neg h2]
  exact hj _ (by simp [h1, h2]; rw [Bool.eq_iff_iff]; simp)
theorem stepL_kind {s : ByteArray} {p n : Nat} {k : Int} (h : stepL s p = some (n, some k)) : 1 ≤ k ∧ k ≤ 4 := by
  unfold stepL at h
  split at h
  · cases h
  split at h
  · cases h
  split at h
  · cases h; omega
  split at h
  · cases h; omega
  split at h
  · split at h
    · cases h; omega
    · cases h
  split at h
  · cases h
  · cases h; omega
theorem rlex_ev (s : ByteArray) (hs : s.size ≤ 2000) : ∀ (d p : Nat) (acc : List S34), s.size - p ≤ d → p ≤ s.size → acc.length ≤ p → Ev (fun k => doorwardref14_Lex.l0 k s acc (p : Int)) (lexR s (ahead acc (LX s p))) := by
  intro d
  induction d with
  | zero =>
    intro p acc hd hp ha
    have hps : p = s.size := by omega
    apply succ
    simp only [doorwardref14_Lex.l0, if_neg (show ¬ (p : Int) < (s.size : Int) by omega), if_pos (show acc.length < 4398046511104 by omega)]
    rw [LX_end s (by omega)]
    refine now ?_
    have : s.extract s.size s.size = ⟨#[]⟩ := by apply ByteArray.ext; simp
    simp [ahead, lexR, this]; rfl
  | succ d ih =>
    intro p acc hd hp ha
    by_cases hlt : p < s.size
    · apply succ
      simp only [doorwardref14_Lex.l0, if_pos (show (p : Int) < (s.size : Int) by omega)]
      refine Ev.bind (token_ev s p (by omega) hlt) ?_
      cases hst : stepL s p with
      | none =>
        simp only [tokR, if_true]
        rw [ahead_none hlt hst]
        exact now rfl
      | some x =>
        obtain ⟨n, kk⟩ := x
        have hn := stepL_pos hlt hst
        cases kk with
        | none =>
          simp only [tokR, if_neg (show ¬ (-1 : Int) = -2 by decide), if_neg (show ¬ (-1 : Int) ≥ 0 by decide)]
          rw [ahead_pass hlt hst]
          exact ih (p + n) acc (by omega) hn.2 (by omega)
        | some kd =>
          have hkd : 0 ≤ kd := by have := stepL_kind hst; omega
          simp only [tokR, if_neg (show ¬ kd = -2 by omega), if_pos (show kd ≥ 0 from hkd), if_pos (show 0 ≤ (p : Int) by omega), if_pos (show (p : Int) ≤ ((p + n : Nat) : Int) by omega), if_pos (show ((p + n : Nat) : Int) ≤ (s.size : Int) by omega), if_pos (show acc.length < 4398046511104 by omega), Int.toNat_natCast]
          rw [ahead_step hlt hst]
          exact ih (p + n) _ (by omega) hn.2 (by simp; omega)
    · have hps : p = s.size := by omega
      apply succ
      simp only [doorwardref14_Lex.l0, if_neg (show ¬ (p : Int) < (s.size : Int) by omega), if_pos (show acc.length < 4398046511104 by omega)]
      rw [LX_end s (by omega)]
      refine now ?_
      have : s.extract s.size s.size = ⟨#[]⟩ := by apply ByteArray.ext; simp
      simp [ahead, lexR, this]; rfl
theorem rLex_ev (s : ByteArray) : Ev (fun k => doorwardref14_Lex.f k s) (lexS s) := by
  by_cases h : 2000 < s.size
  · simp only [doorwardref14_Lex.f, if_pos (show (s.size : Int) > 2000 by omega)]
    exact now (by unfold lexS; rw [if_pos h])
  · simp only [doorwardref14_Lex.f, if_neg (show ¬ (s.size : Int) > 2000 by omega)]
    rw [lexS_LX s h]
    exact rlex_ev s (by omega) s.size 0 [] (by omega) (by omega) (by simp)
theorem like_l0 (a : List S34) (ha : a.length ≤ 1000000) : ∀ (d i : Nat), i + d = a.length → Ev (fun k => doorwardref14_Like.l0 k a a (a.length : Int) (i : Int)) true := by
  intro d
  induction d with
  | zero =>
    intro i hi
    apply succ
    simp only [doorwardref14_Like.l0, if_neg (show ¬ (i : Int) < (a.length : Int) by omega)]
    exact now rfl
  | succ d ih =>
    intro i hi
    apply succ
    simp only [doorwardref14_Like.l0, if_pos (show (i : Int) < (a.length : Int) by omega), if_pos (show 0 ≤ (i : Int) by omega), w1 (show i < 9223372036854775807 by omega), beq_self_eq_true, Bool.not_true, Bool.or_self, if_neg (show ¬ (false = true) by decide)]
    exact ih (i + 1) (by omega)
theorem like_ev (a : List S34) (ha : a.length ≤ 1000000) : Ev (fun k => doorwardref14_Like.f k a a) true := by
  simp only [doorwardref14_Like.f, if_true]
  exact like_l0 a ha a.length 0 (by omega)
theorem ahead_len (s : ByteArray) : ∀ (d p : Nat), s.size - p ≤ d → p ≤ s.size → ∀ l, LX s p = .ok l → l.length ≤ s.size - p := by
  intro d
  induction d with
  | zero =>
    intro p hd hp l h
    rw [LX_end s (by omega)] at h
    cases h; exact Nat.zero_le _
  | succ d ih =>
    intro p hd hp l h
    by_cases hlt : p < s.size
    · rw [LX_step s hlt] at h
      cases hst : stepL s p with
      | none => rw [hst] at h; cases h
      | some x =>
        obtain ⟨n, kk⟩ := x
        have hn := stepL_pos hlt hst
        rw [hst] at h
        cases kk with
        | none =>
          have := ih (p + n) (by omega) hn.2 l h
          omega
        | some kd =>
          simp only at h
          cases hr : LX s (p + n) with
          | error e => rw [hr] at h; cases h
          | ok m =>
            rw [hr] at h
            cases h
            have := ih (p + n) (by omega) hn.2 m hr
            simp; omega
    · rw [LX_end s (by omega)] at h
      cases h; exact Nat.zero_le _
theorem lexS_len (s : ByteArray) : (lexS s).1.length ≤ s.size + 1 := by
  unfold lexS
  split
  · simp
  · have := ahead_len s s.size 0 (by omega) (by omega)
    unfold LX at this
    rw [Nat.sub_zero] at this
    cases h : lexG s s.size 0 with
    | error e => simp [lexR]
    | ok l => have := this l h; simp [lexR]; omega
theorem lexCuts_law (a0 a1 : ByteArray) : Ev (fun k => doorwardlaw14_LexCuts.f k a0 a1) true := by
  have h1 := sh_le a0
  have h2 := sh_le a1
  have e1 : lex_Lex.f (sh a0) = some (lexS (sh a0)) := rfl
  have e2 : lex_Number.f (sh a1) = some (numR (numS (sh a1))) := by unfold lex_Number.f; rw [if_pos (by omega)]
  simp only [doorwardlaw14_LexCuts.f, short_f, e1, e2, alive_f, Option.bind_some, if_true]
  refine Ev.bind (rLex_ev _) ?_
  refine Ev.bind (number_ev _ (by omega)) ?_
  refine Ev.bind (like_ev _ (by have := lexS_len (sh a0); omega)) ?_
  simp only [if_true, beq_self_eq_true]
  exact now rfl

end Go.Proofs.YtdfjjimmnbijmaaDoor.LA

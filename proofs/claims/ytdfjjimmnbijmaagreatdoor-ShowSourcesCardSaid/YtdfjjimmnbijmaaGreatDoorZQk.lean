import Derived.Test.YtdfjjimmnbijmaaGreatDoorZQ11
namespace Go.Proofs.YtdfjjimmnbijmaaGreatDoor.ZQ
open Go.RowKit Go.Proofs.YtdfjjimmnbijmaaGreatDoorW.PrintWords Go.Proofs.YtdfjjimmnbijmaaGreatDoorW.PrintLast Go.Proofs.YtdfjjimmnbijmaaGreatDoorW.PrintMore Go.Proofs.YtdfjjimmnbijmaaGreatDoor.Base
attribute [local go_sem] max2_int min2_int max_two min_two max_three min_three max_four min_four
set_option linter.unusedVariables false
set_option linter.unusedSimpArgs false
/-- A sign's text at a place: by its bytes. -/
theorem preS_1 (s : ByteArray) (p : Nat) (hp : p < s.size) (c : UInt8) : preS (s.extract p s.size) ⟨#[c]⟩ = (bt s p == (c.toNat : Int)) := by
  have hl : p < s.data.toList.length := by rw [← Lib.size_eq]; exact hp
  unfold preS
  have e1 : (⟨#[c]⟩ : ByteArray).size = 1 := rfl
  have e2 : (⟨#[c]⟩ : ByteArray).toList = [c] := by rw [Lib.toList_data]
  rw [e1, e2, Lib.extract_toList, Lib.extract_data, List.drop_zero]
  have ht : (s.data.toList.drop p).take (s.size - p) = s.data.toList.drop p := by
    rw [List.take_of_length_le]; rw [List.length_drop, ← Lib.size_eq]; exact Nat.le_refl _
  rw [ht, drop_cons hl, bt_get s p _ (List.getElem?_eq_getElem hl)]
  simp
  rw [Bool.eq_iff_iff]
  simp
  constructor
  · rintro ⟨_, h⟩; rw [h]
  · intro h; exact ⟨by omega, UInt8.toNat_inj.1 (by omega)⟩
theorem preS_2 (s : ByteArray) (p : Nat) (hp : p < s.size) (c d : UInt8) : preS (s.extract p s.size) ⟨#[c, d]⟩ = (bt s p == (c.toNat : Int) && (decide (p + 1 < s.size) && bt s ((p + 1 : Nat) : Int) == (d.toNat : Int))) := by
  have hl : p < s.data.toList.length := by rw [← Lib.size_eq]; exact hp
  unfold preS
  have e1 : (⟨#[c, d]⟩ : ByteArray).size = 2 := rfl
  have e2 : (⟨#[c, d]⟩ : ByteArray).toList = [c, d] := by rw [Lib.toList_data]
  rw [e1, e2, Lib.extract_toList, Lib.extract_data, List.drop_zero]
  have ht : (s.data.toList.drop p).take (s.size - p) = s.data.toList.drop p := by
    rw [List.take_of_length_le]; rw [List.length_drop, ← Lib.size_eq]; exact Nat.le_refl _
  rw [ht, drop_cons hl, bt_get s p _ (List.getElem?_eq_getElem hl)]
  by_cases h2 : p + 1 < s.size
  · have hl2 : p + 1 < s.data.toList.length := by rw [← Lib.size_eq]; exact h2
    rw [drop_cons hl2, bt_get s (p + 1) _ (List.getElem?_eq_getElem hl2)]
    simp
    rw [Bool.eq_iff_iff]
    simp
    constructor
    · rintro ⟨_, h, h'⟩; rw [h, h']; exact ⟨rfl, h2, rfl⟩
    · rintro ⟨h, _, h'⟩; exact ⟨by omega, UInt8.toNat_inj.1 (by omega), UInt8.toNat_inj.1 (by omega)⟩
  · rw [List.drop_of_length_le (by rw [← Lib.size_eq]; omega)]
    simp [h2]

def sgS (c : Int) (two : Bool) : Nat :=
  if two = true ∧ (c = 61 ∨ c = 33 ∨ c = 60 ∨ c = 62) then 2 else if c = 60 ∨ c = 62 ∨ c = 38 ∨ c = 40 ∨ c = 41 then 1 else 0
theorem sign_size (s : ByteArray) (p : Nat) (hp : p < s.size) : (signFrom (s.extract p s.size) signsL).size = sgS (bt s p) (decide (p + 1 < s.size) && bt s ((p + 1 : Nat) : Int) == 61) := by
  simp only [signsL, signFrom, preS_1 s p hp, preS_2 s p hp]
  generalize bt s (p : Int) = c
  have e61 : ((61 : UInt8).toNat : Int) = 61 := rfl
  have e33 : ((33 : UInt8).toNat : Int) = 33 := rfl
  have e60 : ((60 : UInt8).toNat : Int) = 60 := rfl
  have e62 : ((62 : UInt8).toNat : Int) = 62 := rfl
  have e38 : ((38 : UInt8).toNat : Int) = 38 := rfl
  have e40 : ((40 : UInt8).toNat : Int) = 40 := rfl
  have e41 : ((41 : UInt8).toNat : Int) = 41 := rfl
  rw [e61, e33, e60, e62, e38, e40, e41]
  generalize (decide (p + 1 < s.size) && bt s ((p + 1 : Nat) : Int) == 61) = two
  unfold sgS
  cases two with
  | true =>
    simp only [Bool.and_true, beq_iff_eq, true_and]
    by_cases h1 : c = 61
    · rw [if_pos h1, if_pos (Or.inl h1)]; rfl
    rw [if_neg h1]
    by_cases h2 : c = 33
    · rw [if_pos h2, if_pos (by omega)]; rfl
    rw [if_neg h2]
    by_cases h3 : c = 60
    · rw [if_pos h3, if_pos (by omega)]; rfl
    rw [if_neg h3]
    by_cases h4 : c = 62
    · rw [if_pos h4, if_pos (by omega)]; rfl
    rw [if_neg h4, if_neg h3, if_neg h4, if_neg (show ¬ (c = 61 ∨ c = 33 ∨ c = 60 ∨ c = 62) by omega)]
    by_cases h5 : c = 38
    · rw [if_pos h5, if_pos (by omega)]; rfl
    rw [if_neg h5]
    by_cases h6 : c = 40
    · rw [if_pos h6, if_pos (by omega)]; rfl
    rw [if_neg h6]
    by_cases h7 : c = 41
    · rw [if_pos h7, if_pos (by omega)]; rfl
    rw [if_neg h7, if_neg (by omega)]; rfl
  | false =>
    simp only [Bool.and_false, beq_iff_eq, false_and, if_neg (show ¬ (false = true) by decide)]
    by_cases h3 : c = 60
    · rw [if_pos h3, if_neg (by simp), if_pos (by omega)]; rfl
    rw [if_neg h3]
    by_cases h4 : c = 62
    · rw [if_pos h4, if_neg (by simp), if_pos (by omega)]; rfl
    rw [if_neg h4]
    by_cases h5 : c = 38
    · rw [if_pos h5, if_neg (by simp), if_pos (by omega)]; rfl
    rw [if_neg h5]
    by_cases h6 : c = 40
    · rw [if_pos h6, if_neg (by simp), if_pos (by omega)]; rfl
    rw [if_neg h6]
    by_cases h7 : c = 41
    · rw [if_pos h7, if_neg (by simp), if_pos (by omega)]; rfl
    rw [if_neg h7, if_neg (by simp), if_neg (by omega)]; rfl
theorem stepL_kind {s : ByteArray} {p n : Nat} {k : Int} (h : stepL s p = some (n, some k)) : 1 ≤ k ∧ k ≤ 4 := by
  unfold stepL at h
  split at h
  · cases h
  split at h
  · cases h
  split at h
  · cases h; omega
  split at h
  · cases h; omega
  split at h
  · split at h
    · cases h; omega
    · cases h
  split at h
  · cases h
  · cases h; omega
/-! ### the lexer over a row of bytes: what is read at a place hangs on what stands from there on alone -/
def mkB (l : List UInt8) : ByteArray := ⟨l.toArray⟩
theorem mkB_data (l : List UInt8) : (mkB l).data.toList = l := by simp [mkB]
theorem mkB_size (l : List UInt8) : (mkB l).size = l.length := by rw [Lib.size_eq, mkB_data]
theorem ba_ext {a b : ByteArray} (h : a.data.toList = b.data.toList) : a = b := by
  apply ByteArray.ext; apply Array.ext'; exact h
theorem mkB_of (s : ByteArray) : mkB s.data.toList = s := ba_ext (mkB_data _)
theorem extract_mkB (s : ByteArray) (p n : Nat) : s.extract p (p + n) = mkB ((s.data.toList.drop p).take n) := by
  apply ba_ext
  rw [mkB_data, Lib.extract_data, Nat.add_sub_cancel_left]
def runB (p : Int → Bool) (l : List UInt8) : Nat := (l.takeWhile fun c => p c.toNat).length
theorem runS_B (p : Int → Bool) (s : ByteArray) : ∀ d i, i + d = s.size → runS p s d i = runB p (s.data.toList.drop i) := by
  intro d
  induction d with
  | zero =>
    intro i hi
    rw [List.drop_of_length_le (by rw [← Lib.size_eq]; omega)]; rfl
  | succ d ih =>
    intro i hi
    have hil : i < s.data.toList.length := by rw [← Lib.size_eq]; omega
    rw [runS, drop_cons hil, bt_get s i _ (List.getElem?_eq_getElem hil), ih (i + 1) (by omega)]
    unfold runB
    rw [List.takeWhile_cons]
    split
    · rename_i h; simp [h]
    · rename_i h; simp [h]
def stepB : List UInt8 → Option (Nat × Option Int)
  | [] => none
  | c :: r =>
    if c.toNat = 32 ∨ c.toNat = 9 ∨ c.toNat = 13 then some (1, none)
    else if c.toNat = 35 then some (runB notNl (c :: r), none)
    else if c.toNat = 10 then some (1, some 4)
    else if letS c.toNat then some (runB eitS (c :: r), some 1)
    else if dS c.toNat then (if (numS (mkB ((c :: r).take (runB eitS (c :: r))))).isSome then some (runB eitS (c :: r), some 2) else none)
    else if sgS c.toNat (r.head? == some 61) = 0 then none else some (sgS c.toNat (r.head? == some 61), some 3)
theorem head_two (s : ByteArray) (p : Nat) : (decide (p + 1 < s.size) && bt s ((p + 1 : Nat) : Int) == 61) = ((s.data.toList.drop (p + 1)).head? == some 61) := by
  by_cases h : p + 1 < s.size
  · have hl : p + 1 < s.data.toList.length := by rw [← Lib.size_eq]; exact h
    rw [drop_cons hl, bt_get s (p + 1) _ (List.getElem?_eq_getElem hl), decide_eq_true h, Bool.true_and, List.head?_cons]
    generalize s.data.toList[p + 1] = c
    rw [Bool.eq_iff_iff, beq_iff_eq, beq_iff_eq, Option.some.injEq]
    have e : (61 : UInt8).toNat = 61 := rfl
    rw [← UInt8.toNat_inj, e]
    omega
  · rw [decide_eq_false h, Bool.false_and, List.drop_of_length_le (by rw [← Lib.size_eq]; omega)]
    rfl
theorem stepL_B (s : ByteArray) (p : Nat) (hp : p < s.size) : stepL s p = stepB (s.data.toList.drop p) := by
  have hpl : p < s.data.toList.length := by rw [← Lib.size_eq]; exact hp
  have hr1 := runS_B notNl s (s.size - p) p (by omega)
  have hr2 := runS_B eitS s (s.size - p) p (by omega)
  have hsg := sign_size s p hp
  rw [head_two] at hsg
  unfold stepL
  rw [hr1, hr2, hsg, extract_mkB]
  have hd := drop_cons hpl
  rw [bt_get s p _ (List.getElem?_eq_getElem hpl)]
  rw [hd]
  generalize s.data.toList[p] = c
  generalize s.data.toList.drop (p + 1) = r
  have i1 : ((c.toNat : Int) = 32 ∨ (c.toNat : Int) = 9 ∨ (c.toNat : Int) = 13) ↔ (c.toNat = 32 ∨ c.toNat = 9 ∨ c.toNat = 13) := by omega
  have i2 : ((c.toNat : Int) = 35) ↔ c.toNat = 35 := by omega
  have i3 : ((c.toNat : Int) = 10) ↔ c.toNat = 10 := by omega
  simp only [stepB, i1, i2, i3]
def consT (t : S74) : Except Nat (List S74) → Except Nat (List S74)
  | .ok l => .ok (t :: l)
  | .error e => .error e
def lexB : Nat → List UInt8 → Nat → Except Nat (List S74)
  | 0, _, _ => .ok []
  | d + 1, l, o =>
    if l = [] then .ok []
    else match stepB l with
      | none => .error o
      | some (n, none) => lexB d (l.drop n) (o + n)
      | some (n, some k) => consT ⟨k, mkB (l.take n), o⟩ (lexB d (l.drop n) (o + n))
theorem LX_B (s : ByteArray) : ∀ d p, p ≤ s.size → lexG s d p = lexB d (s.data.toList.drop p) p := by
  intro d
  induction d with
  | zero => intro p _; rfl
  | succ d ih =>
    intro p hp
    by_cases hlt : p < s.size
    · have hne : s.data.toList.drop p ≠ [] := by
        intro h
        have := congrArg List.length h
        rw [List.length_drop, ← Lib.size_eq] at this
        simp at this; omega
      rw [lexG, if_pos hlt, lexB, if_neg hne, stepL_B s p hlt]
      cases hst : stepB (s.data.toList.drop p) with
      | none => rfl
      | some x =>
        obtain ⟨n, kk⟩ := x
        have hn := stepL_pos hlt ((stepL_B s p hlt).trans hst)
        have e1 : lexG s d (p + n) = lexB d ((s.data.toList.drop p).drop n) (p + n) := by rw [List.drop_drop]; exact ih (p + n) hn.2
        cases kk with
        | none => exact e1
        | some k =>
          simp only [e1, extract_mkB]
          cases lexB d ((s.data.toList.drop p).drop n) (p + n) <;> rfl
    · have hnil : s.data.toList.drop p = [] := List.drop_of_length_le (by rw [← Lib.size_eq]; omega)
      rw [lexG, if_neg hlt, lexB, if_pos hnil]
theorem stepB_pos {l : List UInt8} {n : Nat} {k : Option Int} (h : stepB l = some (n, k)) : 1 ≤ n ∧ n ≤ l.length := by
  have hne : 0 < l.length := by cases l with | nil => cases h | cons c r => simp
  have := stepL_B (mkB l) 0 (by rw [mkB_size]; exact hne)
  rw [mkB_data, List.drop_zero, h] at this
  have hp := stepL_pos (by rw [mkB_size]; exact hne) this
  rw [mkB_size] at hp
  omega
theorem stepB_kind {l : List UInt8} {n : Nat} {k : Int} (h : stepB l = some (n, some k)) : 1 ≤ k ∧ k ≤ 4 := by
  have hne : 0 < l.length := by cases l with | nil => cases h | cons c r => simp
  have := stepL_B (mkB l) 0 (by rw [mkB_size]; exact hne)
  rw [mkB_data, List.drop_zero, h] at this
  exact stepL_kind this
theorem lexB_fuel : ∀ (d d' : Nat) (l : List UInt8) (o : Nat), l.length ≤ d → l.length ≤ d' → lexB d l o = lexB d' l o
  | 0, 0, _, _, _, _ => rfl
  | 0, d' + 1, l, o, h, _ => by
    have : l = [] := List.length_eq_zero_iff.1 (by omega)
    rw [lexB, lexB, if_pos this]
  | d + 1, 0, l, o, _, h => by
    have : l = [] := List.length_eq_zero_iff.1 (by omega)
    rw [lexB, lexB, if_pos this]
  | d + 1, d' + 1, l, o, h1, h2 => by
    rw [lexB, lexB]
    by_cases hl : l = []
    · rw [if_pos hl, if_pos hl]
    · rw [if_neg hl, if_neg hl]
      cases hs : stepB l with
      | none => rfl
      | some x =>
        obtain ⟨n, k⟩ := x
        have := stepB_pos hs
        have e := lexB_fuel d d' (l.drop n) (o + n) (by simp; omega) (by simp; omega)
        cases k with
        | none => exact e
        | some k => simp only [e]
/-- The tokens of a row of bytes that stands at a place. -/
def LB (l : List UInt8) (o : Nat) : Except Nat (List S74) := lexB l.length l o
theorem LX_LB (s : ByteArray) (p : Nat) (hp : p ≤ s.size) : LX s p = LB (s.data.toList.drop p) p := by
  unfold LX LB
  rw [LX_B s _ p hp, List.length_drop, ← Lib.size_eq]
theorem LB_nil (o : Nat) : LB [] o = .ok [] := rfl
theorem LB_step (l : List UInt8) (o : Nat) (h : l ≠ []) : LB l o = match stepB l with
      | none => .error o
      | some (n, none) => LB (l.drop n) (o + n)
      | some (n, some k) => consT ⟨k, mkB (l.take n), o⟩ (LB (l.drop n) (o + n)) := by
  obtain ⟨m, hm⟩ : ∃ m, l.length = m + 1 := ⟨l.length - 1, by have := List.length_pos_iff.2 h; omega⟩
  unfold LB
  rw [hm, lexB, if_neg h]
  cases hs : stepB l with
  | none => rfl
  | some x =>
    obtain ⟨n, k⟩ := x
    have hp := stepB_pos hs
    have e := lexB_fuel m (l.drop n).length (l.drop n) (o + n) (by simp; omega) (Nat.le_refl _)
    cases k with
    | none => exact e
    | some k => simp only [e]
/-! ### rows of bytes put together: what is put between two tokens, and sources that are joined -/
theorem runB_cons (p : Int → Bool) (c : UInt8) (r : List UInt8) : runB p (c :: r) = if p c.toNat = true then runB p r + 1 else 0 := by
  unfold runB
  rw [List.takeWhile_cons]
  split <;> simp_all
theorem runB_nil (p : Int → Bool) : runB p [] = 0 := rfl
theorem runB_le (p : Int → Bool) : ∀ l : List UInt8, runB p l ≤ l.length
  | [] => Nat.le_refl _
  | c :: r => by
    have := runB_le p r
    rw [runB_cons]
    split <;> simp <;> omega
theorem runB_app (p : Int → Bool) (c : UInt8) (t : List UInt8) (hc : p c.toNat = false) : ∀ l : List UInt8, runB p (l ++ c :: t) = runB p l
  | [] => by rw [List.nil_append, runB_cons, hc]; rfl
  | d :: r => by rw [List.cons_append, runB_cons, runB_cons, runB_app p c t hc r]
theorem stepB_cons (c : UInt8) (r : List UInt8) : stepB (c :: r) =
    if c.toNat = 32 ∨ c.toNat = 9 ∨ c.toNat = 13 then some (1, none)
    else if c.toNat = 35 then some (runB notNl (c :: r), none)
    else if c.toNat = 10 then some (1, some 4)
    else if letS c.toNat then some (runB eitS (c :: r), some 1)
    else if dS c.toNat then (if (numS (mkB ((c :: r).take (runB eitS (c :: r))))).isSome then some (runB eitS (c :: r), some 2) else none)
    else if sgS c.toNat (r.head? == some 61) = 0 then none else some (sgS c.toNat (r.head? == some 61), some 3) := rfl
theorem stepB_app {l : List UInt8} (hl : l ≠ []) (c : UInt8) (t : List UInt8) (h1 : eitS c.toNat = false) (h2 : c ≠ 61) (h3 : c.toNat = 10 ∨ l.head? ≠ some 35) : stepB (l ++ c :: t) = stepB l := by
  cases l with
  | nil => exact absurd rfl hl
  | cons d r =>
    have e := runB_app eitS c t h1 (d :: r)
    have et : ((d :: r) ++ c :: t).take (runB eitS (d :: r)) = (d :: r).take (runB eitS (d :: r)) := List.take_append_of_le_length (runB_le _ _)
    rw [List.cons_append] at e et ⊢
    rw [stepB_cons, stepB_cons, e, et]
    have es : ((r ++ c :: t).head? == some 61) = (r.head? == some 61) := by
      cases r with
      | nil => simp [h2]
      | cons x y => rfl
    rw [es]
    by_cases h4 : d.toNat = 35
    · have h5 : c.toNat = 10 := by
        rcases h3 with h | h
        · exact h
        · exact absurd (by rw [List.head?_cons, ← UInt8.toNat_inj.1 (show d.toNat = (35 : UInt8).toNat from h4)]) h
      have e2 := runB_app notNl c t (by simp [notNl, h5]) (d :: r)
      rw [List.cons_append] at e2
      rw [e2]
    · rw [if_neg h4, if_neg h4]
/-! ### numbers, written and read -/
theorem runB_full (p : Int → Bool) (t : List UInt8) : ∀ l : List UInt8, (∀ c ∈ l, p c.toNat = true) → runB p (l ++ t) = l.length + runB p t
  | [], _ => by simp
  | d :: r, h => by
    rw [List.cons_append, runB_cons, if_pos (h d List.mem_cons_self), runB_full p t r (fun c hc => h c (List.mem_cons_of_mem _ hc))]
    simp; omega
theorem bt_cons0 (c : UInt8) (r : List UInt8) : bt (mkB (c :: r)) 0 = c.toNat := bt_get (mkB (c :: r)) 0 c (by rw [mkB_data]; rfl)
theorem pre0x (l : List UInt8) : preS (mkB l) ⟨#[48, 120]⟩ = (l.take 2 == [48, 120]) := by
  unfold preS
  have e1 : (⟨#[48, 120]⟩ : ByteArray).size = 2 := rfl
  have e2 : (⟨#[48, 120]⟩ : ByteArray).toList = [48, 120] := by rw [Lib.toList_data]
  have e3 : ((mkB l).extract 0 2).toList = l.take 2 := by rw [Lib.toList_data, Lib.extract_data, mkB_data]; rfl
  rw [e1, e2, e3, mkB_size]
  by_cases h : 2 ≤ l.length
  · rw [decide_eq_true h, Bool.true_and]
  · rw [decide_eq_false h, Bool.false_and]
    symm
    rw [beq_eq_false_iff_ne]
    intro e
    have := congrArg List.length e
    rw [List.length_take] at this
    simp at this
    omega
theorem run_nP (b : Int) (l : List UInt8) : runS (nP b) (mkB l) (mkB l).size 0 = (l.takeWhile fun c => nP b c.toNat).length := by
  have := runS_B (nP b) (mkB l) (mkB l).size 0 (by omega)
  rw [this, mkB_data]; rfl
theorem run_all_nP (b : Int) (l : List UInt8) (h : ∀ c ∈ l, nP b c.toNat = true) : runS (nP b) (mkB l) (mkB l).size 0 = l.length := by
  rw [run_nP]
  have := runB_full (nP b) [] l h
  rw [List.append_nil, runB_nil, Nat.add_zero] at this
  exact this
def okN : Lib.NumEnd Nat → Option Nat
  | .ok u => some u
  | _ => none
theorem pum_app (M : Nat) (c : UInt8) : ∀ (l : List UInt8) (acc a : Nat), Lib.parseUintM M acc l = .ok a → Lib.parseUintM M acc (l ++ [c]) = Lib.parseUintM M a [c]
  | [], acc, a, h => by
    rw [Lib.parseUintM] at h
    injection h with h
    rw [List.nil_append, h]
  | d :: r, acc, a, h => by
    rw [List.cons_append, Lib.parseUintM]
    rw [Lib.parseUintM] at h
    by_cases h1 : 48 ≤ d.toNat ∧ d.toNat ≤ 57
    · rw [if_pos h1] at h ⊢
      by_cases h2 : 1844674407370955162 ≤ acc
      · rw [if_pos h2] at h; cases h
      · rw [if_neg h2] at h ⊢
        by_cases h3 : M < acc * 10 + (d.toNat - 48)
        · rw [if_pos h3] at h; cases h
        · rw [if_neg h3] at h ⊢
          exact pum_app M c r _ a h
    · rw [if_neg h1] at h; cases h
theorem dig_nat {d : Nat} (h : d < 10) : (UInt8.ofNat (48 + d)).toNat = 48 + d := by
  rw [UInt8.toNat_ofNat']; omega
theorem dec_read : ∀ (u : Nat), u ≤ 18446744073709551615 → Lib.parseUintM 18446744073709551615 0 (Lib.decDigits u) = .ok u := by
  intro u
  induction u using Nat.strongRecOn with
  | _ u ih =>
    intro hu
    by_cases h : u < 10
    · rw [Lib.decDigits_one h, Lib.parseUintM, dig_nat h, if_pos (by omega), if_neg (by omega), if_neg (by omega), Lib.parseUintM]
      congr 1; omega
    · rw [Lib.decDigits, dif_neg h, pum_app _ _ _ _ _ (ih (u / 10) (by omega) (by omega)), Lib.parseUintM, dig_nat (by omega), if_pos (by omega), if_neg (by omega), if_neg (by omega), Lib.parseUintM]
      congr 1; omega
theorem dec_dig : ∀ (u : Nat), ∀ c ∈ Lib.decDigits u, 48 ≤ c.toNat ∧ c.toNat ≤ 57 := by
  intro u
  induction u using Nat.strongRecOn with
  | _ u ih =>
    intro c hc
    by_cases h : u < 10
    · rw [Lib.decDigits_one h] at hc
      rw [List.mem_singleton] at hc
      rw [hc, dig_nat h]; omega
    · rw [Lib.decDigits, dif_neg h, List.mem_append, List.mem_singleton] at hc
      rcases hc with hc | hc
      · exact ih (u / 10) (by omega) c hc
      · rw [hc, dig_nat (by omega)]; omega
theorem dec_first : ∀ (u : Nat), 1 ≤ u → ∀ c, (Lib.decDigits u).head? = some c → c.toNat ≠ 48 := by
  intro u
  induction u using Nat.strongRecOn with
  | _ u ih =>
    intro hu c hc
    by_cases h : u < 10
    · rw [Lib.decDigits_one h] at hc
      simp only [List.head?_cons, Option.some.injEq] at hc
      rw [← hc, dig_nat h]; omega
    · rw [Lib.decDigits, dif_neg h] at hc
      have hne : Lib.decDigits (u / 10) ≠ [] := by
        intro e
        have := Lib.decDigits_length (u / 10)
        rw [e] at this
        have := Lib.nDigits_pos (u / 10)
        simp at *; omega
      have e0 : (Lib.decDigits (u / 10) ++ [UInt8.ofNat (48 + u % 10)]).head? = (Lib.decDigits (u / 10)).head? := by
        cases hq : Lib.decDigits (u / 10) with
        | nil => exact absurd hq hne
        | cons x y => rfl
      rw [e0] at hc
      exact ih (u / 10) (by omega) (by omega) c hc
theorem dec_len (u : Nat) (h : u < 18446744073709551616) : 1 ≤ (Lib.decDigits u).length ∧ (Lib.decDigits u).length ≤ 20 := by
  rw [Lib.decDigits_length]
  refine ⟨Lib.nDigits_pos u, ?_⟩
  by_cases h0 : 1 ≤ u
  · have := Lib.numDigits_eq u h0 h
    split at this <;> omega
  · rw [Lib.nDigits_small (by omega)]; omega
theorem nP10 {c : Nat} (h : 48 ≤ c ∧ c ≤ 57) : nP 10 c = true := by
  simp only [nP, Bool.or_eq_true, Bool.and_eq_true, decide_eq_true_eq]; omega
theorem num_dec (u : Nat) (h : u < 18446744073709551616) : numS (mkB (Lib.decDigits u)) = some u := by
  have hl := dec_len u h
  have hd := dec_dig u
  have h1 : preS (mkB (Lib.decDigits u)) ⟨#[48, 120]⟩ = false := by
    rw [pre0x, beq_eq_false_iff_ne]
    intro e
    have : (120 : UInt8) ∈ (Lib.decDigits u).take 2 := by rw [e]; simp
    have := hd 120 (List.mem_of_mem_take this)
    have e2 : (120 : UInt8).toNat = 120 := rfl
    omega
  unfold numS cutN
  rw [h1, if_neg (by decide)]
  simp only
  unfold numV
  have hr := run_all_nP 10 (Lib.decDigits u) (fun c hc => nP10 (hd c hc))
  rw [hr, mkB_size, mkB_data, if_neg (by omega)]
  have h2 : ¬ ((10 : Int) = 10 ∧ 1 < (Lib.decDigits u).length ∧ bt (mkB (Lib.decDigits u)) 0 = 48) := by
    rintro ⟨_, h3, h4⟩
    cases hc : Lib.decDigits u with
    | nil => rw [hc] at h3; simp at h3
    | cons c r =>
      rw [hc, bt_cons0] at h4
      by_cases h0 : 1 ≤ u
      · exact dec_first u h0 c (by rw [hc]; rfl) (by omega)
      · rw [Lib.decDigits_length, Lib.nDigits_small (by omega)] at h3; omega
  rw [if_neg h2, if_neg (by omega), if_neg (by decide)]
  have hne : Lib.decDigits u ≠ [] := by intro e; rw [e] at hl; simp at hl
  have e64 : (2 : Nat) ^ 64 - 1 = 18446744073709551615 := by decide
  unfold Lib.parseUintB
  rw [if_neg hne, e64, dec_read u (by omega)]
theorem lexG_mem {s : ByteArray} : ∀ (d p : Nat) (l : List S74), lexG s d p = .ok l → ∀ t ∈ l, ∃ q n k, p ≤ q ∧ q < s.size ∧ stepL s q = some (n, some k) ∧ t = ⟨k, s.extract q (q + n), q⟩
  | 0, p, l, h, t, ht => by rw [lexG] at h; cases h; cases ht
  | d + 1, p, l, h, t, ht => by
    rw [lexG] at h
    split at h
    · rename_i hp
      cases hst : stepL s p with
      | none => rw [hst] at h; cases h
      | some v =>
        obtain ⟨n, ko⟩ := v
        rw [hst] at h
        cases ko with
        | none =>
          obtain ⟨q, m, k, h1, h2⟩ := lexG_mem d (p + n) l h t ht
          exact ⟨q, m, k, by omega, h2⟩
        | some k =>
          simp only at h
          cases hr : lexG s d (p + n) with
          | error e => rw [hr] at h; cases h
          | ok m =>
            rw [hr] at h
            cases h
            rcases List.mem_cons.1 ht with e | e
            · exact ⟨p, n, k, Nat.le_refl _, hp, hst, e⟩
            · obtain ⟨q, m', k', h1, h2⟩ := lexG_mem d (p + n) m hr t e
              exact ⟨q, m', k', by omega, h2⟩
    · cases h; cases ht
theorem lexG_one {s : ByteArray} {k : Int} (h0 : s.size ≠ 0) (h : stepL s 0 = some (s.size, some k)) : lexG s s.size 0 = .ok [⟨k, s.extract 0 s.size, 0⟩] := by
  obtain ⟨d, hd⟩ : ∃ d, s.size = d + 1 := ⟨s.size - 1, by omega⟩
  have e : lexG s d (0 + s.size) = .ok [] := by
    cases d with
    | zero => rw [lexG]
    | succ d => rw [lexG, if_neg (by omega)]
  have e2 : lexG s (d + 1) 0 = .ok [⟨k, s.extract 0 (0 + s.size), 0⟩] := by
    rw [lexG, if_pos (by omega), h]
    simp only
    rw [e]; rfl
  rw [Nat.zero_add] at e2
  rw [← e2]; congr 1
theorem word_step (s : ByteArray) : wordS s = (decide (s.size ≤ 2000) && (decide (s.size ≠ 0) && (decide (stepL s 0 = some (s.size, some 1)) && !rsvB s))) := by
  by_cases h2 : 2000 < s.size
  · have e : decide (s.size ≤ 2000) = false := decide_eq_false (by omega)
    rw [e, Bool.false_and]
    unfold wordS lexS
    rw [if_pos h2]; rfl
  have e2 : decide (s.size ≤ 2000) = true := decide_eq_true (by omega)
  rw [e2, Bool.true_and]
  have eL : lexS s = lexR s (lexG s s.size 0) := by unfold lexS; rw [if_neg h2]
  have hle : ∀ q n k, stepL s q = some (n, some k) → q < s.size → 1 ≤ n ∧ q + n ≤ s.size := fun q n k h hq => stepL_pos hq h
  by_cases h : s.size ≠ 0 ∧ stepL s 0 = some (s.size, some 1)
  · rw [decide_eq_true h.1, decide_eq_true h.2, Bool.true_and, Bool.true_and]
    unfold wordS
    rw [eL, lexG_one h.1 h.2]
    have e3 : s.extract 0 s.size = s := by first | exact ByteArray.extract_zero_size | (simp; done)
    rw [e3]
    have e4 : rd_T74 (lexR s (.ok [⟨1, s, 0⟩])).1 0 = ⟨1, s, 0⟩ := rfl
    rw [e4]
    show (decide ((0 : Int) = 0) && (decide ((2 : Nat) = 2) && (decide ((1 : Int) = 1) && (decide (s.toList = s.toList) && !rsvB s)))) = !rsvB s
    simp
  · have e : (decide (s.size ≠ 0) && (decide (stepL s 0 = some (s.size, some 1)) && !rsvB s)) = false := by
      rw [Bool.eq_false_iff]
      intro q
      rw [Bool.and_eq_true, Bool.and_eq_true, decide_eq_true_eq, decide_eq_true_eq] at q
      exact h ⟨q.1, q.2.1⟩
    rw [e, Bool.eq_false_iff]
    intro q
    unfold wordS at q
    rw [eL, Bool.and_eq_true, Bool.and_eq_true, Bool.and_eq_true, Bool.and_eq_true, decide_eq_true_eq, decide_eq_true_eq, decide_eq_true_eq, decide_eq_true_eq] at q
    obtain ⟨q1, q2, q3, q4, _⟩ := q
    cases hg : lexG s s.size 0 with
    | error p => rw [hg] at q1; exact absurd q1 (by show ¬ (60 : Int) = 0; decide)
    | ok l =>
      rw [hg] at q2 q3 q4
      have q2 : (l ++ [(⟨0, s.extract s.size s.size, s.size⟩ : S74)]).length = 2 := q2
      rw [List.length_append] at q2
      cases l with
      | nil => simp at q2
      | cons t r =>
        have q3 : t.f0 = 1 := q3
        have q4 : t.f1.toList = s.toList := q4
        obtain ⟨qp, n, k, _, h5, h6, h7⟩ := lexG_mem s.size 0 _ hg t List.mem_cons_self
        obtain ⟨h8, h9⟩ := hle qp n k h6 h5
        have hk : k = 1 := by rw [h7] at q3; exact q3
        have hsz : t.f1.size = s.size := by
          have := congrArg List.length q4
          rwa [Lib.toList_data, Lib.toList_data, ← Lib.size_eq, ← Lib.size_eq] at this
        rw [h7] at hsz
        have hsz : (s.extract qp (qp + n)).size = s.size := hsz
        rw [ByteArray.size_extract] at hsz
        have hq0 : qp = 0 := by omega
        have hn : n = s.size := by omega
        subst hq0
        rw [hn, hk] at h6
        exact h ⟨by omega, h6⟩
/-! ### texts, one behind the other -/
theorem jt_ext {a b : ByteArray} (h : a.data.toList = b.data.toList) : a = b := by
  apply ByteArray.ext; apply Array.ext'; exact h
def tailT (by_ : ByteArray) (xs : List ByteArray) : ByteArray := ⟨(Lib.joinTail by_.data.toList (xs.map (·.data.toList))).toArray⟩
theorem tailT_nil (b : ByteArray) : tailT b [] = ⟨#[]⟩ := rfl
theorem tailT_cons (b x : ByteArray) (r : List ByteArray) : tailT b (x :: r) = b ++ x ++ tailT b r := by
  apply jt_ext; simp [tailT, Lib.joinTail]
theorem joinT_cons (b x : ByteArray) (r : List ByteArray) : joinT b (x :: r) = x ++ tailT b r := by
  apply jt_ext; simp [joinT, tailT, Lib.join_cons]
theorem app_assoc (a b c : ByteArray) : a ++ b ++ c = a ++ (b ++ c) := by apply jt_ext; simp
theorem app_nil (a : ByteArray) : a ++ (⟨#[]⟩ : ByteArray) = a := by apply jt_ext; simp
theorem nil_app (a : ByteArray) : (⟨#[]⟩ : ByteArray) ++ a = a := by apply jt_ext; simp
theorem sz_app (a b : ByteArray) : (a ++ b).size = a.size + b.size := ByteArray.size_append
theorem tailT_size (b : ByteArray) : ∀ xs : List ByteArray, (tailT b xs).size = b.size * xs.length + sumZ xs
  | [] => rfl
  | x :: r => by rw [tailT_cons, sz_app, sz_app, tailT_size b r, sumZ_cons, List.length_cons, Nat.mul_succ]; omega
/-! ### what is printed, as tokens -/
abbrev Key := Int × ByteArray
def key (t : S74) : Key := (t.f0, t.f1)
def bts (s : ByteArray) : List UInt8 := s.data.toList
theorem bts_app (a b : ByteArray) : bts (a ++ b) = bts a ++ bts b := by simp [bts]
theorem mkB_bts (s : ByteArray) : mkB (bts s) = s := mkB_of s
def Lx (l : List UInt8) (ks : List Key) : Prop := ∀ o : Nat, ∃ ts, LB l o = .ok ts ∧ ts.map key = ks
theorem Lx_nil : Lx [] [] := fun _ => ⟨[], rfl, rfl⟩
theorem step_ne {l : List UInt8} {x : Nat × Option Int} (h : stepB l = some x) : l ≠ [] := by rintro rfl; cases h
theorem Lx_skip {l : List UInt8} {n : Nat} {ks : List Key} (h : stepB l = some (n, none)) (h2 : Lx (l.drop n) ks) : Lx l ks := fun o => by
  obtain ⟨ts, h3, h4⟩ := h2 (o + n)
  refine ⟨ts, ?_, h4⟩
  rw [LB_step l o (step_ne h), h]; exact h3
theorem Lx_tok {l : List UInt8} {n : Nat} {k : Int} {ks : List Key} (h : stepB l = some (n, some k)) (h2 : Lx (l.drop n) ks) : Lx l ((k, mkB (l.take n)) :: ks) := fun o => by
  obtain ⟨ts, h3, h4⟩ := h2 (o + n)
  refine ⟨⟨k, mkB (l.take n), o⟩ :: ts, ?_, by rw [List.map_cons, h4]; rfl⟩
  rw [LB_step l o (step_ne h), h]; simp only; rw [h3]; rfl
def Cut (v : List UInt8) : Prop := ∃ c t, v = c :: t ∧ (c = 32 ∨ c = 10 ∨ c = 41)
theorem step_cut {u v : List UInt8} (hu : u ≠ []) (hv : Cut v) (hh : u.head? ≠ some 35) : stepB (u ++ v) = stepB u := by
  obtain ⟨c, t, rfl, h⟩ := hv
  refine stepB_app hu c t ?_ ?_ (Or.inr hh)
  · rcases h with rfl | rfl | rfl <;> decide
  · rcases h with rfl | rfl | rfl <;> decide
/-- A row of bytes with these tokens, whatever stands behind the cut. -/
def Tk (u : List UInt8) (ts : List Key) : Prop := ∀ v ks, Cut v → Lx v ks → Lx (u ++ v) (ts ++ ks)
theorem Tk_one {u : List UInt8} {k : Int} (hu : u ≠ []) (hh : u.head? ≠ some 35) (h : stepB u = some (u.length, some k)) : Tk u [(k, mkB u)] := fun v ks hv h2 => by
  have h3 := Lx_tok ((step_cut hu hv hh).trans h) (show Lx ((u ++ v).drop u.length) ks by rw [List.drop_left]; exact h2)
  rw [List.take_left] at h3; exact h3
theorem step_32 (t : List UInt8) : stepB (32 :: t) = some (1, none) := rfl
theorem step_10 (t : List UInt8) : stepB (10 :: t) = some (1, some 4) := rfl
theorem step_41 (t : List UInt8) : stepB (41 :: t) = some (1, some 3) := by
  rw [stepB_cons]
  have e : sgS (41 : UInt8).toNat (t.head? == some 61) = 1 := by cases t.head? == some 61 <;> rfl
  rw [e]; rfl
theorem step_40 (t : List UInt8) : stepB (40 :: t) = some (1, some 3) := by
  rw [stepB_cons]
  have e : sgS (40 : UInt8).toNat (t.head? == some 61) = 1 := by cases t.head? == some 61 <;> rfl
  rw [e]; rfl
theorem Tk_sp {u w : List UInt8} {ts tw : List Key} (h1 : Tk u ts) (h2 : Tk w tw) : Tk (u ++ 32 :: w) (ts ++ tw) := fun v ks hv h3 => by
  have e := h1 (32 :: (w ++ v)) (tw ++ ks) ⟨32, _, rfl, Or.inl rfl⟩ (Lx_skip (step_32 _) (h2 v ks hv h3))
  simpa using e
def opK : Key := (3, ⟨#[40]⟩)
def clK : Key := (3, ⟨#[41]⟩)
def nlK : Key := (4, ⟨#[10]⟩)
theorem Tk_paren {u : List UInt8} {ts : List Key} (h : Tk u ts) : Tk (40 :: (u ++ [41])) (opK :: (ts ++ [clK])) := fun v ks hv h2 => by
  have h3 : Lx (41 :: v) (clK :: ks) := Lx_tok (n := 1) (k := 3) (l := 41 :: v) (step_41 v) h2
  have h4 := h (41 :: v) _ ⟨41, v, rfl, Or.inr (Or.inr rfl)⟩ h3
  have h5 : Lx (40 :: (u ++ 41 :: v)) (opK :: (ts ++ clK :: ks)) := Lx_tok (n := 1) (k := 3) (l := 40 :: (u ++ 41 :: v)) (step_40 _) h4
  simpa using h5
theorem Lx_line {u r : List UInt8} {ts ks : List Key} (h : Tk u ts) (h2 : Lx r ks) : Lx (u ++ 10 :: r) (ts ++ nlK :: ks) :=
  h (10 :: r) _ ⟨10, r, rfl, Or.inr (Or.inl rfl)⟩ (Lx_tok (n := 1) (k := 4) (l := 10 :: r) (step_10 r) h2)
theorem Tk_word {s : ByteArray} (h : wordS s = true) : Tk (bts s) [(1, s)] := by
  rw [word_step, Bool.and_eq_true, Bool.and_eq_true, Bool.and_eq_true, decide_eq_true_eq, decide_eq_true_eq, decide_eq_true_eq] at h
  obtain ⟨_, h0, h1, _⟩ := h
  rw [stepL_B s 0 (by omega), List.drop_zero] at h1
  have hl : s.data.toList.length = s.size := (Lib.size_eq s).symm
  have hne : bts s ≠ [] := by intro e; have := congrArg List.length e; unfold bts at this; rw [hl] at this; exact h0 this
  have hh : (bts s).head? ≠ some 35 := by
    intro e
    obtain ⟨c, r, hc⟩ : ∃ c r, bts s = c :: r := List.exists_cons_of_ne_nil hne
    rw [hc, List.head?_cons] at e
    have e : c = 35 := Option.some.inj e
    subst e
    unfold bts at hc
    rw [hc] at h1
    rw [stepB_cons, if_neg (by decide), if_pos (by decide)] at h1
    injection h1 with h1
    injection h1 with _ h2
    cases h2
  have := Tk_one hne hh (k := 1) (by unfold bts; rw [hl]; exact h1)
  rwa [mkB_bts] at this
theorem numT_bts (n : Int) : bts (numT n) = Lib.decDigits n.toNat := by
  unfold numT fuS bts
  rw [if_pos rfl]
theorem Tk_num (n : Int) (h0 : 0 ≤ n) (h1 : n < 18446744073709551616) : Tk (bts (numT n)) [(2, numT n)] := by
  have hd := dec_dig n.toNat
  have hn := num_dec n.toNat (by omega)
  have hl := (dec_len n.toNat (by omega)).1
  have e := mkB_bts (numT n)
  rw [numT_bts] at e ⊢
  generalize Lib.decDigits n.toNat = u at *
  have hne : u ≠ [] := by rintro rfl; simp at hl
  obtain ⟨c, r, rfl⟩ := List.exists_cons_of_ne_nil hne
  have hc := hd c List.mem_cons_self
  have hrun : runB eitS (c :: r) = (c :: r).length := by
    have h_ := runB_full eitS [] (c :: r) (fun x hx => by
      have := hd x hx
      unfold eitS dS
      simp; omega)
    rwa [List.append_nil, runB_nil, Nat.add_zero] at h_
  have hh : (c :: r).head? ≠ some 35 := by
    rw [List.head?_cons]; intro q
    have q : c = 35 := Option.some.inj q
    subst q; exact absurd hc (by decide)
  have hs : stepB (c :: r) = some ((c :: r).length, some 2) := by
    rw [stepB_cons, if_neg (by omega), if_neg (by omega), if_neg (by omega)]
    have h3 : letS (c.toNat : Int) = false := by unfold letS; simp; omega
    have h4 : dS (c.toNat : Int) = true := by unfold dS; simp; omega
    rw [h3, h4, hrun, List.take_length, hn]; rfl
  have h5 := Tk_one hne hh hs
  rwa [e] at h5
theorem Tk_sign {s : ByteArray} (h : sgnB s = true) : Tk (bts s) [(3, s)] := by
  have h2 : s.toList ∈ sgnL := by unfold sgnB at h; simpa using h
  have e : s = mkB (bts s) := (mkB_bts s).symm
  rw [Lib.toList_data] at h2
  have key : ∀ l : List UInt8, l ∈ sgnL → Tk l [(3, mkB l)] := by
    intro l hl
    simp only [sgnL, List.mem_cons, List.not_mem_nil, or_false] at hl
    rcases hl with rfl | rfl | rfl | rfl | rfl | rfl
    all_goals exact Tk_one (by decide) (by decide) (by decide)
  have := key (bts s) h2
  rwa [mkB_bts] at this
theorem argT_cases (n : Int) (h0 : 0 ≤ n) (h1 : n ≤ 5) : argT n = mkB [97, 114, 103, UInt8.ofNat (48 + n.toNat)] := by
  obtain ⟨m, rfl⟩ : ∃ m : Nat, n = m := ⟨n.toNat, by omega⟩
  unfold argT
  rw [Lib.itoa_nonneg, Lib.decDigits, dif_pos (by omega)]
  apply ba_ext
  rw [mkB_data]
  simp
theorem Tk_arg (n : Int) (h0 : 0 ≤ n) (h1 : n ≤ 5) : Tk (bts (argT n)) [(1, argT n)] := by
  rw [argT_cases n h0 h1]
  have e : n = 0 ∨ n = 1 ∨ n = 2 ∨ n = 3 ∨ n = 4 ∨ n = 5 := by omega
  have hb : ∀ l : List UInt8, bts (mkB l) = l := mkB_data
  rw [hb]
  rcases e with rfl | rfl | rfl | rfl | rfl | rfl
  all_goals exact Tk_one (by decide) (by decide) (by decide)

end Go.Proofs.YtdfjjimmnbijmaaGreatDoor.ZQ

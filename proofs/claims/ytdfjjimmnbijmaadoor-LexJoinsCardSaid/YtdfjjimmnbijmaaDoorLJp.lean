import Derived.Test.YtdfjjimmnbijmaaDoorLJ3
namespace Go.Proofs.YtdfjjimmnbijmaaDoor.LJ
open Go.RowKit Go.Proofs.YtdfjjimmnbijmaaDoorW.PrintWords Go.Proofs.YtdfjjimmnbijmaaDoorW.PrintLast Go.Proofs.YtdfjjimmnbijmaaDoorW.PrintMore Go.Proofs.YtdfjjimmnbijmaaDoor.Base
attribute [local go_sem] max2_int min2_int max_two min_two max_three min_three max_four min_four
set_option linter.unusedVariables false
set_option linter.unusedSimpArgs false
theorem succ {α : Type} {g : Nat → Option α} {r : α} (h : Ev (fun k => g (k + 1)) r) : Ev g r := Ev.step (fun _ => rfl) h
theorem w1 {i : Nat} (h : i < 9223372036854775807) : wrap64 ((i : Int) + 1) = ((i + 1 : Nat) : Int) := by unfold wrap64; omega
theorem wr {i : Int} (h : -9223372036854775808 ≤ i) (h' : i ≤ 9223372036854775807) : wrap64 i = i := by unfold wrap64; omega
theorem now {α : Type} {r r' : α} (h : r = r') : Ev (fun _ => some r) r' := h ▸ Ev.now r
theorem evc {α : Type} {g : Nat → Option α} {r r' : α} (h : Ev g r) (e : r = r') : Ev g r' := e ▸ h
theorem drop_cons {α : Type} {l : List α} {i : Nat} (h : i < l.length) : l.drop i = l[i] :: l.drop (i + 1) := List.drop_eq_getElem_cons h
theorem str_eq (a b : ByteArray) : a.toList = b.toList ↔ a = b := ⟨tl_inj, fun h => h ▸ rfl⟩
theorem nil_iff (a : ByteArray) : a.toList = [] ↔ a.size = 0 := by
  rw [Lib.toList_data, Lib.size_eq, List.length_eq_zero_iff]
theorem evP {α : Type} {c : Prop} [Decidable c] {g g' : Nat → Option α} {r : α} (hc : c) (h : Ev g r) : Ev (fun k => if c then g k else g' k) r := by
  have e : (fun k => if c then g k else g' k) = g := by funext k; rw [if_pos hc]
  rw [e]; exact h
theorem evN {α : Type} {c : Prop} [Decidable c] {g g' : Nat → Option α} {r : α} (hc : ¬ c) (h : Ev g' r) : Ev (fun k => if c then g k else g' k) r := by
  have e : (fun k => if c then g k else g' k) = g' := by funext k; rw [if_neg hc]
  rw [e]; exact h
/-- A sign's text at a place: by its bytes. -/
theorem preS_1 (s : ByteArray) (p : Nat) (hp : p < s.size) (c : UInt8) : preS (s.extract p s.size) ⟨#[c]⟩ = (bt s p == (c.toNat : Int)) := by
  have hl : p < s.data.toList.length := by rw [← Lib.size_eq]; exact hp
  unfold preS
  have e1 : (⟨#[c]⟩ : ByteArray).size = 1 := rfl
  have e2 : (⟨#[c]⟩ : ByteArray).toList = [c] := by rw [Lib.toList_data]
  rw [e1, e2, Lib.extract_toList, Lib.extract_data, List.drop_zero]
  have ht : (s.data.toList.drop p).take (s.size - p) = s.data.toList.drop p := by
    rw [List.take_of_length_le]; rw [List.length_drop, ← Lib.size_eq]; exact Nat.le_refl _
  rw [ht, drop_cons hl, bt_get s p _ (List.getElem?_eq_getElem hl)]
  simp
  rw [Bool.eq_iff_iff]
  simp
  constructor
  · rintro ⟨_, h⟩; rw [h]
  · intro h; exact ⟨by omega, UInt8.toNat_inj.1 (by omega)⟩
theorem preS_2 (s : ByteArray) (p : Nat) (hp : p < s.size) (c d : UInt8) : preS (s.extract p s.size) ⟨#[c, d]⟩ = (bt s p == (c.toNat : Int) && (decide (p + 1 < s.size) && bt s ((p + 1 : Nat) : Int) == (d.toNat : Int))) := by
  have hl : p < s.data.toList.length := by rw [← Lib.size_eq]; exact hp
  unfold preS
  have e1 : (⟨#[c, d]⟩ : ByteArray).size = 2 := rfl
  have e2 : (⟨#[c, d]⟩ : ByteArray).toList = [c, d] := by rw [Lib.toList_data]
  rw [e1, e2, Lib.extract_toList, Lib.extract_data, List.drop_zero]
  have ht : (s.data.toList.drop p).take (s.size - p) = s.data.toList.drop p := by
    rw [List.take_of_length_le]; rw [List.length_drop, ← Lib.size_eq]; exact Nat.le_refl _
  rw [ht, drop_cons hl, bt_get s p _ (List.getElem?_eq_getElem hl)]
  by_cases h2 : p + 1 < s.size
  · have hl2 : p + 1 < s.data.toList.length := by rw [← Lib.size_eq]; exact h2
    rw [drop_cons hl2, bt_get s (p + 1) _ (List.getElem?_eq_getElem hl2)]
    simp
    rw [Bool.eq_iff_iff]
    simp
    constructor
    · rintro ⟨_, h, h'⟩; rw [h, h']; exact ⟨rfl, h2, rfl⟩
    · rintro ⟨h, _, h'⟩; exact ⟨by omega, UInt8.toNat_inj.1 (by omega), UInt8.toNat_inj.1 (by omega)⟩
  · rw [List.drop_of_length_le (by rw [← Lib.size_eq]; omega)]
    simp [h2]

def sgS (c : Int) (two : Bool) : Nat :=
  if two = true ∧ (c = 61 ∨ c = 33 ∨ c = 60 ∨ c = 62) then 2 else if c = 60 ∨ c = 62 ∨ c = 38 ∨ c = 40 ∨ c = 41 then 1 else 0
theorem sign_size (s : ByteArray) (p : Nat) (hp : p < s.size) : (signFrom (s.extract p s.size) signsL).size = sgS (bt s p) (decide (p + 1 < s.size) && bt s ((p + 1 : Nat) : Int) == 61) := by
  simp only [signsL, signFrom, preS_1 s p hp, preS_2 s p hp]
  generalize bt s (p : Int) = c
  have e61 : ((61 : UInt8).toNat : Int) = 61 := rfl
  have e33 : ((33 : UInt8).toNat : Int) = 33 := rfl
  have e60 : ((60 : UInt8).toNat : Int) = 60 := rfl
  have e62 : ((62 : UInt8).toNat : Int) = 62 := rfl
  have e38 : ((38 : UInt8).toNat : Int) = 38 := rfl
  have e40 : ((40 : UInt8).toNat : Int) = 40 := rfl
  have e41 : ((41 : UInt8).toNat : Int) = 41 := rfl
  rw [e61, e33, e60, e62, e38, e40, e41]
  generalize (decide (p + 1 < s.size) && bt s ((p + 1 : Nat) : Int) == 61) = two
  unfold sgS
  cases two with
  | true =>
    simp only [Bool.and_true, beq_iff_eq, true_and]
    by_cases h1 : c = 61
    · rw [if_pos h1, if_pos (Or.inl h1)]; rfl
    rw [if_neg h1]
    by_cases h2 : c = 33
    · rw [if_pos h2, if_pos (by omega)]; rfl
    rw [if_neg h2]
    by_cases h3 : c = 60
    · rw [if_pos h3, if_pos (by omega)]; rfl
    rw [if_neg h3]
    by_cases h4 : c = 62
    · rw [if_pos h4, if_pos (by omega)]; rfl
    rw [if_neg h4, if_neg h3, if_neg h4, if_neg (show ¬ (c = 61 ∨ c = 33 ∨ c = 60 ∨ c = 62) by omega)]
    by_cases h5 : c = 38
    · rw [if_pos h5, if_pos (by omega)]; rfl
    rw [if_neg h5]
    by_cases h6 : c = 40
    · rw [if_pos h6, if_pos (by omega)]; rfl
    rw [if_neg h6]
    by_cases h7 : c = 41
    · rw [if_pos h7, if_pos (by omega)]; rfl
    rw [if_neg h7, if_neg (by omega)]; rfl
  | false =>
    simp only [Bool.and_false, beq_iff_eq, false_and, if_neg (show ¬ (false = true) by decide)]
    by_cases h3 : c = 60
    · rw [if_pos h3, if_neg (by simp), if_pos (by omega)]; rfl
    rw [if_neg h3]
    by_cases h4 : c = 62
    · rw [if_pos h4, if_neg (by simp), if_pos (by omega)]; rfl
    rw [if_neg h4]
    by_cases h5 : c = 38
    · rw [if_pos h5, if_neg (by simp), if_pos (by omega)]; rfl
    rw [if_neg h5]
    by_cases h6 : c = 40
    · rw [if_pos h6, if_neg (by simp), if_pos (by omega)]; rfl
    rw [if_neg h6]
    by_cases h7 : c = 41
    · rw [if_pos h7, if_neg (by simp), if_pos (by omega)]; rfl
    rw [if_neg h7, if_neg (by simp), if_neg (by omega)]; rfl
theorem stepL_kind {s : ByteArray} {p n : Nat} {k : Int} (h : stepL s p = some (n, some k)) : 1 ≤ k ∧ k ≤ 4 := by
  unfold stepL at h
  split at h
  · cases h
  split at h
  · cases h
  split at h
  · cases h; omega
  split at h
  · cases h; omega
  split at h
  · split at h
    · cases h; omega
    · cases h
  split at h
  · cases h
  · cases h; omega
theorem LX_kind (s : ByteArray) : ∀ (d p : Nat), s.size - p ≤ d → p ≤ s.size → ∀ l, LX s p = .ok l → ∀ t ∈ l, 1 ≤ t.f0 ∧ t.f0 ≤ 4 := by
  intro d
  induction d with
  | zero =>
    intro p hd hp l h t ht
    rw [LX_end s (by omega)] at h
    cases h; cases ht
  | succ d ih =>
    intro p hd hp l h t ht
    by_cases hlt : p < s.size
    · rw [LX_step s hlt] at h
      cases hst : stepL s p with
      | none => rw [hst] at h; cases h
      | some x =>
        obtain ⟨n, kk⟩ := x
        have hn := stepL_pos hlt hst
        rw [hst] at h
        cases kk with
        | none => exact ih (p + n) (by omega) hn.2 l h t ht
        | some kd =>
          have hk := stepL_kind hst
          simp only at h
          cases hr : LX s (p + n) with
          | error e => rw [hr] at h; cases h
          | ok m =>
            rw [hr] at h
            cases h
            rcases List.mem_cons.1 ht with e | e
            · subst e; exact hk
            · exact ih (p + n) (by omega) hn.2 m hr t e
    · rw [LX_end s (by omega)] at h
      cases h; cases ht
/-! ### the lexer over a row of bytes: what is read at a place hangs on what stands from there on alone -/
def mkB (l : List UInt8) : ByteArray := ⟨l.toArray⟩
theorem mkB_data (l : List UInt8) : (mkB l).data.toList = l := by simp [mkB]
theorem mkB_size (l : List UInt8) : (mkB l).size = l.length := by rw [Lib.size_eq, mkB_data]
theorem ba_ext {a b : ByteArray} (h : a.data.toList = b.data.toList) : a = b := by
  apply ByteArray.ext; apply Array.ext'; exact h
theorem mkB_of (s : ByteArray) : mkB s.data.toList = s := ba_ext (mkB_data _)
theorem extract_mkB (s : ByteArray) (p n : Nat) : s.extract p (p + n) = mkB ((s.data.toList.drop p).take n) := by
  apply ba_ext
  rw [mkB_data, Lib.extract_data, Nat.add_sub_cancel_left]
def runB (p : Int → Bool) (l : List UInt8) : Nat := (l.takeWhile fun c => p c.toNat).length
theorem runS_B (p : Int → Bool) (s : ByteArray) : ∀ d i, i + d = s.size → runS p s d i = runB p (s.data.toList.drop i) := by
  intro d
  induction d with
  | zero =>
    intro i hi
    rw [List.drop_of_length_le (by rw [← Lib.size_eq]; omega)]; rfl
  | succ d ih =>
    intro i hi
    have hil : i < s.data.toList.length := by rw [← Lib.size_eq]; omega
    rw [runS, drop_cons hil, bt_get s i _ (List.getElem?_eq_getElem hil), ih (i + 1) (by omega)]
    unfold runB
    rw [List.takeWhile_cons]
    split
    · rename_i h; simp [h]
    · rename_i h; simp [h]
def stepB : List UInt8 → Option (Nat × Option Int)
  | [] => none
  | c :: r =>
    if c.toNat = 32 ∨ c.toNat = 9 ∨ c.toNat = 13 then some (1, none)
    else if c.toNat = 35 then some (runB notNl (c :: r), none)
    else if c.toNat = 10 then some (1, some 4)
    else if letS c.toNat then some (runB eitS (c :: r), some 1)
    else if dS c.toNat then (if (numS (mkB ((c :: r).take (runB eitS (c :: r))))).isSome then some (runB eitS (c :: r), some 2) else none)
    else if sgS c.toNat (r.head? == some 61) = 0 then none else some (sgS c.toNat (r.head? == some 61), some 3)
theorem head_two (s : ByteArray) (p : Nat) : (decide (p + 1 < s.size) && bt s ((p + 1 : Nat) : Int) == 61) = ((s.data.toList.drop (p + 1)).head? == some 61) := by
  by_cases h : p + 1 < s.size
  · have hl : p + 1 < s.data.toList.length := by rw [← Lib.size_eq]; exact h
    rw [drop_cons hl, bt_get s (p + 1) _ (List.getElem?_eq_getElem hl), decide_eq_true h, Bool.true_and, List.head?_cons]
    generalize s.data.toList[p + 1] = c
    rw [Bool.eq_iff_iff, beq_iff_eq, beq_iff_eq, Option.some.injEq]
    have e : (61 : UInt8).toNat = 61 := rfl
    rw [← UInt8.toNat_inj, e]
    omega
  · rw [decide_eq_false h, Bool.false_and, List.drop_of_length_le (by rw [← Lib.size_eq]; omega)]
    rfl
theorem stepL_B (s : ByteArray) (p : Nat) (hp : p < s.size) : stepL s p = stepB (s.data.toList.drop p) := by
  have hpl : p < s.data.toList.length := by rw [← Lib.size_eq]; exact hp
  have hr1 := runS_B notNl s (s.size - p) p (by omega)
  have hr2 := runS_B eitS s (s.size - p) p (by omega)
  have hsg := sign_size s p hp
  rw [head_two] at hsg
  unfold stepL
  rw [hr1, hr2, hsg, extract_mkB]
  have hd := drop_cons hpl
  rw [bt_get s p _ (List.getElem?_eq_getElem hpl)]
  rw [hd]
  generalize s.data.toList[p] = c
  generalize s.data.toList.drop (p + 1) = r
  have i1 : ((c.toNat : Int) = 32 ∨ (c.toNat : Int) = 9 ∨ (c.toNat : Int) = 13) ↔ (c.toNat = 32 ∨ c.toNat = 9 ∨ c.toNat = 13) := by omega
  have i2 : ((c.toNat : Int) = 35) ↔ c.toNat = 35 := by omega
  have i3 : ((c.toNat : Int) = 10) ↔ c.toNat = 10 := by omega
  simp only [stepB, i1, i2, i3]
def consT (t : S34) : Except Nat (List S34) → Except Nat (List S34)
  | .ok l => .ok (t :: l)
  | .error e => .error e
def lexB : Nat → List UInt8 → Nat → Except Nat (List S34)
  | 0, _, _ => .ok []
  | d + 1, l, o =>
    if l = [] then .ok []
    else match stepB l with
      | none => .error o
      | some (n, none) => lexB d (l.drop n) (o + n)
      | some (n, some k) => consT ⟨k, mkB (l.take n), o⟩ (lexB d (l.drop n) (o + n))
theorem LX_B (s : ByteArray) : ∀ d p, p ≤ s.size → lexG s d p = lexB d (s.data.toList.drop p) p := by
  intro d
  induction d with
  | zero => intro p _; rfl
  | succ d ih =>
    intro p hp
    by_cases hlt : p < s.size
    · have hne : s.data.toList.drop p ≠ [] := by
        intro h
        have := congrArg List.length h
        rw [List.length_drop, ← Lib.size_eq] at this
        simp at this; omega
      rw [lexG, if_pos hlt, lexB, if_neg hne, stepL_B s p hlt]
      cases hst : stepB (s.data.toList.drop p) with
      | none => rfl
      | some x =>
        obtain ⟨n, kk⟩ := x
        have hn := stepL_pos hlt ((stepL_B s p hlt).trans hst)
        have e1 : lexG s d (p + n) = lexB d ((s.data.toList.drop p).drop n) (p + n) := by rw [List.drop_drop]; exact ih (p + n) hn.2
        cases kk with
        | none => exact e1
        | some k =>
          simp only [e1, extract_mkB]
          cases lexB d ((s.data.toList.drop p).drop n) (p + n) <;> rfl
    · have hnil : s.data.toList.drop p = [] := List.drop_of_length_le (by rw [← Lib.size_eq]; omega)
      rw [lexG, if_neg hlt, lexB, if_pos hnil]
theorem stepB_pos {l : List UInt8} {n : Nat} {k : Option Int} (h : stepB l = some (n, k)) : 1 ≤ n ∧ n ≤ l.length := by
  have hne : 0 < l.length := by cases l with | nil => cases h | cons c r => simp
  have := stepL_B (mkB l) 0 (by rw [mkB_size]; exact hne)
  rw [mkB_data, List.drop_zero, h] at this
  have hp := stepL_pos (by rw [mkB_size]; exact hne) this
  rw [mkB_size] at hp
  omega
theorem stepB_kind {l : List UInt8} {n : Nat} {k : Int} (h : stepB l = some (n, some k)) : 1 ≤ k ∧ k ≤ 4 := by
  have hne : 0 < l.length := by cases l with | nil => cases h | cons c r => simp
  have := stepL_B (mkB l) 0 (by rw [mkB_size]; exact hne)
  rw [mkB_data, List.drop_zero, h] at this
  exact stepL_kind this
theorem lexB_fuel : ∀ (d d' : Nat) (l : List UInt8) (o : Nat), l.length ≤ d → l.length ≤ d' → lexB d l o = lexB d' l o
  | 0, 0, _, _, _, _ => rfl
  | 0, d' + 1, l, o, h, _ => by
    have : l = [] := List.length_eq_zero_iff.1 (by omega)
    rw [lexB, lexB, if_pos this]
  | d + 1, 0, l, o, _, h => by
    have : l = [] := List.length_eq_zero_iff.1 (by omega)
    rw [lexB, lexB, if_pos this]
  | d + 1, d' + 1, l, o, h1, h2 => by
    rw [lexB, lexB]
    by_cases hl : l = []
    · rw [if_pos hl, if_pos hl]
    · rw [if_neg hl, if_neg hl]
      cases hs : stepB l with
      | none => rfl
      | some x =>
        obtain ⟨n, k⟩ := x
        have := stepB_pos hs
        have e := lexB_fuel d d' (l.drop n) (o + n) (by simp; omega) (by simp; omega)
        cases k with
        | none => exact e
        | some k => simp only [e]
/-- The tokens of a row of bytes that stands at a place. -/
def LB (l : List UInt8) (o : Nat) : Except Nat (List S34) := lexB l.length l o
theorem LX_LB (s : ByteArray) (p : Nat) (hp : p ≤ s.size) : LX s p = LB (s.data.toList.drop p) p := by
  unfold LX LB
  rw [LX_B s _ p hp, List.length_drop, ← Lib.size_eq]
theorem LB_nil (o : Nat) : LB [] o = .ok [] := rfl
theorem LB_step (l : List UInt8) (o : Nat) (h : l ≠ []) : LB l o = match stepB l with
      | none => .error o
      | some (n, none) => LB (l.drop n) (o + n)
      | some (n, some k) => consT ⟨k, mkB (l.take n), o⟩ (LB (l.drop n) (o + n)) := by
  obtain ⟨m, hm⟩ : ∃ m, l.length = m + 1 := ⟨l.length - 1, by have := List.length_pos_iff.2 h; omega⟩
  unfold LB
  rw [hm, lexB, if_neg h]
  cases hs : stepB l with
  | none => rfl
  | some x =>
    obtain ⟨n, k⟩ := x
    have hp := stepB_pos hs
    have e := lexB_fuel m (l.drop n).length (l.drop n) (o + n) (by simp; omega) (Nat.le_refl _)
    cases k with
    | none => exact e
    | some k => simp only [e]
/-! ### rows of bytes put together: what is put between two tokens, and sources that are joined -/
theorem runB_cons (p : Int → Bool) (c : UInt8) (r : List UInt8) : runB p (c :: r) = if p c.toNat = true then runB p r + 1 else 0 := by
  unfold runB
  rw [List.takeWhile_cons]
  split <;> simp_all
theorem runB_nil (p : Int → Bool) : runB p [] = 0 := rfl
theorem runB_le (p : Int → Bool) : ∀ l : List UInt8, runB p l ≤ l.length
  | [] => Nat.le_refl _
  | c :: r => by
    have := runB_le p r
    rw [runB_cons]
    split <;> simp <;> omega
theorem runB_app (p : Int → Bool) (c : UInt8) (t : List UInt8) (hc : p c.toNat = false) : ∀ l : List UInt8, runB p (l ++ c :: t) = runB p l
  | [] => by rw [List.nil_append, runB_cons, hc]; rfl
  | d :: r => by rw [List.cons_append, runB_cons, runB_cons, runB_app p c t hc r]
theorem stepB_cons (c : UInt8) (r : List UInt8) : stepB (c :: r) =
    if c.toNat = 32 ∨ c.toNat = 9 ∨ c.toNat = 13 then some (1, none)
    else if c.toNat = 35 then some (runB notNl (c :: r), none)
    else if c.toNat = 10 then some (1, some 4)
    else if letS c.toNat then some (runB eitS (c :: r), some 1)
    else if dS c.toNat then (if (numS (mkB ((c :: r).take (runB eitS (c :: r))))).isSome then some (runB eitS (c :: r), some 2) else none)
    else if sgS c.toNat (r.head? == some 61) = 0 then none else some (sgS c.toNat (r.head? == some 61), some 3) := rfl
theorem stepB_app {l : List UInt8} (hl : l ≠ []) (c : UInt8) (t : List UInt8) (h1 : eitS c.toNat = false) (h2 : c ≠ 61) (h3 : c.toNat = 10 ∨ l.head? ≠ some 35) : stepB (l ++ c :: t) = stepB l := by
  cases l with
  | nil => exact absurd rfl hl
  | cons d r =>
    have e := runB_app eitS c t h1 (d :: r)
    have et : ((d :: r) ++ c :: t).take (runB eitS (d :: r)) = (d :: r).take (runB eitS (d :: r)) := List.take_append_of_le_length (runB_le _ _)
    rw [List.cons_append] at e et ⊢
    rw [stepB_cons, stepB_cons, e, et]
    have es : ((r ++ c :: t).head? == some 61) = (r.head? == some 61) := by
      cases r with
      | nil => simp [h2]
      | cons x y => rfl
    rw [es]
    by_cases h4 : d.toNat = 35
    · have h5 : c.toNat = 10 := by
        rcases h3 with h | h
        · exact h
        · exact absurd (by rw [List.head?_cons, ← UInt8.toNat_inj.1 (show d.toNat = (35 : UInt8).toNat from h4)]) h
      have e2 := runB_app notNl c t (by simp [notNl, h5]) (d :: r)
      rw [List.cons_append] at e2
      rw [e2]
    · rw [if_neg h4, if_neg h4]
def shT (d : Nat) (t : S34) : S34 := ⟨t.f0, t.f1, t.f2 + d⟩
def shE (d : Nat) : Except Nat (List S34) → Except Nat (List S34)
  | .ok l => .ok (l.map (shT d))
  | .error e => .error (e + d)
theorem LB_shift : ∀ (m : Nat) (l : List UInt8) (o d : Nat), l.length ≤ m → LB l (o + d) = shE d (LB l o) := by
  intro m
  induction m with
  | zero =>
    intro l o d h
    obtain rfl : l = [] := List.length_eq_zero_iff.1 (by omega)
    rfl
  | succ m ih =>
    intro l o d h
    by_cases hl : l = []
    · subst hl; rfl
    · rw [LB_step l (o + d) hl, LB_step l o hl]
      cases hs : stepB l with
      | none => rfl
      | some x =>
        obtain ⟨n, k⟩ := x
        have hp := stepB_pos hs
        have e := ih (l.drop n) (o + n) d (by simp; omega)
        rw [Nat.add_right_comm] at e
        cases k with
        | none => exact e
        | some k =>
          simp only [e]
          cases LB (l.drop n) (o + n) <;> simp [consT, shE, shT]
def joinE : Except Nat (List S34) → Except Nat (List S34) → Except Nat (List S34)
  | .error e, _ => .error e
  | .ok a, x => ahead a x
theorem joinE_cons (t : S34) (x y : Except Nat (List S34)) : joinE (consT t x) y = consT t (joinE x y) := by
  cases x <;> cases y <;> rfl
theorem LB_line (t : List UInt8) (o : Nat) : LB (10 :: t) o = consT ⟨4, mkB [10], o⟩ (LB t (o + 1)) := by
  rw [LB_step _ _ (by simp), show stepB (10 :: t) = some (1, some 4) from rfl]
  rfl
/-- Two sources with an end of line between. -/
theorem LB_join (t : List UInt8) : ∀ (m : Nat) (A : List UInt8) (o : Nat), A.length ≤ m → LB (A ++ 10 :: t) o = joinE (LB A o) (consT ⟨4, mkB [10], ((o + A.length : Nat) : Int)⟩ (LB t (o + A.length + 1))) := by
  intro m
  induction m with
  | zero =>
    intro A o h
    obtain rfl : A = [] := List.length_eq_zero_iff.1 (by omega)
    rw [List.nil_append, LB_line, LB_nil]
    simp only [joinE, List.length_nil, Nat.add_zero]
    cases LB t (o + 1) <;> rfl
  | succ m ih =>
    intro A o h
    by_cases hA : A = []
    · subst hA
      rw [List.nil_append, LB_line, LB_nil]
      simp only [joinE, List.length_nil, Nat.add_zero]
      cases LB t (o + 1) <;> rfl
    have hne : A ++ 10 :: t ≠ [] := fun e => hA (List.append_eq_nil_iff.1 e).1
    rw [LB_step _ _ hne, LB_step _ _ hA, stepB_app hA 10 t (by decide) (by decide) (Or.inl (by decide))]
    cases hs : stepB A with
    | none => rfl
    | some x =>
      obtain ⟨n, k⟩ := x
      have hp := stepB_pos hs
      have hdrop : (A ++ 10 :: t).drop n = A.drop n ++ 10 :: t := List.drop_append_of_le_length hp.2
      have htake : (A ++ 10 :: t).take n = A.take n := List.take_append_of_le_length hp.2
      have hlen : (A.drop n).length = A.length - n := List.length_drop ..
      have e := ih (A.drop n) (o + n) (by omega)
      have ho : o + n + (A.drop n).length = o + A.length := by omega
      rw [ho] at e
      cases k with
      | none => simp only [hdrop]; exact e
      | some k => simp only [hdrop, htake]; rw [e, ← joinE_cons]
theorem mkB_app (a b : List UInt8) : mkB a ++ mkB b = mkB (a ++ b) := by
  apply ba_ext
  rw [mkB_data]
  simp [mkB]
def endK (n : Nat) : S34 := ⟨0, ⟨#[]⟩, n⟩
theorem lexS_B (s : ByteArray) (hs : s.size ≤ 2000) : lexS s = match LB s.data.toList 0 with | .ok l => (l ++ [endK s.size], 0, 0) | .error p => ([], 60, p) := by
  have h := LX_LB s 0 (Nat.zero_le _)
  unfold LX at h
  rw [Nat.sub_zero, List.drop_zero] at h
  have he : s.extract s.size s.size = ⟨#[]⟩ := by
    apply ba_ext
    rw [Lib.extract_data, Nat.sub_self, List.take_zero]
  unfold lexS
  rw [if_neg (by omega), h]
  cases LB s.data.toList 0 with
  | ok l => simp only [lexR, he]; rfl
  | error p => rfl
/-- What the lexer makes of a source that has tokens. -/
theorem lexS_ok0 {s : ByteArray} (h : (lexS s).2.1 = 0) : s.size ≤ 2000 ∧ ∃ L, LB s.data.toList 0 = .ok L ∧ lexS s = (L ++ [endK s.size], 0, 0) := by
  have hs : s.size ≤ 2000 := by
    unfold lexS at h
    split at h
    · cases h
    · omega
  refine ⟨hs, ?_⟩
  have e := lexS_B s hs
  cases hL : LB s.data.toList 0 with
  | ok L => rw [hL] at e; exact ⟨L, rfl, e⟩
  | error p => rw [hL] at e; rw [e] at h; cases h
/-! ### the lexer over two sources with an end of line between -/
theorem LB_err : ∀ (m : Nat) (l : List UInt8) (o : Nat), l.length ≤ m → ∀ e, LB l o = .error e → e ≤ o + l.length := by
  intro m
  induction m with
  | zero =>
    intro l o h e he
    obtain rfl : l = [] := List.length_eq_zero_iff.1 (by omega)
    cases he
  | succ m ih =>
    intro l o h e he
    by_cases hl : l = []
    · subst hl; cases he
    · rw [LB_step l o hl] at he
      cases hs : stepB l with
      | none => rw [hs] at he; cases he; omega
      | some x =>
        obtain ⟨n, k⟩ := x
        have hp := stepB_pos hs
        have hlen : (l.drop n).length = l.length - n := List.length_drop ..
        rw [hs] at he
        cases k with
        | none => have := ih (l.drop n) (o + n) (by omega) e he; omega
        | some k =>
          simp only at he
          cases hr : LB (l.drop n) (o + n) with
          | error e' =>
            rw [hr] at he
            cases he
            have := ih (l.drop n) (o + n) (by omega) e hr; omega
          | ok ts => rw [hr] at he; cases he
def lineT (n : Nat) : S34 := ⟨4, ⟨#[10]⟩, n⟩
def jS (s t : ByteArray) : ByteArray := (s ++ ⟨#[10]⟩) ++ t
theorem jS_size (s t : ByteArray) : (jS s t).size = s.size + 1 + t.size := by unfold jS; rw [ByteArray.size_append, ByteArray.size_append]; rfl
theorem jS_data (s t : ByteArray) : (jS s t).data.toList = s.data.toList ++ 10 :: t.data.toList := by simp [jS]
theorem joins_err1 {s t : ByteArray} (hs : s.size ≤ 900) (ht : t.size ≤ 900) {p : Nat} (h : LB s.data.toList 0 = .error p) : lexS s = ([], 60, (p : Int)) ∧ lexS (jS s t) = ([], 60, (p : Int)) ∧ p ≤ s.size := by
  have e1 := lexS_B s (by omega)
  have e2 := lexS_B (jS s t) (by rw [jS_size]; omega)
  rw [h] at e1
  rw [jS_data, LB_join _ _ _ _ (Nat.le_refl _), h] at e2
  have := LB_err _ _ _ (Nat.le_refl _) _ h
  rw [← Lib.size_eq, Nat.zero_add] at this
  exact ⟨e1, e2, this⟩
theorem joins_err2 {s t : ByteArray} (hs : s.size ≤ 900) (ht : t.size ≤ 900) {L : List S34} (h0 : LB s.data.toList 0 = .ok L) {p : Nat} (h : LB t.data.toList 0 = .error p) : lexS s = (L ++ [endK s.size], 0, 0) ∧ lexS t = ([], 60, (p : Int)) ∧ lexS (jS s t) = ([], 60, ((p + (s.size + 1) : Nat) : Int)) ∧ p ≤ t.size := by
  have e1 := lexS_B s (by omega)
  have e3 := lexS_B t (by omega)
  have e2 := lexS_B (jS s t) (by rw [jS_size]; omega)
  rw [h0] at e1
  rw [h] at e3
  have hsh := LB_shift _ t.data.toList 0 (s.size + 1) (Nat.le_refl _)
  rw [h, Nat.zero_add] at hsh
  rw [jS_data, LB_join _ _ _ _ (Nat.le_refl _), h0, Nat.zero_add, ← Lib.size_eq, hsh] at e2
  have := LB_err _ _ _ (Nat.le_refl _) _ h
  rw [← Lib.size_eq, Nat.zero_add] at this
  exact ⟨e1, e3, e2, this⟩
theorem joins_ok {s t : ByteArray} (hs : s.size ≤ 900) (ht : t.size ≤ 900) {L M : List S34} (h0 : LB s.data.toList 0 = .ok L) (h : LB t.data.toList 0 = .ok M) : lexS s = (L ++ [endK s.size], 0, 0) ∧ lexS t = (M ++ [endK t.size], 0, 0) ∧ lexS (jS s t) = (L ++ lineT s.size :: (M ++ [endK t.size]).map (shT (s.size + 1)), 0, 0) := by
  have e1 := lexS_B s (by omega)
  have e3 := lexS_B t (by omega)
  have e2 := lexS_B (jS s t) (by rw [jS_size]; omega)
  rw [h0] at e1
  rw [h] at e3
  have hsh := LB_shift _ t.data.toList 0 (s.size + 1) (Nat.le_refl _)
  rw [h, Nat.zero_add] at hsh
  rw [jS_data, LB_join _ _ _ _ (Nat.le_refl _), h0, Nat.zero_add, ← Lib.size_eq, hsh] at e2
  refine ⟨e1, e3, e2.trans ?_⟩
  show (L ++ (lineT s.size :: M.map (shT (s.size + 1))) ++ [endK (jS s t).size], (0 : Int), (0 : Int)) = _
  rw [List.map_append, jS_size]
  simp [shT, endK]
  omega
theorem alive_f : doorwardlaw14_alive.f = some true := by
  have h : lex_Lex.f (⟨#[]⟩ : ByteArray) = some ([⟨0, ⟨#[]⟩, 0⟩], 0, 0) := by unfold lex_Lex.f; rfl
  unfold doorwardlaw14_alive.f
  rw [h]
  rfl
theorem lexG_lim1 (s : ByteArray) : ∀ (d p : Nat) (l : List S34), lexG s d p = .ok l → l.length ≤ d
  | 0, p, l, h => by cases h; exact Nat.le_refl _
  | d + 1, p, l, h => by
    rw [lexG] at h
    split at h
    · split at h
      · cases h
      · have := lexG_lim1 s d _ l h
        omega
      · split at h
        · cases h
        · rename_i m hm
          have := lexG_lim1 s d _ m hm
          cases h
          simp; omega
    · cases h; simp
theorem lexS_lim1 {s : ByteArray} (h : (lexS s).2.1 = 0) : (lexS s).1.length ≤ 900000 := by
  unfold lexS at h ⊢
  split at h
  · cases h
  · rename_i hs
    rw [if_neg hs]
    cases hg : lexG s s.size 0 with
    | error e => rw [hg] at h; cases h
    | ok l =>
      have := lexG_lim1 s _ _ _ hg
      simp [lexR]; omega
theorem toks_row {w : World} {B : Nat} {v : Value} {l : List S34} (h : k34.R 34 w B (fun _ => True) v l) (h0 : l ≠ []) : ∃ g cap cs, v = .slice (some ⟨g, 0, none⟩) l.length cap ∧ l.length ≤ cap ∧ B ≤ g ∧ w.heap[g]? = some (.cells cs 34 (0, 0)) ∧ ∀ (j : Nat) (t : S34), l[j]? = some t → cs[0 + j * 3]? = some (.int .i64 t.f0) ∧ cs[0 + j * 3 + 1]? = some (.string t.f1) ∧ cs[0 + j * 3 + 2]? = some (.int .i64 t.f2) := by
  obtain ⟨_, inner, ho, hr⟩ := h
  obtain ⟨hl, ho⟩ := ho
  rcases ho with ⟨_, e0⟩ | ⟨g, cap, cur, rfl, hg, hh, h1, h2, h3, h4⟩
  · exact absurd (List.length_eq_zero_iff.1 e0) h0
  · refine ⟨g, cap, cur, rfl, h1, hg, hh, fun j t hj => ?_⟩
    have hm := k34_openM (hr.2 j t hj)
    have hjl := (List.getElem?_eq_some_iff.1 hj).1
    have key : ∀ i, i < 3 → cur[0 + j * 3 + i]? = ([Value.int .i64 t.f0, .string t.f1, .int .i64 t.f2] : List Value)[i]? := by
      intro i hi
      rw [← hm, List.getElem?_take, if_pos (by exact hi), List.getElem?_drop, ← h4, List.getElem?_take, if_pos (by show j * 3 + i < l.length * 3; omega), Nat.zero_add]
      show _ = cur.toList[j * 3 + i]?
      simp
    exact ⟨key 0 (by omega), key 1 (by omega), key 2 (by omega)⟩
theorem LB_at2 : ∀ (m : Nat) (l : List UInt8) (o : Nat), l.length ≤ m → ∀ ts, LB l o = .ok ts → ∀ t ∈ ts, ∃ j : Nat, t.f2 = ((o + j : Nat) : Int) ∧ j < l.length := by
  intro m
  induction m with
  | zero =>
    intro l o h ts hts t ht
    obtain rfl : l = [] := List.length_eq_zero_iff.1 (by omega)
    cases hts; cases ht
  | succ m ih =>
    intro l o h ts hts t ht
    by_cases hl : l = []
    · subst hl; cases hts; cases ht
    · rw [LB_step l o hl] at hts
      cases hs : stepB l with
      | none => rw [hs] at hts; cases hts
      | some x =>
        obtain ⟨n, k⟩ := x
        have hp := stepB_pos hs
        have hlen : (l.drop n).length = l.length - n := List.length_drop ..
        rw [hs] at hts
        cases k with
        | none =>
          obtain ⟨j, h1, h2⟩ := ih (l.drop n) (o + n) (by omega) ts hts t ht
          exact ⟨n + j, by rw [h1, Nat.add_assoc], by omega⟩
        | some k =>
          simp only at hts
          cases hr : LB (l.drop n) (o + n) with
          | error e => rw [hr] at hts; cases hts
          | ok ts1 =>
            rw [hr] at hts
            cases hts
            rcases List.mem_cons.1 ht with e | e
            · subst e; exact ⟨0, rfl, by omega⟩
            · obtain ⟨j, h1, h2⟩ := ih (l.drop n) (o + n) (by omega) ts1 hr t e
              exact ⟨n + j, by rw [h1, Nat.add_assoc], by omega⟩
theorem joins_at {t : ByteArray} {M : List S34} (ht : t.size ≤ 900) (h : LB t.data.toList 0 = .ok M) : ∀ (j : Nat) (y : S34), (M ++ [endK t.size])[j]? = some y → 0 ≤ y.f2 ∧ y.f2 ≤ 1000 := by
  intro j y hy
  rcases List.mem_append.1 (List.mem_of_getElem? hy) with q | q
  · obtain ⟨k, h1, h2⟩ := LB_at2 _ _ _ (Nat.le_refl _) M h y q
    rw [← Lib.size_eq] at h2
    omega
  · rw [List.mem_singleton.1 q]
    show 0 ≤ ((t.size : Nat) : Int) ∧ ((t.size : Nat) : Int) ≤ 1000
    omega

end Go.Proofs.YtdfjjimmnbijmaaDoor.LJ

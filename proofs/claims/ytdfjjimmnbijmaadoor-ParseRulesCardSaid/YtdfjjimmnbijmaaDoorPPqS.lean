import Derived.Test.YtdfjjimmnbijmaaDoorPPm
namespace Go.Proofs.YtdfjjimmnbijmaaDoor.PP
open Go.RowKit Go.Proofs.YtdfjjimmnbijmaaDoorW.PrintWords Go.Proofs.YtdfjjimmnbijmaaDoorW.PrintLast Go.Proofs.YtdfjjimmnbijmaaDoorW.PrintMore Go.Proofs.YtdfjjimmnbijmaaDoor.Base
attribute [local go_sem] max2_int min2_int max_two min_two max_three min_three max_four min_four
set_option linter.unusedVariables false
set_option linter.unusedSimpArgs false
theorem succ {α : Type} {g : Nat → Option α} {r : α} (h : Ev (fun k => g (k + 1)) r) : Ev g r := Ev.step (fun _ => rfl) h
theorem w1 {i : Nat} (h : i < 9223372036854775807) : wrap64 ((i : Int) + 1) = ((i + 1 : Nat) : Int) := by unfold wrap64; omega
theorem wr {i : Int} (h : -9223372036854775808 ≤ i) (h' : i ≤ 9223372036854775807) : wrap64 i = i := by unfold wrap64; omega
theorem now {α : Type} {r r' : α} (h : r = r') : Ev (fun _ => some r) r' := h ▸ Ev.now r
theorem evc {α : Type} {g : Nat → Option α} {r r' : α} (h : Ev g r) (e : r = r') : Ev g r' := e ▸ h
theorem drop_cons {α : Type} {l : List α} {i : Nat} (h : i < l.length) : l.drop i = l[i] :: l.drop (i + 1) := List.drop_eq_getElem_cons h
theorem str_eq (a b : ByteArray) : a.toList = b.toList ↔ a = b := ⟨tl_inj, fun h => h ▸ rfl⟩
theorem nil_iff (a : ByteArray) : a.toList = [] ↔ a.size = 0 := by
 rw [Lib.toList_data, Lib.size_eq, List.length_eq_zero_iff]
theorem evP {α : Type} {c : Prop} [Decidable c] {g g' : Nat → Option α} {r : α} (hc : c) (h : Ev g r) : Ev (fun k => if c then g k else g' k) r := by
 have e : (fun k => if c then g k else g' k) = g := by funext k; rw [if_pos hc]
 rw [e]; exact h
theorem evN {α : Type} {c : Prop} [Decidable c] {g g' : Nat → Option α} {r : α} (hc : ¬ c) (h : Ev g' r) : Ev (fun k => if c then g k else g' k) r := by
 have e : (fun k => if c then g k else g' k) = g' := by funext k; rw [if_neg hc]
 rw [e]; exact h
/-- A sign's text at a place: by its bytes. -/
theorem preS_1 (s : ByteArray) (p : Nat) (hp : p < s.size) (c : UInt8) : preS (s.extract p s.size) ⟨#[c]⟩ = (bt s p == (c.toNat : Int)) := by
 have hl : p < s.data.toList.length := by rw [← Lib.size_eq]; exact hp
 unfold preS
 have e1 : (⟨#[c]⟩ : ByteArray).size = 1 := rfl
 have e2 : (⟨#[c]⟩ : ByteArray).toList = [c] := by rw [Lib.toList_data]
 rw [e1, e2, Lib.extract_toList, Lib.extract_data, List.drop_zero]
 have ht : (s.data.toList.drop p).take (s.size - p) = s.data.toList.drop p := by
  rw [List.take_of_length_le]; rw [List.length_drop, ← Lib.size_eq]; exact Nat.le_refl _
 rw [ht, drop_cons hl, bt_get s p _ (List.getElem?_eq_getElem hl)]
 simp
 rw [Bool.eq_iff_iff]
 simp
 constructor
 ·rintro ⟨_, h⟩; rw [h]
 ·intro h; exact ⟨by omega, UInt8.toNat_inj.1 (by omega)⟩
theorem preS_2 (s : ByteArray) (p : Nat) (hp : p < s.size) (c d : UInt8) : preS (s.extract p s.size) ⟨#[c, d]⟩ = (bt s p == (c.toNat : Int) && (decide (p + 1 < s.size) && bt s ((p + 1 : Nat) : Int) == (d.toNat : Int))) := by
 have hl : p < s.data.toList.length := by rw [← Lib.size_eq]; exact hp
 unfold preS
 have e1 : (⟨#[c, d]⟩ : ByteArray).size = 2 := rfl
 have e2 : (⟨#[c, d]⟩ : ByteArray).toList = [c, d] := by rw [Lib.toList_data]
 rw [e1, e2, Lib.extract_toList, Lib.extract_data, List.drop_zero]
 have ht : (s.data.toList.drop p).take (s.size - p) = s.data.toList.drop p := by
  rw [List.take_of_length_le]; rw [List.length_drop, ← Lib.size_eq]; exact Nat.le_refl _
 rw [ht, drop_cons hl, bt_get s p _ (List.getElem?_eq_getElem hl)]
 by_cases h2 : p + 1 < s.size
 ·have hl2 : p + 1 < s.data.toList.length := by rw [← Lib.size_eq]; exact h2
  rw [drop_cons hl2, bt_get s (p + 1) _ (List.getElem?_eq_getElem hl2)]
  simp
  rw [Bool.eq_iff_iff]
  simp
  constructor
  ·rintro ⟨_, h, h'⟩; rw [h, h']; exact ⟨rfl, h2, rfl⟩
  ·rintro ⟨h, _, h'⟩; exact ⟨by omega, UInt8.toNat_inj.1 (by omega), UInt8.toNat_inj.1 (by omega)⟩
 ·rw [List.drop_of_length_le (by rw [← Lib.size_eq]; omega)]
  simp [h2]

def sgS (c : Int) (two : Bool) : Nat :=
 if two = true ∧ (c = 61 ∨ c = 33 ∨ c = 60 ∨ c = 62) then 2 else if c = 60 ∨ c = 62 ∨ c = 38 ∨ c = 40 ∨ c = 41 then 1 else 0
theorem sign_size (s : ByteArray) (p : Nat) (hp : p < s.size) : (signFrom (s.extract p s.size) signsL).size = sgS (bt s p) (decide (p + 1 < s.size) && bt s ((p + 1 : Nat) : Int) == 61) := by
 simp only [signsL, signFrom, preS_1 s p hp, preS_2 s p hp]
 generalize bt s (p : Int) = c
 have e61 : ((61 : UInt8).toNat : Int) = 61 := rfl
 have e33 : ((33 : UInt8).toNat : Int) = 33 := rfl
 have e60 : ((60 : UInt8).toNat : Int) = 60 := rfl
 have e62 : ((62 : UInt8).toNat : Int) = 62 := rfl
 have e38 : ((38 : UInt8).toNat : Int) = 38 := rfl
 have e40 : ((40 : UInt8).toNat : Int) = 40 := rfl
 have e41 : ((41 : UInt8).toNat : Int) = 41 := rfl
 rw [e61, e33, e60, e62, e38, e40, e41]
 generalize (decide (p + 1 < s.size) && bt s ((p + 1 : Nat) : Int) == 61) = two
 unfold sgS
 cases two with
 | true =>
  simp only [Bool.and_true, beq_iff_eq, true_and]
  by_cases h1 : c = 61
  ·rw [if_pos h1, if_pos (Or.inl h1)]; rfl
  rw [if_neg h1]
  by_cases h2 : c = 33
  ·rw [if_pos h2, if_pos (by omega)]; rfl
  rw [if_neg h2]
  by_cases h3 : c = 60
  ·rw [if_pos h3, if_pos (by omega)]; rfl
  rw [if_neg h3]
  by_cases h4 : c = 62
  ·rw [if_pos h4, if_pos (by omega)]; rfl
  rw [if_neg h4, if_neg h3, if_neg h4, if_neg (show ¬ (c = 61 ∨ c = 33 ∨ c = 60 ∨ c = 62) by omega)]
  by_cases h5 : c = 38
  ·rw [if_pos h5, if_pos (by omega)]; rfl
  rw [if_neg h5]
  by_cases h6 : c = 40
  ·rw [if_pos h6, if_pos (by omega)]; rfl
  rw [if_neg h6]
  by_cases h7 : c = 41
  ·rw [if_pos h7, if_pos (by omega)]; rfl
  rw [if_neg h7, if_neg (by omega)]; rfl
 | false =>
  simp only [Bool.and_false, beq_iff_eq, false_and, if_neg (show ¬ (false = true) by decide)]
  by_cases h3 : c = 60
  ·rw [if_pos h3, if_neg (by simp), if_pos (by omega)]; rfl
  rw [if_neg h3]
  by_cases h4 : c = 62
  ·rw [if_pos h4, if_neg (by simp), if_pos (by omega)]; rfl
  rw [if_neg h4]
  by_cases h5 : c = 38
  ·rw [if_pos h5, if_neg (by simp), if_pos (by omega)]; rfl
  rw [if_neg h5]
  by_cases h6 : c = 40
  ·rw [if_pos h6, if_neg (by simp), if_pos (by omega)]; rfl
  rw [if_neg h6]
  by_cases h7 : c = 41
  ·rw [if_pos h7, if_neg (by simp), if_pos (by omega)]; rfl
  rw [if_neg h7, if_neg (by simp), if_neg (by omega)]; rfl
theorem stepL_kind {s : ByteArray} {p n : Nat} {k : Int} (h : stepL s p = some (n, some k)) : 1 ≤ k ∧ k ≤ 4 := by
 unfold stepL at h
 split at h
 ·cases h
 split at h
 ·cases h
 split at h
 ·cases h; omega
 split at h
 ·cases h; omega
 split at h
 ·split at h
  ·cases h; omega
  ·cases h
 split at h
 ·cases h
 ·cases h; omega
theorem LX_kind (s : ByteArray) : ∀ (d p : Nat), s.size - p ≤ d → p ≤ s.size → ∀ l, LX s p = .ok l → ∀ t ∈ l, 1 ≤ t.f0 ∧ t.f0 ≤ 4 := by
 intro d
 induction d with
 | zero =>
  intro p hd hp l h t ht
  rw [LX_end s (by omega)] at h
  cases h; cases ht
 | succ d ih =>
  intro p hd hp l h t ht
  by_cases hlt : p < s.size
  ·rw [LX_step s hlt] at h
   cases hst : stepL s p with
   | none => rw [hst] at h; cases h
   | some x =>
    obtain ⟨n, kk⟩ := x
    have hn := stepL_pos hlt hst
    rw [hst] at h
    cases kk with
    | none => exact ih (p + n) (by omega) hn.2 l h t ht
    | some kd =>
     have hk := stepL_kind hst
     simp only at h
     cases hr : LX s (p + n) with
     | error e => rw [hr] at h; cases h
     | ok m =>
      rw [hr] at h
      cases h
      rcases List.mem_cons.1 ht with e | e
      ·subst e; exact hk
      ·exact ih (p + n) (by omega) hn.2 m hr t e
  ·rw [LX_end s (by omega)] at h
   cases h; cases ht
/-! ### the lexer over a row of bytes: what is read at a place hangs on what stands from there on alone -/
def mkB (l : List UInt8) : ByteArray := ⟨l.toArray⟩
theorem mkB_data (l : List UInt8) : (mkB l).data.toList = l := by simp [mkB]
theorem mkB_size (l : List UInt8) : (mkB l).size = l.length := by rw [Lib.size_eq, mkB_data]
theorem ba_ext {a b : ByteArray} (h : a.data.toList = b.data.toList) : a = b := by
 apply ByteArray.ext; apply Array.ext'; exact h
theorem mkB_of (s : ByteArray) : mkB s.data.toList = s := ba_ext (mkB_data _)
theorem extract_mkB (s : ByteArray) (p n : Nat) : s.extract p (p + n) = mkB ((s.data.toList.drop p).take n) := by
 apply ba_ext
 rw [mkB_data, Lib.extract_data, Nat.add_sub_cancel_left]
def runB (p : Int → Bool) (l : List UInt8) : Nat := (l.takeWhile fun c => p c.toNat).length
theorem runS_B (p : Int → Bool) (s : ByteArray) : ∀ d i, i + d = s.size → runS p s d i = runB p (s.data.toList.drop i) := by
 intro d
 induction d with
 | zero =>
  intro i hi
  rw [List.drop_of_length_le (by rw [← Lib.size_eq]; omega)]; rfl
 | succ d ih =>
  intro i hi
  have hil : i < s.data.toList.length := by rw [← Lib.size_eq]; omega
  rw [runS, drop_cons hil, bt_get s i _ (List.getElem?_eq_getElem hil), ih (i + 1) (by omega)]
  unfold runB
  rw [List.takeWhile_cons]
  split
  ·rename_i h; simp [h]
  ·rename_i h; simp [h]
def stepB : List UInt8 → Option (Nat × Option Int)
 | [] => none
 | c :: r =>
  if c.toNat = 32 ∨ c.toNat = 9 ∨ c.toNat = 13 then some (1, none)
  else if c.toNat = 35 then some (runB notNl (c :: r), none)
  else if c.toNat = 10 then some (1, some 4)
  else if letS c.toNat then some (runB eitS (c :: r), some 1)
  else if dS c.toNat then (if (numS (mkB ((c :: r).take (runB eitS (c :: r))))).isSome then some (runB eitS (c :: r), some 2) else none)
  else if sgS c.toNat (r.head? == some 61) = 0 then none else some (sgS c.toNat (r.head? == some 61), some 3)
theorem head_two (s : ByteArray) (p : Nat) : (decide (p + 1 < s.size) && bt s ((p + 1 : Nat) : Int) == 61) = ((s.data.toList.drop (p + 1)).head? == some 61) := by
 by_cases h : p + 1 < s.size
 ·have hl : p + 1 < s.data.toList.length := by rw [← Lib.size_eq]; exact h
  rw [drop_cons hl, bt_get s (p + 1) _ (List.getElem?_eq_getElem hl), decide_eq_true h, Bool.true_and, List.head?_cons]
  generalize s.data.toList[p + 1] = c
  rw [Bool.eq_iff_iff, beq_iff_eq, beq_iff_eq, Option.some.injEq]
  have e : (61 : UInt8).toNat = 61 := rfl
  rw [← UInt8.toNat_inj, e]
  omega
 ·rw [decide_eq_false h, Bool.false_and, List.drop_of_length_le (by rw [← Lib.size_eq]; omega)]
  rfl
theorem stepL_B (s : ByteArray) (p : Nat) (hp : p < s.size) : stepL s p = stepB (s.data.toList.drop p) := by
 have hpl : p < s.data.toList.length := by rw [← Lib.size_eq]; exact hp
 have hr1 := runS_B notNl s (s.size - p) p (by omega)
 have hr2 := runS_B eitS s (s.size - p) p (by omega)
 have hsg := sign_size s p hp
 rw [head_two] at hsg
 unfold stepL
 rw [hr1, hr2, hsg, extract_mkB]
 have hd := drop_cons hpl
 rw [bt_get s p _ (List.getElem?_eq_getElem hpl)]
 rw [hd]
 generalize s.data.toList[p] = c
 generalize s.data.toList.drop (p + 1) = r
 have i1 : ((c.toNat : Int) = 32 ∨ (c.toNat : Int) = 9 ∨ (c.toNat : Int) = 13) ↔ (c.toNat = 32 ∨ c.toNat = 9 ∨ c.toNat = 13) := by omega
 have i2 : ((c.toNat : Int) = 35) ↔ c.toNat = 35 := by omega
 have i3 : ((c.toNat : Int) = 10) ↔ c.toNat = 10 := by omega
 simp only [stepB, i1, i2, i3]
def consT (t : S34) : Except Nat (List S34) → Except Nat (List S34)
 | .ok l => .ok (t :: l)
 | .error e => .error e
def lexB : Nat → List UInt8 → Nat → Except Nat (List S34)
 | 0, _, _ => .ok []
 | d + 1, l, o =>
  if l = [] then .ok []
  else match stepB l with
   | none => .error o
   | some (n, none) => lexB d (l.drop n) (o + n)
   | some (n, some k) => consT ⟨k, mkB (l.take n), o⟩ (lexB d (l.drop n) (o + n))
theorem LX_B (s : ByteArray) : ∀ d p, p ≤ s.size → lexG s d p = lexB d (s.data.toList.drop p) p := by
 intro d
 induction d with
 | zero => intro p _; rfl
 | succ d ih =>
  intro p hp
  by_cases hlt : p < s.size
  ·have hne : s.data.toList.drop p ≠ [] := by
    intro h
    have := congrArg List.length h
    rw [List.length_drop, ← Lib.size_eq] at this
    simp at this; omega
   rw [lexG, if_pos hlt, lexB, if_neg hne, stepL_B s p hlt]
   cases hst : stepB (s.data.toList.drop p) with
   | none => rfl
   | some x =>
    obtain ⟨n, kk⟩ := x
    have hn := stepL_pos hlt ((stepL_B s p hlt).trans hst)
    have e1 : lexG s d (p + n) = lexB d ((s.data.toList.drop p).drop n) (p + n) := by rw [List.drop_drop]; exact ih (p + n) hn.2
    cases kk with
    | none => exact e1
    | some k =>
     simp only [e1, extract_mkB]
     cases lexB d ((s.data.toList.drop p).drop n) (p + n) <;> rfl
  ·have hnil : s.data.toList.drop p = [] := List.drop_of_length_le (by rw [← Lib.size_eq]; omega)
   rw [lexG, if_neg hlt, lexB, if_pos hnil]
theorem stepB_pos {l : List UInt8} {n : Nat} {k : Option Int} (h : stepB l = some (n, k)) : 1 ≤ n ∧ n ≤ l.length := by
 have hne : 0 < l.length := by cases l with | nil => cases h | cons c r => simp
 have := stepL_B (mkB l) 0 (by rw [mkB_size]; exact hne)
 rw [mkB_data, List.drop_zero, h] at this
 have hp := stepL_pos (by rw [mkB_size]; exact hne) this
 rw [mkB_size] at hp
 omega
theorem stepB_kind {l : List UInt8} {n : Nat} {k : Int} (h : stepB l = some (n, some k)) : 1 ≤ k ∧ k ≤ 4 := by
 have hne : 0 < l.length := by cases l with | nil => cases h | cons c r => simp
 have := stepL_B (mkB l) 0 (by rw [mkB_size]; exact hne)
 rw [mkB_data, List.drop_zero, h] at this
 exact stepL_kind this
theorem lexB_fuel : ∀ (d d' : Nat) (l : List UInt8) (o : Nat), l.length ≤ d → l.length ≤ d' → lexB d l o = lexB d' l o
 | 0, 0, _, _, _, _ => rfl
 | 0, d' + 1, l, o, h, _ => by
  have : l = [] := List.length_eq_zero_iff.1 (by omega)
  rw [lexB, lexB, if_pos this]
 | d + 1, 0, l, o, _, h => by
  have : l = [] := List.length_eq_zero_iff.1 (by omega)
  rw [lexB, lexB, if_pos this]
 | d + 1, d' + 1, l, o, h1, h2 => by
  rw [lexB, lexB]
  by_cases hl : l = []
  ·rw [if_pos hl, if_pos hl]
  ·rw [if_neg hl, if_neg hl]
   cases hs : stepB l with
   | none => rfl
   | some x =>
    obtain ⟨n, k⟩ := x
    have := stepB_pos hs
    have e := lexB_fuel d d' (l.drop n) (o + n) (by simp; omega) (by simp; omega)
    cases k with
    | none => exact e
    | some k => simp only [e]
/-- The tokens of a row of bytes that stands at a place. -/
def LB (l : List UInt8) (o : Nat) : Except Nat (List S34) := lexB l.length l o
theorem LX_LB (s : ByteArray) (p : Nat) (hp : p ≤ s.size) : LX s p = LB (s.data.toList.drop p) p := by
 unfold LX LB
 rw [LX_B s _ p hp, List.length_drop, ← Lib.size_eq]
theorem LB_nil (o : Nat) : LB [] o = .ok [] := rfl
theorem LB_step (l : List UInt8) (o : Nat) (h : l ≠ []) : LB l o = match stepB l with
   | none => .error o
   | some (n, none) => LB (l.drop n) (o + n)
   | some (n, some k) => consT ⟨k, mkB (l.take n), o⟩ (LB (l.drop n) (o + n)) := by
 obtain ⟨m, hm⟩ : ∃ m, l.length = m + 1 := ⟨l.length - 1, by have := List.length_pos_iff.2 h; omega⟩
 unfold LB
 rw [hm, lexB, if_neg h]
 cases hs : stepB l with
 | none => rfl
 | some x =>
  obtain ⟨n, k⟩ := x
  have hp := stepB_pos hs
  have e := lexB_fuel m (l.drop n).length (l.drop n) (o + n) (by simp; omega) (Nat.le_refl _)
  cases k with
  | none => exact e
  | some k => simp only [e]
/-! ### rows of bytes put together: what is put between two tokens, and sources that are joined -/
theorem runB_cons (p : Int → Bool) (c : UInt8) (r : List UInt8) : runB p (c :: r) = if p c.toNat = true then runB p r + 1 else 0 := by
 unfold runB
 rw [List.takeWhile_cons]
 split <;> simp_all
theorem runB_nil (p : Int → Bool) : runB p [] = 0 := rfl
theorem runB_le (p : Int → Bool) : ∀ l : List UInt8, runB p l ≤ l.length
 | [] => Nat.le_refl _
 | c :: r => by
  have := runB_le p r
  rw [runB_cons]
  split <;> simp <;> omega
theorem runB_app (p : Int → Bool) (c : UInt8) (t : List UInt8) (hc : p c.toNat = false) : ∀ l : List UInt8, runB p (l ++ c :: t) = runB p l
 | [] => by rw [List.nil_append, runB_cons, hc]; rfl
 | d :: r => by rw [List.cons_append, runB_cons, runB_cons, runB_app p c t hc r]
theorem stepB_cons (c : UInt8) (r : List UInt8) : stepB (c :: r) =
  if c.toNat = 32 ∨ c.toNat = 9 ∨ c.toNat = 13 then some (1, none)
  else if c.toNat = 35 then some (runB notNl (c :: r), none)
  else if c.toNat = 10 then some (1, some 4)
  else if letS c.toNat then some (runB eitS (c :: r), some 1)
  else if dS c.toNat then (if (numS (mkB ((c :: r).take (runB eitS (c :: r))))).isSome then some (runB eitS (c :: r), some 2) else none)
  else if sgS c.toNat (r.head? == some 61) = 0 then none else some (sgS c.toNat (r.head? == some 61), some 3) := rfl
theorem stepB_app {l : List UInt8} (hl : l ≠ []) (c : UInt8) (t : List UInt8) (h1 : eitS c.toNat = false) (h2 : c ≠ 61) (h3 : c.toNat = 10 ∨ l.head? ≠ some 35) : stepB (l ++ c :: t) = stepB l := by
 cases l with
 | nil => exact absurd rfl hl
 | cons d r =>
  have e := runB_app eitS c t h1 (d :: r)
  have et : ((d :: r) ++ c :: t).take (runB eitS (d :: r)) = (d :: r).take (runB eitS (d :: r)) := List.take_append_of_le_length (runB_le _ _)
  rw [List.cons_append] at e et ⊢
  rw [stepB_cons, stepB_cons, e, et]
  have es : ((r ++ c :: t).head? == some 61) = (r.head? == some 61) := by
   cases r with
   | nil => simp [h2]
   | cons x y => rfl
  rw [es]
  by_cases h4 : d.toNat = 35
  ·have h5 : c.toNat = 10 := by
    rcases h3 with h | h
    ·exact h
    ·exact absurd (by rw [List.head?_cons, ← UInt8.toNat_inj.1 (show d.toNat = (35 : UInt8).toNat from h4)]) h
   have e2 := runB_app notNl c t (by simp [notNl, h5]) (d :: r)
   rw [List.cons_append] at e2
   rw [e2]
  ·rw [if_neg h4, if_neg h4]
def shT (d : Nat) (t : S34) : S34 := ⟨t.f0, t.f1, t.f2 + d⟩
def shE (d : Nat) : Except Nat (List S34) → Except Nat (List S34)
 | .ok l => .ok (l.map (shT d))
 | .error e => .error (e + d)
theorem LB_shift : ∀ (m : Nat) (l : List UInt8) (o d : Nat), l.length ≤ m → LB l (o + d) = shE d (LB l o) := by
 intro m
 induction m with
 | zero =>
  intro l o d h
  obtain rfl : l = [] := List.length_eq_zero_iff.1 (by omega)
  rfl
 | succ m ih =>
  intro l o d h
  by_cases hl : l = []
  ·subst hl; rfl
  ·rw [LB_step l (o + d) hl, LB_step l o hl]
   cases hs : stepB l with
   | none => rfl
   | some x =>
    obtain ⟨n, k⟩ := x
    have hp := stepB_pos hs
    have e := ih (l.drop n) (o + n) d (by simp; omega)
    rw [Nat.add_right_comm] at e
    cases k with
    | none => exact e
    | some k =>
     simp only [e]
     cases LB (l.drop n) (o + n) <;> simp [consT, shE, shT]
def joinE : Except Nat (List S34) → Except Nat (List S34) → Except Nat (List S34)
 | .error e, _ => .error e
 | .ok a, x => ahead a x
theorem joinE_cons (t : S34) (x y : Except Nat (List S34)) : joinE (consT t x) y = consT t (joinE x y) := by
 cases x <;> cases y <;> rfl
theorem LB_line (t : List UInt8) (o : Nat) : LB (10 :: t) o = consT ⟨4, mkB [10], o⟩ (LB t (o + 1)) := by
 rw [LB_step _ _ (by simp), show stepB (10 :: t) = some (1, some 4) from rfl]
 rfl
/-- Two sources with an end of line between. -/
theorem LB_join (t : List UInt8) : ∀ (m : Nat) (A : List UInt8) (o : Nat), A.length ≤ m → LB (A ++ 10 :: t) o = joinE (LB A o) (consT ⟨4, mkB [10], ((o + A.length : Nat) : Int)⟩ (LB t (o + A.length + 1))) := by
 intro m
 induction m with
 | zero =>
  intro A o h
  obtain rfl : A = [] := List.length_eq_zero_iff.1 (by omega)
  rw [List.nil_append, LB_line, LB_nil]
  simp only [joinE, List.length_nil, Nat.add_zero]
  cases LB t (o + 1) <;> rfl
 | succ m ih =>
  intro A o h
  by_cases hA : A = []
  ·subst hA
   rw [List.nil_append, LB_line, LB_nil]
   simp only [joinE, List.length_nil, Nat.add_zero]
   cases LB t (o + 1) <;> rfl
  have hne : A ++ 10 :: t ≠ [] := fun e => hA (List.append_eq_nil_iff.1 e).1
  rw [LB_step _ _ hne, LB_step _ _ hA, stepB_app hA 10 t (by decide) (by decide) (Or.inl (by decide))]
  cases hs : stepB A with
  | none => rfl
  | some x =>
   obtain ⟨n, k⟩ := x
   have hp := stepB_pos hs
   have hdrop : (A ++ 10 :: t).drop n = A.drop n ++ 10 :: t := List.drop_append_of_le_length hp.2
   have htake : (A ++ 10 :: t).take n = A.take n := List.take_append_of_le_length hp.2
   have hlen : (A.drop n).length = A.length - n := List.length_drop ..
   have e := ih (A.drop n) (o + n) (by omega)
   have ho : o + n + (A.drop n).length = o + A.length := by omega
   rw [ho] at e
   cases k with
   | none => simp only [hdrop]; exact e
   | some k => simp only [hdrop, htake]; rw [e, ← joinE_cons]
theorem mkB_app (a b : List UInt8) : mkB a ++ mkB b = mkB (a ++ b) := by
 apply ba_ext
 rw [mkB_data]
 simp [mkB]
/-! ### what a row of tokens is refused with -/
abbrev TK := S34
def isT (k : Int) (x : ByteArray) (t : TK) : Bool := t.f0 == k && (x.toList.isEmpty || t.f1.toList == x.toList)
theorem isT_k {k : Int} {x : ByteArray} {t : TK} (h : isT k x t = true) : t.f0 = k := by
 unfold isT at h
 rw [Bool.and_eq_true, beq_iff_eq] at h
 exact h.1
theorem isP_T (k : Int) (x : ByteArray) (m : List TK) : isP k x m = isT k x (hd m) := rfl
def endK (n : Nat) : S34 := ⟨0, ⟨#[]⟩, n⟩
theorem lexS_B (s : ByteArray) (hs : s.size ≤ 2000) : lexS s = match LB s.data.toList 0 with | .ok l => (l ++ [endK s.size], 0, 0) | .error p => ([], 60, p) := by
 have h := LX_LB s 0 (Nat.zero_le _)
 unfold LX at h
 rw [Nat.sub_zero, List.drop_zero] at h
 have he : s.extract s.size s.size = ⟨#[]⟩ := by
  apply ba_ext
  rw [Lib.extract_data, Nat.sub_self, List.take_zero]
 unfold lexS
 rw [if_neg (by omega), h]
 cases LB s.data.toList 0 with
 | ok l => simp only [lexR, he]; rfl
 | error p => rfl
/-- What the lexer makes of a source that has tokens. -/
theorem lexS_ok0 {s : ByteArray} (h : (lexS s).2.1 = 0) : s.size ≤ 2000 ∧ ∃ L, LB s.data.toList 0 = .ok L ∧ lexS s = (L ++ [endK s.size], 0, 0) := by
 have hs : s.size ≤ 2000 := by
  unfold lexS at h
  split at h
  ·cases h
  ·omega
 refine ⟨hs, ?_⟩
 have e := lexS_B s hs
 cases hL : LB s.data.toList 0 with
 | ok L => rw [hL] at e; exact ⟨L, rfl, e⟩
 | error p => rw [hL] at e; rw [e] at h; cases h
theorem bnd_err {α β : Type} {r : Except (Int × Int) α} {f : α → Except (Int × Int) β} {e : Int × Int} (h : bnd r f = .error e) : r = .error e ∨ ∃ a, r = .ok a ∧ f a = .error e := by
 cases r with
 | error e' => exact Or.inl (by cases h; rfl)
 | ok a => exact Or.inr ⟨a, rfl, h⟩
def Bad (b : Int) : Prop := b = 61 ∨ b = 62
theorem take_bad {k : Int} {xs : List ByteArray} {m : List TK} {b p : Int} (h : takeP k xs m = .error (b, p)) : Bad b := by
 unfold takeP at h
 split at h
 ·cases h
 ·cases h; exact Or.inl rfl
theorem word_bad {m : List TK} {b p : Int} (h : wordP m = .error (b, p)) : Bad b := by
 unfold wordP at h
 split at h
 ·cases h; exact Or.inl rfl
 ·exact take_bad h
theorem num_bad {m : List TK} {b p : Int} (h : numP m = .error (b, p)) : Bad b := by
 rcases bnd_err h with h | ⟨a, _, h⟩
 ·exact take_bad h
 ·cases h
theorem mask_bad {m : List TK} {b p : Int} (h : maskP m = .error (b, p)) : Bad b := by
 unfold maskP at h
 split at h
 ·rcases bnd_err h with h | ⟨a, _, h⟩
  ·exact take_bad h
  ·exact num_bad h
 ·cases h
theorem test_bad {m : List TK} {b p : Int} (h : testP m = .error (b, p)) : Bad b := by
 rcases bnd_err h with h | ⟨a, _, h⟩
 ·exact take_bad h
 rcases bnd_err h with h | ⟨a, _, h⟩
 ·exact mask_bad h
 rcases bnd_err h with h | ⟨a, _, h⟩
 ·exact take_bad h
 rcases bnd_err h with h | ⟨a, _, h⟩
 ·exact num_bad h
 ·cases h
theorem isP_len {k : Int} {x : ByteArray} {m : List TK} (h : isP k x m = true) (hk : k ≠ 0) : m.tail.length + 1 = m.length := by
 cases m with
 | nil =>
  have := isT_k (t := hd ([] : List TK)) h
  exact absurd this.symm hk
 | cons a r => rfl
def PB (L : Nat) (f : List TK → Except (Int × Int) (S47 × List TK)) : Prop := ∀ m b p, m.length < L → f m = .error (b, p) → Bad b
theorem more_bad {L : Nat} {f : List TK → Except (Int × Int) (S47 × List TK)} (hp : PB L f) (hs : Shr f) (wd : ByteArray) : ∀ n acc m b p, m.length ≤ L → moreP f wd n acc m = .error (b, p) → Bad b
 | 0, acc, m, b, p, _, h => by cases h
 | n + 1, acc, m, b, p, hm, h => by
  rw [moreP] at h
  split at h
  ·rename_i hc
   have hl := isP_len hc (by decide)
   rcases bnd_err h with h | ⟨⟨c, m1⟩, h1, h⟩
   ·exact hp _ _ _ (by omega) h
   ·have q : m1.length ≤ m.tail.length := hs _ _ _ h1
    exact more_bad hp hs wd n _ _ _ _ (show m1.length ≤ L by omega) h
  ·cases h
theorem list_bad {L : Nat} {f : List TK → Except (Int × Int) (S47 × List TK)} (hp : PB L f) (hs : Shr f) (wd : ByteArray) (kind : Int) : PB L (listP f wd kind) := by
 intro m b p hm h
 rcases bnd_err h with h | ⟨⟨c, m1⟩, h1, h⟩
 ·exact hp _ _ _ hm h
 ·have q : m1.length ≤ m.length := hs _ _ _ h1
  rcases bnd_err h with h | ⟨y, _, h⟩
  ·exact more_bad hp hs wd _ _ _ _ _ (show m1.length ≤ L by omega) h
  ·cases h
theorem cond_bad {L : Nat} {f : List TK → Except (Int × Int) (S47 × List TK)} (hp : PB L f) (hs : Shr f) : PB L (condP f) := list_bad (list_bad hp hs andT 1) (list_shr hs andT 1) orT 2
theorem factor_bad : ∀ n deep, PB n (factorP n deep)
 | 0, deep => fun m b p hm h => absurd hm (by omega)
 | n + 1, deep => fun m b p hm h => by
  rw [factorP] at h
  split at h
  ·cases h; exact Or.inr rfl
  split at h
  ·rename_i hc
   have hl := isP_len hc (by decide)
   rcases bnd_err h with h | ⟨c, _, h⟩
   ·exact factor_bad n (deep + 1) _ _ _ (by omega) h
   ·cases h
  split at h
  ·rename_i hc
   have hl := isP_len hc (by decide)
   rcases bnd_err h with h | ⟨c, _, h⟩
   ·exact cond_bad (factor_bad n (deep + 1)) (factor_shr _ _) _ _ _ (by omega) h
   rcases bnd_err h with h | ⟨c, _, h⟩
   ·exact take_bad h
   ·cases h
  ·exact test_bad h
theorem act_bad {m : List TK} {b p : Int} (h : actP m = .error (b, p)) : Bad b := by
 rcases bnd_err h with h | ⟨a, _, h⟩
 ·exact word_bad h
 try simp only at h
 split at h
 ·rcases bnd_err h with h | ⟨a, _, h⟩
  ·exact num_bad h
  ·cases h
 ·cases h
theorem names_bad : ∀ n acc m b p, namesP n acc m = .error (b, p) → Bad b
 | 0, acc, m, b, p, h => by cases h
 | n + 1, acc, m, b, p, h => by
  rw [namesP] at h
  split at h
  ·rcases bnd_err h with h | ⟨c, _, h⟩
   ·exact word_bad h
   ·exact names_bad n _ _ _ _ h
  ·cases h
theorem rule_bad {m : List TK} {b p : Int} (h : ruleP m = .error (b, p)) : Bad b := by
 rcases bnd_err h with h | ⟨a, _, h⟩
 ·exact act_bad h
 rcases bnd_err h with h | ⟨c, _, h⟩
 ·exact word_bad h
 rcases bnd_err h with h | ⟨⟨ns, m3⟩, _, h⟩
 ·exact names_bad _ _ _ _ _ h
 try simp only at h
 split at h
 ·rename_i hc
  have hl := isP_len hc (by decide)
  rcases bnd_err h with h | ⟨c, _, h⟩
  ·exact cond_bad (factor_bad _ _) (factor_shr _ _) _ _ _ (by omega) h
  ·cases h
 ·cases h
theorem endP_bad {m : List TK} {b p : Int} (h : endP m = .error (b, p)) : Bad b := by
 unfold endP at h
 split at h
 ·cases h
 ·rcases bnd_err h with h | ⟨c, _, h⟩
  ·exact take_bad h
  ·cases h
theorem rules_bad : ∀ n acc m b p, rulesP n acc m = .error (b, p) → Bad b
 | 0, acc, m, b, p, h => by cases h
 | n + 1, acc, m, b, p, h => by
  rw [rulesP] at h
  split at h
  ·cases h
  ·rcases bnd_err h with h | ⟨c, _, h⟩
   ·exact rule_bad h
   rcases bnd_err h with h | ⟨d, _, h⟩
   ·exact endP_bad h
   ·exact rules_bad n _ _ _ _ h
theorem policy_bad {m : List TK} {b p : Int} (h : policyP m = .error (b, p)) : Bad b := by
 rcases bnd_err h with h | ⟨_, _, h⟩
 ·exact take_bad h
 rcases bnd_err h with h | ⟨_, _, h⟩
 ·exact word_bad h
 rcases bnd_err h with h | ⟨_, _, h⟩
 ·exact endP_bad h
 rcases bnd_err h with h | ⟨_, _, h⟩
 ·exact take_bad h
 rcases bnd_err h with h | ⟨_, _, h⟩
 ·exact act_bad h
 rcases bnd_err h with h | ⟨_, _, h⟩
 ·exact endP_bad h
 rcases bnd_err h with h | ⟨_, _, h⟩
 ·exact rules_bad _ _ _ _ _ h
 ·cases h
/-! ### lines that are doubled change nothing of what is read -/
inductive Dbl : List TK → List TK → Prop
 | nil : Dbl [] []
 | one {a a' : TK} {r r' : List TK} (h0 : a'.f0 = a.f0) (h1 : a'.f1 = a.f1) (h : Dbl r r') : Dbl (a :: r) (a' :: r')
 | two {a a' b' : TK} {r r' : List TK} (h0 : a.f0 = 4) (h1 : a'.f0 = 4) (h2 : b'.f0 = 4) (h : Dbl r r') : Dbl (a :: r) (a' :: b' :: r')
theorem Dbl.k0 {m m' : List TK} (d : Dbl m m') : (hd m').f0 = (hd m).f0 := by
 cases d with
 | nil => rfl
 | one h0 _ _ => exact h0
 | two h0 h1 _ _ => exact h1.trans h0.symm
theorem Dbl.k1 {m m' : List TK} (d : Dbl m m') (h : (hd m).f0 ≠ 4) : (hd m').f1 = (hd m).f1 ∧ Dbl m.tail m'.tail := by
 cases d with
 | nil => exact ⟨rfl, .nil⟩
 | one _ h1 h2 => exact ⟨h1, h2⟩
 | two h0 _ _ _ => exact absurd h0 h
theorem Dbl.isP_eq {m m' : List TK} (d : Dbl m m') (k : Int) (hk : k ≠ 4) (x : ByteArray) : isP k x m' = isP k x m := by
 unfold isP
 rw [d.k0]
 by_cases h : (hd m).f0 = 4
 ·rw [h, show ((4 : Int) == k) = false by simpa using Ne.symm hk]; rfl
 ·rw [(d.k1 h).1]
theorem Dbl.nil_of {m' : List TK} (d : Dbl [] m') : m' = [] := by cases d; rfl
theorem Dbl.of_nil {m : List TK} (d : Dbl m []) : m = [] := by cases d; rfl
theorem Dbl.tail_len {m m' : List TK} (d : Dbl m m') {k : Int} {x : ByteArray} (h : isP k x m = true) (hk : k ≠ 0) : m'.tail.length + 1 = m'.length ∧ m.tail.length + 1 = m.length := by
 have h0 : (hd m).f0 = k := by unfold isP at h; rw [Bool.and_eq_true, beq_iff_eq] at h; exact h.1
 cases d with
 | nil => exact absurd h0.symm hk
 | one _ _ _ => exact ⟨rfl, rfl⟩
 | two _ _ _ _ => exact ⟨rfl, rfl⟩
theorem take_D {k : Int} (hk : k ≠ 4) {xs : List ByteArray} {m m' l : List TK} {s : ByteArray} (d : Dbl m m') (h : takeP k xs m = .ok (s, l)) : ∃ l', takeP k xs m' = .ok (s, l') ∧ Dbl l l' := by
 unfold takeP at h ⊢
 split at h
 ·rename_i hc
  obtain ⟨rfl, rfl⟩ := Prod.mk.inj (Except.ok.inj h)
  have h0 : (hd m).f0 = k := by rw [Bool.and_eq_true, beq_iff_eq] at hc; exact hc.1
  obtain ⟨e1, e2⟩ := d.k1 (by rw [h0]; exact hk)
  rw [d.k0, e1, if_pos hc]
  exact ⟨_, rfl, e2⟩
 ·cases h
theorem word_D {m m' l : List TK} {s : ByteArray} (d : Dbl m m') (h : wordP m = .ok (s, l)) : ∃ l', wordP m' = .ok (s, l') ∧ Dbl l l' := by
 unfold wordP at h ⊢
 split at h
 ·cases h
 ·rename_i hr
  have h0 : (hd m).f0 = 1 := by
   obtain ⟨_, _, h2, _⟩ := takeP_ok h
   exact h2
  rw [(d.k1 (by rw [h0]; decide)).1, if_neg hr]
  exact take_D (by decide) d h
theorem num_D {m m' l : List TK} {s : Int} (d : Dbl m m') (h : numP m = .ok (s, l)) : ∃ l', numP m' = .ok (s, l') ∧ Dbl l l' := by
 obtain ⟨⟨a, m1⟩, h1, h2⟩ := bnd_inv h
 obtain ⟨m1', e1, d1⟩ := take_D (by decide) d h1
 obtain ⟨rfl, rfl⟩ := Prod.mk.inj (Except.ok.inj h2)
 exact ⟨m1', by unfold numP; rw [e1]; rfl, d1⟩
theorem mask_D {m m' l : List TK} {s : Int} (d : Dbl m m') (h : maskP m = .ok (s, l)) : ∃ l', maskP m' = .ok (s, l') ∧ Dbl l l' := by
 unfold maskP at h ⊢
 rw [d.isP_eq 3 (by decide)]
 split at h
 ·rename_i hc
  obtain ⟨⟨a, m1⟩, h1, h2⟩ := bnd_inv h
  obtain ⟨m1', e1, d1⟩ := take_D (by decide) d h1
  rw [if_pos hc, e1, bnd_ok]
  exact num_D d1 h2
 ·rename_i hc
  obtain ⟨rfl, rfl⟩ := Prod.mk.inj (Except.ok.inj h)
  rw [if_neg hc]
  exact ⟨m', rfl, d⟩
theorem test_D {m m' l : List TK} {x : S47} (d : Dbl m m') (h : testP m = .ok (x, l)) : ∃ l', testP m' = .ok (x, l') ∧ Dbl l l' := by
 obtain ⟨⟨a, m1⟩, h1, h⟩ := bnd_inv h
 obtain ⟨m1', e1, d1⟩ := take_D (by decide) d h1
 obtain ⟨⟨b, m2⟩, h2, h⟩ := bnd_inv h
 obtain ⟨m2', e2, d2⟩ := mask_D d1 h2
 obtain ⟨⟨c, m3⟩, h3, h⟩ := bnd_inv h
 obtain ⟨m3', e3, d3⟩ := take_D (by decide) d2 h3
 obtain ⟨⟨v, m4⟩, h4, h⟩ := bnd_inv h
 obtain ⟨m4', e4, d4⟩ := num_D d3 h4
 obtain ⟨rfl, rfl⟩ := Prod.mk.inj (Except.ok.inj h)
 refine ⟨m4', ?_, d4⟩
 unfold testP
 rw [e1, bnd_ok, e2, bnd_ok, e3, bnd_ok, e4, bnd_ok]
def DS (n1 n2 : Nat) (p1 p2 : List TK → Except (Int × Int) (S47 × List TK)) : Prop := ∀ m m' x l, m.length ≤ n1 → m'.length ≤ n2 → Dbl m m' → p1 m = .ok (x, l) → ∃ l', p2 m' = .ok (x, l') ∧ Dbl l l'
theorem more_D {L1 L2 : Nat} {p1 p2 : List TK → Except (Int × Int) (S47 × List TK)} (hp : DS L1 L2 p1 p2) (s1 : Shr p1) (s2 : Shr p2) (wd : ByteArray) : ∀ n1 n2 acc m m' y l, m.length ≤ n1 → m'.length ≤ n2 → m.length ≤ L1 + 1 → m'.length ≤ L2 + 1 → Dbl m m' → moreP p1 wd n1 acc m = .ok (y, l) → ∃ l', moreP p2 wd n2 acc m' = .ok (y, l') ∧ Dbl l l' := by
 intro n1
 induction n1 with
 | zero =>
  intro n2 acc m m' y l h1 h2 _ _ d h
  obtain rfl : m = [] := List.length_eq_zero_iff.1 (by omega)
  obtain rfl := d.nil_of
  cases h
  refine ⟨[], ?_, .nil⟩
  cases n2 with
  | zero => rfl
  | succ n2 => rw [moreP, if_neg]; unfold isP; simp [hd, z34]
 | succ n1 ih =>
  intro n2 acc m m' y l h1 h2 g1 g2 d h
  rw [moreP] at h
  cases n2 with
  | zero =>
   obtain rfl : m' = [] := List.length_eq_zero_iff.1 (by omega)
   obtain rfl := d.of_nil
   rw [if_neg (by unfold isP; simp [hd, z34])] at h
   cases h
   exact ⟨[], rfl, .nil⟩
  | succ n2 =>
   rw [moreP, d.isP_eq 1 (by decide)]
   split at h
   ·rename_i hc
    rw [if_pos hc]
    obtain ⟨t1, t2⟩ := d.tail_len hc (by decide)
    have h0 := isP_ne hc
    obtain ⟨⟨c, m1⟩, h3, h⟩ := bnd_inv h
    obtain ⟨m1', e1, d1⟩ := hp _ _ _ _ (by omega) (by omega) (d.k1 (by rw [h0]; decide)).2 h3
    rw [e1, bnd_ok]
    have q1 := s1 _ _ _ h3
    have q2 := s2 _ _ _ e1
    exact ih n2 _ m1 m1' y l (by omega) (by omega) (by omega) (by omega) d1 h
   ·rename_i hc
    rw [if_neg hc]
    obtain ⟨rfl, rfl⟩ := Prod.mk.inj (Except.ok.inj h)
    exact ⟨m', rfl, d⟩
theorem list_D {L1 L2 : Nat} {p1 p2 : List TK → Except (Int × Int) (S47 × List TK)} (hp : DS L1 L2 p1 p2) (s1 : Shr p1) (s2 : Shr p2) (wd : ByteArray) (kind : Int) : DS L1 L2 (listP p1 wd kind) (listP p2 wd kind) := by
 intro m m' x l h1 h2 d h
 obtain ⟨⟨c, m1⟩, h3, h⟩ := bnd_inv h
 obtain ⟨m1', e1, d1⟩ := hp _ _ _ _ h1 h2 d h3
 obtain ⟨⟨y, m2⟩, h4, h⟩ := bnd_inv h
 have q1 := s1 _ _ _ h3
 have q2 := s2 _ _ _ e1
 obtain ⟨m2', e2, d2⟩ := more_D hp s1 s2 wd _ m'.length _ _ m1' _ _ q1 q2 (by show m1.length ≤ _; omega) (by omega) d1 h4
 obtain ⟨rfl, rfl⟩ := Prod.mk.inj (Except.ok.inj h)
 refine ⟨m2', ?_, d2⟩
 unfold listP
 rw [e1, bnd_ok, e2, bnd_ok]
 rfl
theorem cond_D {L1 L2 : Nat} {p1 p2 : List TK → Except (Int × Int) (S47 × List TK)} (hp : DS L1 L2 p1 p2) (s1 : Shr p1) (s2 : Shr p2) : DS L1 L2 (condP p1) (condP p2) :=
 list_D (list_D hp s1 s2 andT 1) (list_shr s1 andT 1) (list_shr s2 andT 1) orT 2
theorem factor_D : ∀ n1 n2 deep, DS n1 n2 (factorP n1 deep) (factorP n2 deep) := by
 intro n1
 induction n1 with
 | zero => intro n2 deep m m' x l _ _ _ h; cases h
 | succ n1 ih =>
  intro n2 deep m m' x l h1 h2 d h
  rw [factorP] at h
  cases n2 with
  | zero =>
   obtain rfl : m' = [] := List.length_eq_zero_iff.1 (by omega)
   obtain rfl := d.of_nil
   split at h
   ·cases h
   rw [if_neg (by unfold isP; simp [hd, z34]), if_neg (by unfold isP; simp [hd, z34])] at h
   obtain ⟨⟨a, m1⟩, h3, h⟩ := bnd_inv h
   obtain ⟨_, _, q, _⟩ := takeP_ok h3
   exact absurd q (by simp [hd, z34])
  | succ n2 =>
   rw [factorP, d.isP_eq 1 (by decide), d.isP_eq 3 (by decide)]
   split at h
   ·cases h
   rename_i hd8
   rw [if_neg hd8]
   split at h
   ·rename_i hc
    rw [if_pos hc]
    obtain ⟨t1, t2⟩ := d.tail_len hc (by decide)
    have h0 := isP_ne hc
    obtain ⟨⟨c, m1⟩, h3, h⟩ := bnd_inv h
    obtain ⟨m1', e1, d1⟩ := ih n2 (deep + 1) _ _ _ _ (by omega) (by omega) (d.k1 (by rw [h0]; decide)).2 h3
    obtain ⟨rfl, rfl⟩ := Prod.mk.inj (Except.ok.inj h)
    rw [e1, bnd_ok]
    exact ⟨m1', rfl, d1⟩
   rename_i hc1
   rw [if_neg hc1]
   split at h
   ·rename_i hc
    rw [if_pos hc]
    obtain ⟨t1, t2⟩ := d.tail_len hc (by decide)
    have h0 := isT_k (k := 3) (x := opT) (t := hd m) hc
    obtain ⟨⟨c, m1⟩, h3, h⟩ := bnd_inv h
    obtain ⟨m1', e1, d1⟩ := cond_D (ih n2 (deep + 1)) (factor_shr _ _) (factor_shr _ _) _ _ _ _ (by omega) (by omega) (d.k1 (by rw [h0]; decide)).2 h3
    obtain ⟨⟨s, m2⟩, h4, h⟩ := bnd_inv h
    obtain ⟨m2', e2, d2⟩ := take_D (by decide) d1 h4
    obtain ⟨rfl, rfl⟩ := Prod.mk.inj (Except.ok.inj h)
    rw [e1, bnd_ok, e2, bnd_ok]
    exact ⟨m2', rfl, d2⟩
   ·rename_i hc2
    rw [if_neg hc2]
    exact test_D d h
theorem act_D {m m' l : List TK} {x : ByteArray × Int} (d : Dbl m m') (h : actP m = .ok (x, l)) : ∃ l', actP m' = .ok (x, l') ∧ Dbl l l' := by
 obtain ⟨⟨a, m1⟩, h1, h⟩ := bnd_inv h
 obtain ⟨m1', e1, d1⟩ := word_D d h1
 unfold actP
 rw [e1, bnd_ok]
 show ∃ l', (if (hd m1').f0 = 2 then bnd (numP m1') fun y => .ok ((a, y.1), y.2) else .ok ((a, 0), m1')) = _ ∧ _
 rw [d1.k0]
 replace h : (if (hd m1).f0 = 2 then bnd (numP m1) fun y => .ok ((a, y.1), y.2) else .ok ((a, 0), m1)) = .ok (x, l) := h
 split at h
 ·rename_i hc
  rw [if_pos hc]
  obtain ⟨⟨v, m2⟩, h2, h⟩ := bnd_inv h
  obtain ⟨m2', e2, d2⟩ := num_D d1 h2
  obtain ⟨rfl, rfl⟩ := Prod.mk.inj (Except.ok.inj h)
  rw [e2, bnd_ok]
  exact ⟨m2', rfl, d2⟩
 ·rename_i hc
  rw [if_neg hc]
  obtain ⟨rfl, rfl⟩ := Prod.mk.inj (Except.ok.inj h)
  exact ⟨m1', rfl, d1⟩
theorem names_D : ∀ n1 n2 acc m m' y l, m.length ≤ n1 → m'.length ≤ n2 → Dbl m m' → namesP n1 acc m = .ok (y, l) → ∃ l', namesP n2 acc m' = .ok (y, l') ∧ Dbl l l' := by
 have e0 : (isP 1 emptyT ([] : List TK) && !resS (hd ([] : List TK)).f1) = false := by unfold isP; simp [hd, z34]
 intro n1
 induction n1 with
 | zero =>
  intro n2 acc m m' y l h1 h2 d h
  obtain rfl : m = [] := List.length_eq_zero_iff.1 (by omega)
  obtain rfl := d.nil_of
  cases h
  refine ⟨[], ?_, .nil⟩
  cases n2 with
  | zero => rfl
  | succ n2 => rw [namesP, if_neg (by rw [e0]; decide)]
 | succ n1 ih =>
  intro n2 acc m m' y l h1 h2 d h
  rw [namesP] at h
  cases n2 with
  | zero =>
   obtain rfl : m' = [] := List.length_eq_zero_iff.1 (by omega)
   obtain rfl := d.of_nil
   rw [if_neg (by rw [e0]; decide)] at h
   cases h
   exact ⟨[], rfl, .nil⟩
  | succ n2 =>
   have hq : (isP 1 emptyT m' && !resS (hd m').f1) = (isP 1 emptyT m && !resS (hd m).f1) := by
    rw [d.isP_eq 1 (by decide)]
    cases hc : isP 1 emptyT m with
    | false => rfl
    | true =>
     have h0 := isP_ne hc
     rw [(d.k1 (by rw [h0]; decide)).1]
   rw [namesP, hq]
   split at h
   ·rename_i hc
    rw [if_pos hc]
    obtain ⟨⟨c, m1⟩, h3, h⟩ := bnd_inv h
    obtain ⟨m1', e1, d1⟩ := word_D d h3
    rw [e1, bnd_ok]
    have hne : m ≠ [] := by intro e; rw [e, e0] at hc; cases hc
    have hne' : m' ≠ [] := by intro e; rw [e] at d; exact hne d.of_nil
    have q1 := word_len hne h3
    have q2 := word_len hne' e1
    exact ih n2 _ m1 m1' y l (by omega) (by omega) d1 h
   ·rename_i hc
    rw [if_neg hc]
    obtain ⟨rfl, rfl⟩ := Prod.mk.inj (Except.ok.inj h)
    exact ⟨m', rfl, d⟩
theorem rule_D {m m' l : List TK} {x : S81} (d : Dbl m m') (h : ruleP m = .ok (x, l)) : ∃ l', ruleP m' = .ok (x, l') ∧ Dbl l l' := by
 obtain ⟨⟨a, m1⟩, h1, h⟩ := bnd_inv h
 obtain ⟨m1', e1, d1⟩ := act_D d h1
 obtain ⟨⟨nm, m2⟩, h2, h⟩ := bnd_inv h
 obtain ⟨m2', e2, d2⟩ := word_D d1 h2
 obtain ⟨⟨ns, m3⟩, h3, h⟩ := bnd_inv h
 obtain ⟨m3', e3, d3⟩ := names_D _ m2'.length _ _ _ _ _ (Nat.le_refl _) (Nat.le_refl _) d2 h3
 unfold ruleP
 rw [e1, bnd_ok, e2, bnd_ok, e3, bnd_ok]
 show ∃ l', (if isP 1 ifT m3' = true then bnd (condP (factorP m3'.length 0) m3'.tail) fun c => .ok ((⟨a.1, a.2, ns, c.1⟩ : S81), c.2) else .ok ((⟨a.1, a.2, ns, z47⟩ : S81), m3')) = _ ∧ _
 rw [d3.isP_eq 1 (by decide)]
 replace h : (if isP 1 ifT m3 = true then bnd (condP (factorP m3.length 0) m3.tail) fun c => .ok ((⟨a.1, a.2, ns, c.1⟩ : S81), c.2) else .ok ((⟨a.1, a.2, ns, z47⟩ : S81), m3)) = .ok (x, l) := h
 split at h
 ·rename_i hc
  rw [if_pos hc]
  have h0 := isP_ne hc
  obtain ⟨⟨c, m4⟩, h4, h⟩ := bnd_inv h
  obtain ⟨m4', e4, d4⟩ := cond_D (factor_D m3.length m3'.length 0) (factor_shr _ _) (factor_shr _ _) _ _ _ _ (by simp) (by simp) (d3.k1 (by rw [h0]; decide)).2 h4
  obtain ⟨rfl, rfl⟩ := Prod.mk.inj (Except.ok.inj h)
  rw [e4, bnd_ok]
  exact ⟨m4', rfl, d4⟩
 ·rename_i hc
  rw [if_neg hc]
  obtain ⟨rfl, rfl⟩ := Prod.mk.inj (Except.ok.inj h)
  exact ⟨m3', rfl, d3⟩
theorem lines4 {t : TK} {r : List TK} (h : t.f0 = 4) : linesP (t :: r) = linesP r := if_pos h
theorem lines_D {m m' : List TK} (d : Dbl m m') : Dbl (linesP m) (linesP m') := by
 induction d with
 | nil => exact .nil
 | @one a a' r r' h0 h1 h ih =>
  unfold linesP
  rw [h0]
  split
  ·exact ih
  ·exact .one h0 h1 h
 | @two a a' b' r r' h0 h1 h2 h ih =>
  rw [lines4 h0, lines4 h1, lines4 h2]
  exact ih
theorem endP_D {m m' l : List TK} {x : Unit} (d : Dbl m m') (h : endP m = .ok (x, l)) : ∃ l', endP m' = .ok (x, l') ∧ Dbl l l' := by
 unfold endP at h ⊢
 rw [d.k0]
 split at h
 ·rename_i hc
  rw [if_pos hc]
  obtain ⟨rfl, rfl⟩ := Prod.mk.inj (Except.ok.inj h)
  exact ⟨_, rfl, lines_D d⟩
 ·rename_i hc
  rw [if_neg hc]
  obtain ⟨⟨s, m1⟩, h1, h⟩ := bnd_inv h
  obtain ⟨rfl, rfl⟩ := Prod.mk.inj (Except.ok.inj h)
  obtain ⟨_, rfl, h4, _⟩ := takeP_ok h1
  have e4 : takeP 4 [] m' = .ok ((hd m').f1, m'.tail) := take_any0 (d.k0.trans h4)
  rw [e4, bnd_ok]
  refine ⟨_, rfl, ?_⟩
  cases d with
  | nil => exact .nil
  | one _ _ dh => exact lines_D dh
  | two _ _ h2 dh =>
   show Dbl _ (linesP (_ :: _))
   rw [lines4 h2]
   exact lines_D dh
theorem rules_D : ∀ n1 n2 acc m m' y l, m.length ≤ n1 → m'.length ≤ n2 → Dbl m m' → rulesP n1 acc m = .ok (y, l) → ∃ l', rulesP n2 acc m' = .ok (y, l') ∧ Dbl l l' := by
 have e0 : isP 0 emptyT ([] : List TK) = true := by show isP 0 ⟨#[]⟩ ([] : List TK) = true; rw [isP_kind]; rfl
 intro n1
 induction n1 with
 | zero =>
  intro n2 acc m m' y l h1 h2 d h
  obtain rfl : m = [] := List.length_eq_zero_iff.1 (by omega)
  obtain rfl := d.nil_of
  cases h
  refine ⟨[], ?_, .nil⟩
  cases n2 with
  | zero => rfl
  | succ n2 => rw [rulesP, if_pos e0]
 | succ n1 ih =>
  intro n2 acc m m' y l h1 h2 d h
  rw [rulesP] at h
  cases n2 with
  | zero =>
   obtain rfl : m' = [] := List.length_eq_zero_iff.1 (by omega)
   obtain rfl := d.of_nil
   rw [if_pos e0] at h
   cases h
   exact ⟨[], rfl, .nil⟩
  | succ n2 =>
   rw [rulesP, d.isP_eq 0 (by decide)]
   split at h
   ·rename_i hc
    rw [if_pos hc]
    obtain ⟨rfl, rfl⟩ := Prod.mk.inj (Except.ok.inj h)
    exact ⟨m', rfl, d⟩
   ·rename_i hc
    rw [if_neg hc]
    have hne : m ≠ [] := by intro e; rw [e] at hc; exact hc e0
    have hne' : m' ≠ [] := by intro e; rw [e] at d; exact hne d.of_nil
    obtain ⟨⟨c, m1⟩, h3, h⟩ := bnd_inv h
    obtain ⟨m1', e1, d1⟩ := rule_D d h3
    obtain ⟨⟨u, m2⟩, h4, h⟩ := bnd_inv h
    obtain ⟨m2', e2, d2⟩ := endP_D d1 h4
    have q1 := rule_lt hne h3
    have q2 := rule_lt hne' e1
    have q3 : m2.length ≤ m1.length := end_shr _ _ _ h4
    have q4 : m2'.length ≤ m1'.length := end_shr _ _ _ e2
    rw [e1, bnd_ok, e2, bnd_ok]
    exact ih n2 _ m2 m2' y l (by omega) (by omega) d2 h
theorem policy_D {m m' l : List TK} {x : S41} (d : Dbl m m') (h : policyP m = .ok (x, l)) : ∃ l', policyP m' = .ok (x, l') := by
 obtain ⟨⟨a0, m1⟩, h1, h⟩ := bnd_inv h
 obtain ⟨m1', e1, d1⟩ := take_D (by decide) (lines_D d) h1
 obtain ⟨⟨ar, m2⟩, h2, h⟩ := bnd_inv h
 obtain ⟨m2', e2, d2⟩ := word_D d1 h2
 obtain ⟨⟨u1, m3⟩, h3, h⟩ := bnd_inv h
 obtain ⟨m3', e3, d3⟩ := endP_D d2 h3
 obtain ⟨⟨d0, m4⟩, h4, h⟩ := bnd_inv h
 obtain ⟨m4', e4, d4⟩ := take_D (by decide) d3 h4
 obtain ⟨⟨da, m5⟩, h5, h⟩ := bnd_inv h
 obtain ⟨m5', e5, d5⟩ := act_D d4 h5
 obtain ⟨⟨u2, m6⟩, h6, h⟩ := bnd_inv h
 obtain ⟨m6', e6, d6⟩ := endP_D d5 h6
 obtain ⟨⟨rs, m7⟩, h7, h⟩ := bnd_inv h
 obtain ⟨m7', e7, d7⟩ := rules_D _ m6'.length _ _ _ _ _ (Nat.le_refl _) (Nat.le_refl _) d6 h7
 obtain ⟨rfl, rfl⟩ := Prod.mk.inj (Except.ok.inj h)
 refine ⟨m7', ?_⟩
 unfold policyP
 rw [e1, bnd_ok, e2, bnd_ok, e3, bnd_ok, e4, bnd_ok, e5, bnd_ok, e6, bnd_ok, e7, bnd_ok]

end Go.Proofs.YtdfjjimmnbijmaaDoor.PP

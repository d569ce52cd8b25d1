import Derived.Test.YtdfjjimmnbijmaaDoorLB1
import Derived.Test.YtdfjjimmnbijmaaDoorLB3
namespace Go.Proofs.YtdfjjimmnbijmaaDoor.LB
open Go.RowKit Go.Proofs.YtdfjjimmnbijmaaDoorW.PrintWords Go.Proofs.YtdfjjimmnbijmaaDoorW.PrintLast Go.Proofs.YtdfjjimmnbijmaaDoorW.PrintMore Go.Proofs.YtdfjjimmnbijmaaDoor.Base
attribute [local go_sem] max2_int min2_int max_two min_two max_three min_three max_four min_four
set_option linter.unusedVariables false
set_option linter.unusedSimpArgs false
theorem succ {α : Type} {g : Nat → Option α} {r : α} (h : Ev (fun k => g (k + 1)) r) : Ev g r := Ev.step (fun _ => rfl) h
theorem w1 {i : Nat} (h : i < 9223372036854775807) : wrap64 ((i : Int) + 1) = ((i + 1 : Nat) : Int) := by unfold wrap64; omega
theorem wr {i : Int} (h : -9223372036854775808 ≤ i) (h' : i ≤ 9223372036854775807) : wrap64 i = i := by unfold wrap64; omega
theorem now {α : Type} {r r' : α} (h : r = r') : Ev (fun _ => some r) r' := h ▸ Ev.now r
theorem evc {α : Type} {g : Nat → Option α} {r r' : α} (h : Ev g r) (e : r = r') : Ev g r' := e ▸ h
theorem drop_cons {α : Type} {l : List α} {i : Nat} (h : i < l.length) : l.drop i = l[i] :: l.drop (i + 1) := List.drop_eq_getElem_cons h
theorem str_eq (a b : ByteArray) : a.toList = b.toList ↔ a = b := ⟨tl_inj, fun h => h ▸ rfl⟩
theorem nil_iff (a : ByteArray) : a.toList = [] ↔ a.size = 0 := by
  rw [Lib.toList_data, Lib.size_eq, List.length_eq_zero_iff]
theorem evP {α : Type} {c : Prop} [Decidable c] {g g' : Nat → Option α} {r : α} (hc : c) (h : Ev g r) : Ev (fun k => if c then g k else g' k) r := by
  have e : (fun k => if c then g k else g' k) = g := by funext k; rw [if_pos hc]
  rw [e]; exact h
theorem evN {α : Type} {c : Prop} [Decidable c] {g g' : Nat → Option α} {r : α} (hc : ¬ c) (h : Ev g' r) : Ev (fun k => if c then g k else g' k) r := by
  have e : (fun k => if c then g k else g' k) = g' := by funext k; rw [if_neg hc]
  rw [e]; exact h
theorem alive_f : doorwardlaw14_alive.f = some true := by
  have h : lex_Lex.f (⟨#[]⟩ : ByteArray) = some ([⟨0, ⟨#[]⟩, 0⟩], 0, 0) := by unfold lex_Lex.f; rfl
  unfold doorwardlaw14_alive.f
  rw [h]
  rfl
def sh (s : ByteArray) : ByteArray := s.extract 0 (min s.size 2100)
theorem sh_le (s : ByteArray) : (sh s).size ≤ 2100 := by simp [sh]; omega
theorem short_f (s : ByteArray) : doorwardlaw14_short.f s = some (sh s) := by
  have h : mn (s.size : Int) 2100 = ((min s.size 2100 : Nat) : Int) := by unfold mn; split <;> omega
  unfold doorwardlaw14_short.f sh
  rw [h, if_pos (by omega), if_pos (by omega)]
  rfl
/-- A sign's text at a place: by its bytes. -/
theorem preS_1 (s : ByteArray) (p : Nat) (hp : p < s.size) (c : UInt8) : preS (s.extract p s.size) ⟨#[c]⟩ = (bt s p == (c.toNat : Int)) := by
  have hl : p < s.data.toList.length := by rw [← Lib.size_eq]; exact hp
  unfold preS
  have e1 : (⟨#[c]⟩ : ByteArray).size = 1 := rfl
  have e2 : (⟨#[c]⟩ : ByteArray).toList = [c] := by rw [Lib.toList_data]
  rw [e1, e2, Lib.extract_toList, Lib.extract_data, List.drop_zero]
  have ht : (s.data.toList.drop p).take (s.size - p) = s.data.toList.drop p := by
    rw [List.take_of_length_le]; rw [List.length_drop, ← Lib.size_eq]; exact Nat.le_refl _
  rw [ht, drop_cons hl, bt_get s p _ (List.getElem?_eq_getElem hl)]
  simp
  rw [Bool.eq_iff_iff]
  simp
  constructor
  · rintro ⟨_, h⟩; rw [h]
  · intro h; exact ⟨by omega, UInt8.toNat_inj.1 (by omega)⟩
theorem preS_2 (s : ByteArray) (p : Nat) (hp : p < s.size) (c d : UInt8) : preS (s.extract p s.size) ⟨#[c, d]⟩ = (bt s p == (c.toNat : Int) && (decide (p + 1 < s.size) && bt s ((p + 1 : Nat) : Int) == (d.toNat : Int))) := by
  have hl : p < s.data.toList.length := by rw [← Lib.size_eq]; exact hp
  unfold preS
  have e1 : (⟨#[c, d]⟩ : ByteArray).size = 2 := rfl
  have e2 : (⟨#[c, d]⟩ : ByteArray).toList = [c, d] := by rw [Lib.toList_data]
  rw [e1, e2, Lib.extract_toList, Lib.extract_data, List.drop_zero]
  have ht : (s.data.toList.drop p).take (s.size - p) = s.data.toList.drop p := by
    rw [List.take_of_length_le]; rw [List.length_drop, ← Lib.size_eq]; exact Nat.le_refl _
  rw [ht, drop_cons hl, bt_get s p _ (List.getElem?_eq_getElem hl)]
  by_cases h2 : p + 1 < s.size
  · have hl2 : p + 1 < s.data.toList.length := by rw [← Lib.size_eq]; exact h2
    rw [drop_cons hl2, bt_get s (p + 1) _ (List.getElem?_eq_getElem hl2)]
    simp
    rw [Bool.eq_iff_iff]
    simp
    constructor
    · rintro ⟨_, h, h'⟩; rw [h, h']; exact ⟨rfl, h2, rfl⟩
    · rintro ⟨h, _, h'⟩; exact ⟨by omega, UInt8.toNat_inj.1 (by omega), UInt8.toNat_inj.1 (by omega)⟩
  · rw [List.drop_of_length_le (by rw [← Lib.size_eq]; omega)]
    simp [h2]

def sgS (c : Int) (two : Bool) : Nat :=
  if two = true ∧ (c = 61 ∨ c = 33 ∨ c = 60 ∨ c = 62) then 2 else if c = 60 ∨ c = 62 ∨ c = 38 ∨ c = 40 ∨ c = 41 then 1 else 0
theorem sign_size (s : ByteArray) (p : Nat) (hp : p < s.size) : (signFrom (s.extract p s.size) signsL).size = sgS (bt s p) (decide (p + 1 < s.size) && bt s ((p + 1 : Nat) : Int) == 61) := by
  simp only [signsL, signFrom, preS_1 s p hp, preS_2 s p hp]
  generalize bt s (p : Int) = c
  have e61 : ((61 : UInt8).toNat : Int) = 61 := rfl
  have e33 : ((33 : UInt8).toNat : Int) = 33 := rfl
  have e60 : ((60 : UInt8).toNat : Int) = 60 := rfl
  have e62 : ((62 : UInt8).toNat : Int) = 62 := rfl
  have e38 : ((38 : UInt8).toNat : Int) = 38 := rfl
  have e40 : ((40 : UInt8).toNat : Int) = 40 := rfl
  have e41 : ((41 : UInt8).toNat : Int) = 41 := rfl
  rw [e61, e33, e60, e62, e38, e40, e41]
  generalize (decide (p + 1 < s.size) && bt s ((p + 1 : Nat) : Int) == 61) = two
  unfold sgS
  cases two with
  | true =>
    simp only [Bool.and_true, beq_iff_eq, true_and]
    by_cases h1 : c = 61
    · rw [if_pos h1, if_pos (Or.inl h1)]; rfl
    rw [if_neg h1]
    by_cases h2 : c = 33
    · rw [if_pos h2, if_pos (by omega)]; rfl
    rw [if_neg h2]
    by_cases h3 : c = 60
    · rw [if_pos h3, if_pos (by omega)]; rfl
    rw [if_neg h3]
    by_cases h4 : c = 62
    · rw [if_pos h4, if_pos (by omega)]; rfl
    rw [if_neg h4, if_neg h3, if_neg h4, if_neg (show ¬ (c = 61 ∨ c = 33 ∨ c = 60 ∨ c = 62) by omega)]
    by_cases h5 : c = 38
    · rw [if_pos h5, if_pos (by omega)]; rfl
    rw [if_neg h5]
    by_cases h6 : c = 40
    · rw [if_pos h6, if_pos (by omega)]; rfl
    rw [if_neg h6]
    by_cases h7 : c = 41
    · rw [if_pos h7, if_pos (by omega)]; rfl
    rw [if_neg h7, if_neg (by omega)]; rfl
  | false =>
    simp only [Bool.and_false, beq_iff_eq, false_and, if_neg (show ¬ (false = true) by decide)]
    by_cases h3 : c = 60
    · rw [if_pos h3, if_neg (by simp), if_pos (by omega)]; rfl
    rw [if_neg h3]
    by_cases h4 : c = 62
    · rw [if_pos h4, if_neg (by simp), if_pos (by omega)]; rfl
    rw [if_neg h4]
    by_cases h5 : c = 38
    · rw [if_pos h5, if_neg (by simp), if_pos (by omega)]; rfl
    rw [if_neg h5]
    by_cases h6 : c = 40
    · rw [if_pos h6, if_neg (by simp), if_pos (by omega)]; rfl
    rw [if_neg h6]
    by_cases h7 : c = 41
    · rw [if_pos h7, if_neg (by simp), if_pos (by omega)]; rfl
    rw [if_neg h7, if_neg (by simp), if_neg (by omega)]; rfl
theorem stepL_kind {s : ByteArray} {p n : Nat} {k : Int} (h : stepL s p = some (n, some k)) : 1 ≤ k ∧ k ≤ 4 := by
  unfold stepL at h
  split at h
  · cases h
  split at h
  · cases h
  split at h
  · cases h; omega
  split at h
  · cases h; omega
  split at h
  · split at h
    · cases h; omega
    · cases h
  split at h
  · cases h
  · cases h; omega
theorem ahead_len (s : ByteArray) : ∀ (d p : Nat), s.size - p ≤ d → p ≤ s.size → ∀ l, LX s p = .ok l → l.length ≤ s.size - p := by
  intro d
  induction d with
  | zero =>
    intro p hd hp l h
    rw [LX_end s (by omega)] at h
    cases h; exact Nat.zero_le _
  | succ d ih =>
    intro p hd hp l h
    by_cases hlt : p < s.size
    · rw [LX_step s hlt] at h
      cases hst : stepL s p with
      | none => rw [hst] at h; cases h
      | some x =>
        obtain ⟨n, kk⟩ := x
        have hn := stepL_pos hlt hst
        rw [hst] at h
        cases kk with
        | none =>
          have := ih (p + n) (by omega) hn.2 l h
          omega
        | some kd =>
          simp only at h
          cases hr : LX s (p + n) with
          | error e => rw [hr] at h; cases h
          | ok m =>
            rw [hr] at h
            cases h
            have := ih (p + n) (by omega) hn.2 m hr
            simp; omega
    · rw [LX_end s (by omega)] at h
      cases h; exact Nat.zero_le _
theorem lexS_len (s : ByteArray) : (lexS s).1.length ≤ s.size + 1 := by
  unfold lexS
  split
  · simp
  · have := ahead_len s s.size 0 (by omega) (by omega)
    unfold LX at this
    rw [Nat.sub_zero] at this
    cases h : lexG s s.size 0 with
    | error e => simp [lexR]
    | ok l => have := this l h; simp [lexR]; omega
theorem LX_kind (s : ByteArray) : ∀ (d p : Nat), s.size - p ≤ d → p ≤ s.size → ∀ l, LX s p = .ok l → ∀ t ∈ l, 1 ≤ t.f0 ∧ t.f0 ≤ 4 := by
  intro d
  induction d with
  | zero =>
    intro p hd hp l h t ht
    rw [LX_end s (by omega)] at h
    cases h; cases ht
  | succ d ih =>
    intro p hd hp l h t ht
    by_cases hlt : p < s.size
    · rw [LX_step s hlt] at h
      cases hst : stepL s p with
      | none => rw [hst] at h; cases h
      | some x =>
        obtain ⟨n, kk⟩ := x
        have hn := stepL_pos hlt hst
        rw [hst] at h
        cases kk with
        | none => exact ih (p + n) (by omega) hn.2 l h t ht
        | some kd =>
          have hk := stepL_kind hst
          simp only at h
          cases hr : LX s (p + n) with
          | error e => rw [hr] at h; cases h
          | ok m =>
            rw [hr] at h
            cases h
            rcases List.mem_cons.1 ht with e | e
            · subst e; exact hk
            · exact ih (p + n) (by omega) hn.2 m hr t e
    · rw [LX_end s (by omega)] at h
      cases h; cases ht
/-! ### the lexer over a row of bytes: what is read at a place hangs on what stands from there on alone -/
def mkB (l : List UInt8) : ByteArray := ⟨l.toArray⟩
theorem mkB_data (l : List UInt8) : (mkB l).data.toList = l := by simp [mkB]
theorem mkB_size (l : List UInt8) : (mkB l).size = l.length := by rw [Lib.size_eq, mkB_data]
theorem ba_ext {a b : ByteArray} (h : a.data.toList = b.data.toList) : a = b := by
  apply ByteArray.ext; apply Array.ext'; exact h
theorem mkB_of (s : ByteArray) : mkB s.data.toList = s := ba_ext (mkB_data _)
theorem extract_mkB (s : ByteArray) (p n : Nat) : s.extract p (p + n) = mkB ((s.data.toList.drop p).take n) := by
  apply ba_ext
  rw [mkB_data, Lib.extract_data, Nat.add_sub_cancel_left]
def runB (p : Int → Bool) (l : List UInt8) : Nat := (l.takeWhile fun c => p c.toNat).length
theorem runS_B (p : Int → Bool) (s : ByteArray) : ∀ d i, i + d = s.size → runS p s d i = runB p (s.data.toList.drop i) := by
  intro d
  induction d with
  | zero =>
    intro i hi
    rw [List.drop_of_length_le (by rw [← Lib.size_eq]; omega)]; rfl
  | succ d ih =>
    intro i hi
    have hil : i < s.data.toList.length := by rw [← Lib.size_eq]; omega
    rw [runS, drop_cons hil, bt_get s i _ (List.getElem?_eq_getElem hil), ih (i + 1) (by omega)]
    unfold runB
    rw [List.takeWhile_cons]
    split
    · rename_i h; simp [h]
    · rename_i h; simp [h]
def stepB : List UInt8 → Option (Nat × Option Int)
  | [] => none
  | c :: r =>
    if c.toNat = 32 ∨ c.toNat = 9 ∨ c.toNat = 13 then some (1, none)
    else if c.toNat = 35 then some (runB notNl (c :: r), none)
    else if c.toNat = 10 then some (1, some 4)
    else if letS c.toNat then some (runB eitS (c :: r), some 1)
    else if dS c.toNat then (if (numS (mkB ((c :: r).take (runB eitS (c :: r))))).isSome then some (runB eitS (c :: r), some 2) else none)
    else if sgS c.toNat (r.head? == some 61) = 0 then none else some (sgS c.toNat (r.head? == some 61), some 3)
theorem head_two (s : ByteArray) (p : Nat) : (decide (p + 1 < s.size) && bt s ((p + 1 : Nat) : Int) == 61) = ((s.data.toList.drop (p + 1)).head? == some 61) := by
  by_cases h : p + 1 < s.size
  · have hl : p + 1 < s.data.toList.length := by rw [← Lib.size_eq]; exact h
    rw [drop_cons hl, bt_get s (p + 1) _ (List.getElem?_eq_getElem hl), decide_eq_true h, Bool.true_and, List.head?_cons]
    generalize s.data.toList[p + 1] = c
    rw [Bool.eq_iff_iff, beq_iff_eq, beq_iff_eq, Option.some.injEq]
    have e : (61 : UInt8).toNat = 61 := rfl
    rw [← UInt8.toNat_inj, e]
    omega
  · rw [decide_eq_false h, Bool.false_and, List.drop_of_length_le (by rw [← Lib.size_eq]; omega)]
    rfl
theorem stepL_B (s : ByteArray) (p : Nat) (hp : p < s.size) : stepL s p = stepB (s.data.toList.drop p) := by
  have hpl : p < s.data.toList.length := by rw [← Lib.size_eq]; exact hp
  have hr1 := runS_B notNl s (s.size - p) p (by omega)
  have hr2 := runS_B eitS s (s.size - p) p (by omega)
  have hsg := sign_size s p hp
  rw [head_two] at hsg
  unfold stepL
  rw [hr1, hr2, hsg, extract_mkB]
  have hd := drop_cons hpl
  rw [bt_get s p _ (List.getElem?_eq_getElem hpl)]
  rw [hd]
  generalize s.data.toList[p] = c
  generalize s.data.toList.drop (p + 1) = r
  have i1 : ((c.toNat : Int) = 32 ∨ (c.toNat : Int) = 9 ∨ (c.toNat : Int) = 13) ↔ (c.toNat = 32 ∨ c.toNat = 9 ∨ c.toNat = 13) := by omega
  have i2 : ((c.toNat : Int) = 35) ↔ c.toNat = 35 := by omega
  have i3 : ((c.toNat : Int) = 10) ↔ c.toNat = 10 := by omega
  simp only [stepB, i1, i2, i3]
def consT (t : S34) : Except Nat (List S34) → Except Nat (List S34)
  | .ok l => .ok (t :: l)
  | .error e => .error e
def lexB : Nat → List UInt8 → Nat → Except Nat (List S34)
  | 0, _, _ => .ok []
  | d + 1, l, o =>
    if l = [] then .ok []
    else match stepB l with
      | none => .error o
      | some (n, none) => lexB d (l.drop n) (o + n)
      | some (n, some k) => consT ⟨k, mkB (l.take n), o⟩ (lexB d (l.drop n) (o + n))
theorem LX_B (s : ByteArray) : ∀ d p, p ≤ s.size → lexG s d p = lexB d (s.data.toList.drop p) p := by
  intro d
  induction d with
  | zero => intro p _; rfl
  | succ d ih =>
    intro p hp
    by_cases hlt : p < s.size
    · have hne : s.data.toList.drop p ≠ [] := by
        intro h
        have := congrArg List.length h
        rw [List.length_drop, ← Lib.size_eq] at this
        simp at this; omega
      rw [lexG, if_pos hlt, lexB, if_neg hne, stepL_B s p hlt]
      cases hst : stepB (s.data.toList.drop p) with
      | none => rfl
      | some x =>
        obtain ⟨n, kk⟩ := x
        have hn := stepL_pos hlt ((stepL_B s p hlt).trans hst)
        have e1 : lexG s d (p + n) = lexB d ((s.data.toList.drop p).drop n) (p + n) := by rw [List.drop_drop]; exact ih (p + n) hn.2
        cases kk with
        | none => exact e1
        | some k =>
          simp only [e1, extract_mkB]
          cases lexB d ((s.data.toList.drop p).drop n) (p + n) <;> rfl
    · have hnil : s.data.toList.drop p = [] := List.drop_of_length_le (by rw [← Lib.size_eq]; omega)
      rw [lexG, if_neg hlt, lexB, if_pos hnil]
theorem stepB_pos {l : List UInt8} {n : Nat} {k : Option Int} (h : stepB l = some (n, k)) : 1 ≤ n ∧ n ≤ l.length := by
  have hne : 0 < l.length := by cases l with | nil => cases h | cons c r => simp
  have := stepL_B (mkB l) 0 (by rw [mkB_size]; exact hne)
  rw [mkB_data, List.drop_zero, h] at this
  have hp := stepL_pos (by rw [mkB_size]; exact hne) this
  rw [mkB_size] at hp
  omega
theorem stepB_kind {l : List UInt8} {n : Nat} {k : Int} (h : stepB l = some (n, some k)) : 1 ≤ k ∧ k ≤ 4 := by
  have hne : 0 < l.length := by cases l with | nil => cases h | cons c r => simp
  have := stepL_B (mkB l) 0 (by rw [mkB_size]; exact hne)
  rw [mkB_data, List.drop_zero, h] at this
  exact stepL_kind this
theorem lexB_fuel : ∀ (d d' : Nat) (l : List UInt8) (o : Nat), l.length ≤ d → l.length ≤ d' → lexB d l o = lexB d' l o
  | 0, 0, _, _, _, _ => rfl
  | 0, d' + 1, l, o, h, _ => by
    have : l = [] := List.length_eq_zero_iff.1 (by omega)
    rw [lexB, lexB, if_pos this]
  | d + 1, 0, l, o, _, h => by
    have : l = [] := List.length_eq_zero_iff.1 (by omega)
    rw [lexB, lexB, if_pos this]
  | d + 1, d' + 1, l, o, h1, h2 => by
    rw [lexB, lexB]
    by_cases hl : l = []
    · rw [if_pos hl, if_pos hl]
    · rw [if_neg hl, if_neg hl]
      cases hs : stepB l with
      | none => rfl
      | some x =>
        obtain ⟨n, k⟩ := x
        have := stepB_pos hs
        have e := lexB_fuel d d' (l.drop n) (o + n) (by simp; omega) (by simp; omega)
        cases k with
        | none => exact e
        | some k => simp only [e]
/-- The tokens of a row of bytes that stands at a place. -/
def LB (l : List UInt8) (o : Nat) : Except Nat (List S34) := lexB l.length l o
theorem LX_LB (s : ByteArray) (p : Nat) (hp : p ≤ s.size) : LX s p = LB (s.data.toList.drop p) p := by
  unfold LX LB
  rw [LX_B s _ p hp, List.length_drop, ← Lib.size_eq]
theorem LB_nil (o : Nat) : LB [] o = .ok [] := rfl
theorem LB_step (l : List UInt8) (o : Nat) (h : l ≠ []) : LB l o = match stepB l with
      | none => .error o
      | some (n, none) => LB (l.drop n) (o + n)
      | some (n, some k) => consT ⟨k, mkB (l.take n), o⟩ (LB (l.drop n) (o + n)) := by
  obtain ⟨m, hm⟩ : ∃ m, l.length = m + 1 := ⟨l.length - 1, by have := List.length_pos_iff.2 h; omega⟩
  unfold LB
  rw [hm, lexB, if_neg h]
  cases hs : stepB l with
  | none => rfl
  | some x =>
    obtain ⟨n, k⟩ := x
    have hp := stepB_pos hs
    have e := lexB_fuel m (l.drop n).length (l.drop n) (o + n) (by simp; omega) (Nat.le_refl _)
    cases k with
    | none => exact e
    | some k => simp only [e]

end Go.Proofs.YtdfjjimmnbijmaaDoor.LB

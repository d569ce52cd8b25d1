/- What the printed functions of the room seat come to, as plain laws on lists. -/
import Derived.Test.YthhkinkcelcgaaaR3
namespace Go.Proofs.Ythhkinkcelcgaaa.Pure
open Go.RowKit Go.Proofs.Ythhkinkcelcgaaa.R Go.Proofs.YthhkinkcelcgaaaW.PrintWords Go.Proofs.YthhkinkcelcgaaaW.PrintLast Go.Proofs.YthhkinkcelcgaaaW.PrintMore
set_option linter.unusedVariables false

theorem succ {α : Type} {g : Nat → Option α} {r : α} (h : Ev (fun k => g (k + 1)) r) : Ev g r := Ev.step (fun _ => rfl) h
theorem w1 {i : Nat} (h : i < 9223372036854775807) : wrap64 ((i : Int) + 1) = ((i + 1 : Nat) : Int) := by unfold wrap64; omega
theorem wr {i : Int} (h : -9223372036854775808 ≤ i) (h' : i ≤ 9223372036854775807) : wrap64 i = i := by unfold wrap64; omega
theorem now {α : Type} {r r' : α} (h : r = r') : Ev (fun _ => some r) r' := h ▸ Ev.now r
theorem rdo (l : List Bool) (i : Nat) : rdOf false l (i : Int) = l.getD i false := by simp [rdOf]
theorem getD_of {l : List Bool} {i : Nat} (h : i < l.length) : l.getD i false = l[i] := by simp [List.getD_eq_getElem?_getD, List.getElem?_eq_getElem h]
theorem drop_cons {α : Type} {l : List α} {i : Nat} (h : i < l.length) : l.drop i = l[i] :: l.drop (i + 1) := List.drop_eq_getElem_cons h

/-! ### few -/
def fw (l : List Bool) : List Bool := l.take 300
theorem fw_len (l : List Bool) : (fw l).length ≤ 300 := by simp [fw]; omega
theorem few_f (l : List Bool) : doorwardlaw06_few.f l = some (fw l) := by
  unfold doorwardlaw06_few.f mn fw
  by_cases h : (300 : Int) < l.length
  · rw [if_pos h]; rw [if_pos (by omega), if_pos (by omega)]; rfl
  · rw [if_neg h]; rw [if_pos (by omega), if_pos (by omega)]
    rw [Int.toNat_natCast, List.take_of_length_le (Nat.le_refl _), List.take_of_length_le (by omega)]

/-! ### Free -/
def fr (l : List Bool) : Nat := l.count false
theorem fr_le (l : List Bool) : fr l ≤ l.length := List.count_le_length
theorem free_l0 (l : List Bool) (hl : l.length ≤ 1000) : ∀ (d i c : Nat), i + d = l.length → c ≤ i → Ev (fun k => room_Free.l0 k (c : Int) l (l.length : Int) (i : Int)) ((c + fr (l.drop i) : Nat) : Int) := by
  intro d
  induction d with
  | zero =>
    intro i c hi hc
    apply succ
    have h : ¬ (i : Int) < (l.length : Int) := by omega
    simp only [room_Free.l0, if_neg h]
    refine now ?_
    rw [List.drop_of_length_le (by omega)]; simp [fr]
  | succ d ih =>
    intro i c hi hc
    apply succ
    have h : (i : Int) < (l.length : Int) := by omega
    have h0 : 0 ≤ (i : Int) := by omega
    have hin : i < l.length := by omega
    simp only [room_Free.l0, if_pos h, if_pos h0, rdo, getD_of hin, w1 (show i < 9223372036854775807 by omega), w1 (show c < 9223372036854775807 by omega)]
    cases hb : l[i]
    · simp only [if_neg (show ¬ (false = true) by decide)]
      have := ih (i + 1) (c + 1) (by omega) (by omega)
      rw [drop_cons hin, hb]
      rw [show c + fr (false :: l.drop (i + 1)) = c + 1 + fr (l.drop (i + 1)) by simp [fr]; omega]
      exact this
    · simp only [if_true]
      have := ih (i + 1) c (by omega) (by omega)
      rw [drop_cons hin, hb]
      rw [show c + fr (true :: l.drop (i + 1)) = c + fr (l.drop (i + 1)) by simp [fr]]
      exact this
theorem free_ev (l : List Bool) (hl : l.length ≤ 1000) : Ev (fun k => room_Free.f k l) (fr l : Int) := by
  have := free_l0 l hl l.length 0 0 (by omega) (by omega)
  simpa [room_Free.f] using this
theorem rfree_l0 (l : List Bool) (hl : l.length ≤ 1000) : ∀ (d i c : Nat), i + d = l.length → d ≤ c → c ≤ 1000 → Ev (fun k => doorwardref06_Free.l0 k (c : Int) l (l.length : Int) (i : Int)) ((c - d + fr (l.drop i) : Nat) : Int) := by
  intro d
  induction d with
  | zero =>
    intro i c hi hc hc2
    apply succ
    have h : ¬ (i : Int) < (l.length : Int) := by omega
    simp only [doorwardref06_Free.l0, if_neg h]
    refine now ?_
    rw [List.drop_of_length_le (by omega)]; simp [fr]
  | succ d ih =>
    intro i c hi hc hc2
    apply succ
    have h : (i : Int) < (l.length : Int) := by omega
    have h0 : 0 ≤ (i : Int) := by omega
    have hin : i < l.length := by omega
    have hw : wrap64 ((c : Int) - 1) = ((c - 1 : Nat) : Int) := by unfold wrap64; omega
    simp only [doorwardref06_Free.l0, if_pos h, if_pos h0, rdo, getD_of hin, w1 (show i < 9223372036854775807 by omega), hw]
    cases hb : l[i]
    · simp only [if_neg (show ¬ (false = true) by decide)]
      have := ih (i + 1) c (by omega) (by omega) (by omega)
      rw [drop_cons hin, hb]
      rw [show c - (d + 1) + fr (false :: l.drop (i + 1)) = c - d + fr (l.drop (i + 1)) by simp [fr]; omega]
      exact this
    · simp only [if_true]
      have := ih (i + 1) (c - 1) (by omega) (by omega) (by omega)
      rw [drop_cons hin, hb]
      rw [show c - (d + 1) + fr (true :: l.drop (i + 1)) = c - 1 - d + fr (l.drop (i + 1)) by simp [fr]; omega]
      exact this
theorem rfree_ev (l : List Bool) (hl : l.length ≤ 1000) : Ev (fun k => doorwardref06_Free.f k l) (fr l : Int) := by
  have := rfree_l0 l hl l.length 0 l.length (by omega) (by omega) (by omega)
  simpa [doorwardref06_Free.f] using this

/-! ### Right -/
def rt (l : List Bool) : Bool := decide (64 ≤ l.length) && decide (l.length ≤ 256) && (l.take 54).all id
theorem index_l0 (l : List Bool) (hl : l.length ≤ 1000) : ∀ (d i : Nat), i + d = l.length →
    Ev (fun k => slices_Index_bool_bool.l0 k l false (l.length : Int) (i : Int)) (if (l.drop i).all id then -1 else ((i + ((l.drop i).idxOf false) : Nat) : Int)) := by
  intro d
  induction d with
  | zero =>
    intro i hi
    apply succ
    have h : ¬ (i : Int) < (l.length : Int) := by omega
    simp only [slices_Index_bool_bool.l0, if_neg h]
    refine now ?_
    rw [List.drop_of_length_le (by omega)]; simp
  | succ d ih =>
    intro i hi
    apply succ
    have h : (i : Int) < (l.length : Int) := by omega
    have h0 : 0 ≤ (i : Int) := by omega
    have hin : i < l.length := by omega
    simp only [slices_Index_bool_bool.l0, if_pos h, if_pos h0, rdo, getD_of hin, w1 (show i < 9223372036854775807 by omega)]
    rw [drop_cons hin]
    cases hb : l[i]
    · simp only [show (false == false) = true from rfl, if_true]
      refine now ?_
      simp
    · simp only [show (false == true) = false from rfl, if_neg (show ¬ (false = true) by decide)]
      have := ih (i + 1) (by omega)
      rw [show (List.all (true :: l.drop (i + 1)) id) = (l.drop (i + 1)).all id by simp]
      have e : (i + (List.idxOf false (true :: l.drop (i + 1)))) = (i + 1 + List.idxOf false (l.drop (i + 1))) := by simp [List.idxOf_cons]; omega
      rw [e]; exact this
theorem contains_ev (l : List Bool) (hl : l.length ≤ 1000) : Ev (fun k => slices_Contains_bool_bool.f k l false) (!(l.all id)) := by
  have h := index_l0 l hl l.length 0 (by omega)
  unfold slices_Contains_bool_bool.f slices_Index_bool_bool.f
  refine Ev.bind h ?_
  refine now ?_
  simp only [List.drop_zero]
  by_cases hb : l.all id
  · rw [if_pos hb]; simp [hb]
  · rw [if_neg hb]; simp [hb]
theorem right_ev (l : List Bool) (hl : l.length ≤ 1000) : Ev (fun k => room_Right.f k l) (rt l) := by
  unfold room_Right.f
  by_cases h1 : (l.length : Int) ≥ 64
  · by_cases h2 : (l.length : Int) ≤ 256
    · have h3 : (54 : Int) ≤ (l.length : Int) := by omega
      simp only [if_pos h1, if_pos h2, if_pos h3]
      refine Ev.bind (contains_ev (l.take 54) (by simp; omega)) ?_
      refine now ?_
      simp [rt, show 64 ≤ l.length by omega, show l.length ≤ 256 by omega]
    · simp only [if_pos h1, if_neg h2]
      refine now ?_
      simp [rt]; omega
  · simp only [if_neg h1]
    refine now ?_
    simp [rt]; omega
theorem rright_l0 (l : List Bool) (hl : 54 ≤ l.length) : ∀ (d i : Nat), i + d = 54 → Ev (fun k => doorwardref06_Right.l0 k l (i : Int)) (((l.take 54).drop i).all id) := by
  intro d
  induction d with
  | zero =>
    intro i hi
    apply succ
    have h : ¬ (i : Int) < 54 := by omega
    simp only [doorwardref06_Right.l0, if_neg h]
    refine now ?_
    rw [List.drop_of_length_le (by simp; omega)]; simp
  | succ d ih =>
    intro i hi
    apply succ
    have h : (i : Int) < 54 := by omega
    have h0 : 0 ≤ (i : Int) := by omega
    have h1 : (i : Int) < (l.length : Int) := by omega
    have hin : i < l.length := by omega
    have hit : i < (l.take 54).length := by simp; omega
    simp only [doorwardref06_Right.l0, if_pos h, if_pos h0, if_pos h1, rdo, getD_of hin, w1 (show i < 9223372036854775807 by omega)]
    rw [drop_cons hit, List.getElem_take]
    cases hb : l[i]
    · simp only [if_neg (show ¬ (false = true) by decide)]
      exact now (by simp)
    · simp only [if_true]
      have := ih (i + 1) (by omega)
      simpa using this
theorem rright_ev (l : List Bool) (hl : l.length ≤ 1000) : Ev (fun k => doorwardref06_Right.f k l) (rt l) := by
  unfold doorwardref06_Right.f
  by_cases h1 : (l.length : Int) < 64
  · simp only [if_pos h1]
    apply succ
    simp only [doorwardref06_Right.j0, if_true]
    refine now ?_
    simp [rt]; omega
  · simp only [if_neg h1]
    apply succ
    by_cases h2 : (l.length : Int) > 256
    · simp only [doorwardref06_Right.j0, decide_eq_true h2, if_true]
      refine now ?_
      simp [rt]; omega
    · simp only [doorwardref06_Right.j0, decide_eq_false h2, if_neg (show ¬ (false = true) by decide)]
      have := rright_l0 l (by omega) 54 0 (by omega)
      have e : rt l = ((l.take 54).drop 0).all id := by simp [rt, show 64 ≤ l.length by omega, show l.length ≤ 256 by omega]
      rw [e]; exact this

/-! ### Same -/
theorem same_l0 (a b : List Bool) (hl : a.length = b.length) (hb : a.length ≤ 1000) : ∀ (d i : Nat), i + d = a.length → Ev (fun k => doorwardref06_Same.l0 k a b (a.length : Int) (i : Int)) (decide (a.drop i = b.drop i)) := by
  intro d
  induction d with
  | zero =>
    intro i hi
    apply succ
    have h : ¬ (i : Int) < (a.length : Int) := by omega
    simp only [doorwardref06_Same.l0, if_neg h]
    refine now ?_
    rw [List.drop_of_length_le (by omega), List.drop_of_length_le (by omega)]; simp
  | succ d ih =>
    intro i hi
    apply succ
    have h : (i : Int) < (a.length : Int) := by omega
    have h0 : 0 ≤ (i : Int) := by omega
    have h1 : (i : Int) < (b.length : Int) := by omega
    have hin : i < a.length := by omega
    have hin2 : i < b.length := by omega
    simp only [doorwardref06_Same.l0, if_pos h, if_pos h0, if_pos h1, rdo, getD_of hin, getD_of hin2, w1 (show i < 9223372036854775807 by omega)]
    rw [drop_cons hin, drop_cons hin2]
    by_cases e : a[i] = b[i]
    · simp only [e, bne_self_eq_false, if_neg (show ¬ (false = true) by decide)]
      have := ih (i + 1) (by omega)
      rwa [show decide (b[i] :: a.drop (i + 1) = b[i] :: b.drop (i + 1)) = decide (a.drop (i + 1) = b.drop (i + 1)) by simp only [List.cons.injEq, true_and]]
    · have e' : (a[i] != b[i]) = true := by simpa using e
      simp only [e', if_true]
      exact now (decide_eq_false (by simp only [List.cons.injEq]; exact fun h => e h.1)).symm
theorem same_ev (a b : List Bool) (hb : a.length ≤ 1000) : Ev (fun k => doorwardref06_Same.f k a b) (decide (a = b)) := by
  unfold doorwardref06_Same.f
  by_cases h : (a.length : Int) = (b.length : Int)
  · simp only [if_pos h]
    have := same_l0 a b (by omega) hb a.length 0 (by omega)
    simpa using this
  · simp only [if_neg h]
    refine now ?_
    have : a ≠ b := fun e => h (by rw [e])
    simp [this]
theorem samei_l0 (a b : List Int) (hl : a.length = b.length) (hb : a.length ≤ 1000) : ∀ (d i : Nat), i + d = a.length → Ev (fun k => doorwardref06_SameInts.l0 k a b (a.length : Int) (i : Int)) (decide (a.drop i = b.drop i)) := by
  intro d
  induction d with
  | zero =>
    intro i hi
    apply succ
    have h : ¬ (i : Int) < (a.length : Int) := by omega
    simp only [doorwardref06_SameInts.l0, if_neg h]
    refine now ?_
    rw [List.drop_of_length_le (by omega), List.drop_of_length_le (by omega)]; simp
  | succ d ih =>
    intro i hi
    apply succ
    have h : (i : Int) < (a.length : Int) := by omega
    have h0 : 0 ≤ (i : Int) := by omega
    have h1 : (i : Int) < (b.length : Int) := by omega
    have hin : i < a.length := by omega
    have hin2 : i < b.length := by omega
    have ea : rd a (i : Int) = a[i] := by simp [rd, List.getD_eq_getElem?_getD, List.getElem?_eq_getElem hin]
    have eb : rd b (i : Int) = b[i] := by simp [rd, List.getD_eq_getElem?_getD, List.getElem?_eq_getElem hin2]
    simp only [doorwardref06_SameInts.l0, if_pos h, if_pos h0, if_pos h1, ea, eb, w1 (show i < 9223372036854775807 by omega)]
    rw [drop_cons hin, drop_cons hin2]
    by_cases e : a[i] = b[i]
    · simp only [if_pos e]
      have := ih (i + 1) (by omega)
      rwa [show decide (a[i] :: a.drop (i + 1) = b[i] :: b.drop (i + 1)) = decide (a.drop (i + 1) = b.drop (i + 1)) by simp only [e, List.cons.injEq, true_and]]
    · simp only [if_neg e]
      exact now (decide_eq_false (by simp only [List.cons.injEq]; exact fun h => e h.1)).symm
theorem samei_ev (a b : List Int) (hb : a.length ≤ 1000) : Ev (fun k => doorwardref06_SameInts.f k a b) (decide (a = b)) := by
  unfold doorwardref06_SameInts.f
  by_cases h : (a.length : Int) = (b.length : Int)
  · simp only [if_pos h]
    have := samei_l0 a b (by omega) hb a.length 0 (by omega)
    simpa using this
  · simp only [if_neg h]
    refine now ?_
    have : a ≠ b := fun e => h (by rw [e])
    simp [this]

/-! ### New -/
def nw (n : Nat) : List Bool := List.replicate 54 true ++ List.replicate (n - 54) false
theorem new_l0 : ∀ (d i : Nat) (m : Nat), i + d = 54 → 54 ≤ m → Ev (fun k => room_New.l0 k (List.replicate i true ++ List.replicate (m - i) false) (i : Int)) (nw m, 0) := by
  intro d
  induction d with
  | zero =>
    intro i m hi hm
    apply succ
    have h : ¬ (i : Int) < 54 := by omega
    simp only [room_New.l0, if_neg h]
    refine now ?_
    have : i = 54 := by omega
    subst this; rfl
  | succ d ih =>
    intro i m hi hm
    apply succ
    have h : (i : Int) < 54 := by omega
    have h0 : 0 ≤ (i : Int) := by omega
    have h1 : (i : Int) < ((List.replicate i true ++ List.replicate (m - i) false).length : Int) := by simp; omega
    simp only [room_New.l0, if_pos h, if_pos h0, if_pos h1, w1 (show i < 9223372036854775807 by omega), Int.toNat_natCast]
    have e : (List.replicate i true ++ List.replicate (m - i) false).set i true = List.replicate (i + 1) true ++ List.replicate (m - (i + 1)) false := by
      rw [List.set_append_right _ _ (by simp), show m - i = (m - (i + 1)) + 1 by omega]
      rw [List.replicate_succ' (n := i), List.append_assoc]
      simp [List.replicate_succ]
    rw [e]
    exact ih (i + 1) m (by omega) hm
theorem new_ev (n : Int) : Ev (fun k => room_New.f k n) (if 64 ≤ n ∧ n ≤ 256 then (nw n.toNat, 0) else ([], 1)) := by
  unfold room_New.f
  by_cases h1 : n < 64
  · simp only [if_pos h1]
    apply succ
    simp only [room_New.j0, if_true]
    exact now (by rw [if_neg (by omega)])
  · simp only [if_neg h1]
    apply succ
    by_cases h2 : n > 256
    · simp only [room_New.j0, decide_eq_true h2, if_true]
      exact now (by rw [if_neg (by omega)])
    · have h3 : 0 ≤ n := by omega
      have h4 : (n : Int).toNat ≤ 281474976710656 := by omega
      simp only [room_New.j0, decide_eq_false h2, if_neg (show ¬ (false = true) by decide), if_pos h3, if_pos h4]
      rw [if_pos (by omega)]
      have := new_l0 54 0 n.toNat (by omega) (by omega)
      simpa using this
theorem rnew_l0 (m : Nat) (hm : m ≤ 1000) (hm2 : 54 ≤ m) : ∀ (d i : Nat), i + d = m → Ev (fun k => doorwardref06_New.l0 k (m : Int) ((nw m).take i) (i : Int)) (nw m) := by
  have hlen : (nw m).length = m := by simp [nw]; omega
  intro d
  induction d with
  | zero =>
    intro i hi
    apply succ
    have h : ¬ (i : Int) < (m : Int) := by omega
    simp only [doorwardref06_New.l0, if_neg h]
    exact now (List.take_of_length_le (by omega))
  | succ d ih =>
    intro i hi
    apply succ
    have h : (i : Int) < (m : Int) := by omega
    have h1 : ((nw m).take i).length < 140737488355328 := by have := List.length_take_le i (nw m); omega
    simp only [doorwardref06_New.l0, if_pos h, if_pos h1, w1 (show i < 9223372036854775807 by omega)]
    have e : (nw m).take i ++ [decide ((i : Int) < 54)] = (nw m).take (i + 1) := by
      rw [List.take_succ_eq_append_getElem (show i < (nw m).length by omega)]
      congr 1
      simp only [nw]
      by_cases hi5 : i < 54
      · rw [List.getElem_append_left (by simpa using hi5), decide_eq_true (show (i : Int) < 54 by omega), List.getElem_replicate]
      · rw [List.getElem_append_right (by simp; omega), decide_eq_false (show ¬ (i : Int) < 54 by omega), List.getElem_replicate]
    rw [e]
    exact ih (i + 1) (by omega)
theorem rnew_ev (m : Nat) (hm : m ≤ 1000) (hm2 : 54 ≤ m) : Ev (fun k => doorwardref06_New.f k (m : Int)) (nw m) := by
  unfold doorwardref06_New.f
  have := rnew_l0 m hm hm2 m 0 (by omega)
  simpa using this
end Go.Proofs.Ythhkinkcelcgaaa.Pure

/- Taking and giving back, as plain laws on lists. -/
import Derived.Test.YthhkinkcelcgaaaEv
import Derived.Test.YthhkinkcelcgaaaR4
import Derived.Test.YthhkinkcelcgaaaR5
namespace Go.Proofs.Ythhkinkcelcgaaa.Pure
open Go.RowKit Go.Proofs.Ythhkinkcelcgaaa.R Go.Proofs.YthhkinkcelcgaaaW.PrintWords Go.Proofs.YthhkinkcelcgaaaW.PrintLast Go.Proofs.YthhkinkcelcgaaaW.PrintMore
set_option linter.unusedVariables false

/-! ### Take -/
def tk : Nat → Nat → List Bool → List Bool × List Int
  | _, _, [] => ([], [])
  | 0, _, b :: l => (b :: l, [])
  | m + 1, i, true :: l => (true :: (tk (m + 1) (i + 1) l).1, (tk (m + 1) (i + 1) l).2)
  | m + 1, i, false :: l => (true :: (tk m (i + 1) l).1, (i : Int) :: (tk m (i + 1) l).2)
theorem tk_zero (i : Nat) (l : List Bool) : tk 0 i l = (l, []) := by cases l <;> rfl
theorem tk_true (m i : Nat) (l : List Bool) : tk m i (true :: l) = (true :: (tk m (i + 1) l).1, (tk m (i + 1) l).2) := by
  cases m with
  | zero => rw [tk_zero, tk_zero]
  | succ m => rfl
theorem app_get (pre rest : List Bool) (b : Bool) : (pre ++ b :: rest).getD pre.length false = b := by simp [List.getD_eq_getElem?_getD]
theorem take_l0 (many : Nat) : ∀ (rest pre : List Bool) (got : List Int) (m : Nat), many = got.length + m → m ≤ fr rest → pre.length + rest.length ≤ 1000 → many ≤ 1000 →
    Ev (fun k => room_Take.l0 k (many : Int) (pre ++ rest) got (pre.length : Int)) (pre ++ (tk m pre.length rest).1, got ++ (tk m pre.length rest).2, 0) := by
  intro rest
  induction rest with
  | nil =>
    intro pre got m hm hf hl hM
    have : m = 0 := by simpa [fr] using hf
    subst this
    apply succ
    have h : ¬ (got.length : Int) < (many : Int) := by omega
    simp only [room_Take.l0, if_neg h]
    exact now (by simp [tk])
  | cons b rest ih =>
    intro pre got m hm hf hl hM
    simp only [List.length_cons] at hl
    cases m with
    | zero =>
      apply succ
      have h : ¬ (got.length : Int) < (many : Int) := by omega
      simp only [room_Take.l0, if_neg h]
      exact now (by simp [tk])
    | succ m =>
      apply succ
      have h : (got.length : Int) < (many : Int) := by omega
      have h0 : 0 ≤ (pre.length : Int) := by omega
      have h1 : (pre.length : Int) < ((pre ++ b :: rest).length : Int) := by simp; omega
      have h2 : got.length < 17592186044416 := by omega
      simp only [room_Take.l0, if_pos h, if_pos h0, if_pos h1, if_pos h2, rdo, app_get, w1 (show pre.length < 9223372036854775807 by omega), Int.toNat_natCast]
      cases b with
      | true =>
        simp only [if_true]
        have := ih (pre ++ [true]) got (m + 1) hm (by simpa [fr] using hf) (by simp; omega) hM
        simpa [tk, List.append_assoc] using this
      | false =>
        simp only [if_neg (show ¬ (false = true) by decide)]
        have e : (pre ++ false :: rest).set pre.length true = (pre ++ [true]) ++ rest := by simp [List.set_append_right]
        rw [e]
        have := ih (pre ++ [true]) (got ++ [(pre.length : Int)]) m (by simp; omega) (by simp [fr] at hf ⊢; omega) (by simp; omega) hM
        simpa [tk, List.append_assoc] using this
def takeS (l : List Bool) (many : Int) : List Bool × List Int × Int :=
  if rt l = false ∨ many < 0 then ([], [], 1) else if (fr l : Int) < many then ([], [], 31) else ((tk many.toNat 0 l).1, (tk many.toNat 0 l).2, 0)
theorem rt_len {l : List Bool} (h : rt l = true) : 64 ≤ l.length ∧ l.length ≤ 256 ∧ (l.take 54).all id = true := by
  simp only [rt, Bool.and_eq_true, decide_eq_true_eq] at h
  exact ⟨h.1.1, h.1.2, h.2⟩
theorem take_ev (l : List Bool) (hl : l.length ≤ 300) (many : Int) : Ev (fun k => room_Take.f k l many) (takeS l many) := by
  unfold room_Take.f
  refine Ev.bind (right_ev l (by omega)) ?_
  cases hr : rt l with
  | false =>
    simp only [if_neg (show ¬ (false = true) by decide)]
    apply succ
    simp only [room_Take.j0, if_true]
    exact now (by simp [takeS, hr])
  | true =>
    simp only [if_true]
    apply succ
    by_cases h : many < 0
    · simp only [room_Take.j0, decide_eq_true h, if_true]
      exact now (by simp [takeS, h])
    · simp only [room_Take.j0, decide_eq_false h, if_neg (show ¬ (false = true) by decide)]
      refine Ev.bind (free_ev l (by omega)) ?_
      by_cases hf : (fr l : Int) < many
      · simp only [if_pos hf]
        exact now (by simp [takeS, hr, h, hf])
      · simp only [if_neg hf]
        have hc : room_changed.f l = some l := by unfold room_changed.f; rw [if_pos (by omega)]
        simp only [hc, Option.bind_some]
        obtain ⟨m, rfl⟩ := Int.eq_ofNat_of_zero_le (show 0 ≤ many by omega)
        have := fr_le l
        have := take_l0 m l [] [] m (by simp) (by omega) (by simp; omega) (by omega)
        simp only [List.nil_append, List.length_nil] at this
        simp only [takeS, hr, hf, h, if_false, Int.toNat_natCast]
        simpa using this
theorem rtake_l0 (many : Nat) (hM : many ≤ 1000000) (l : List Bool) (hl : l.length ≤ 1000) : ∀ (d i : Nat) (out : List Bool) (got : List Int) (m : Nat), i + d = l.length → out.length ≤ i → got.length ≤ i → many = got.length + m →
    Ev (fun k => doorwardref06_Take.l0 k (many : Int) out got l (l.length : Int) (i : Int)) (out ++ (tk m i (l.drop i)).1, got ++ (tk m i (l.drop i)).2, 0) := by
  intro d
  induction d with
  | zero =>
    intro i out got m hi ho hg hm
    apply succ
    have h : ¬ (i : Int) < (l.length : Int) := by omega
    simp only [doorwardref06_Take.l0, if_neg h]
    refine now ?_
    rw [List.drop_of_length_le (by omega)]; simp [tk]
  | succ d ih =>
    intro i out got m hi ho hg hm
    apply succ
    have h : (i : Int) < (l.length : Int) := by omega
    have h0 : 0 ≤ (i : Int) := by omega
    have hin : i < l.length := by omega
    have h2 : out.length < 140737488355328 := by omega
    have h3 : got.length < 17592186044416 := by omega
    simp only [doorwardref06_Take.l0, if_pos h, if_pos h0, if_pos h2, if_pos h3, rdo, getD_of hin, w1 (show i < 9223372036854775807 by omega)]
    rw [drop_cons hin]
    cases hb : l[i]
    · simp only [if_neg (show ¬ (false = true) by decide)]
      cases m with
      | zero =>
        have hn : ¬ (got.length : Int) < (many : Int) := by omega
        simp only [if_neg hn]
        have := ih (i + 1) (out ++ [false]) got 0 (by omega) (by simp; omega) (by omega) hm
        rw [tk_zero] at this ⊢
        simpa [List.append_assoc] using this
      | succ m =>
        have hn : (got.length : Int) < (many : Int) := by omega
        simp only [if_pos hn]
        have := ih (i + 1) (out ++ [true]) (got ++ [(i : Int)]) m (by omega) (by simp; omega) (by simp; omega) (by simp; omega)
        simpa [tk, List.append_assoc] using this
    · simp only [if_true]
      have := ih (i + 1) (out ++ [true]) got m (by omega) (by simp; omega) (by omega) hm
      rw [tk_true]
      simpa [List.append_assoc] using this
theorem rtake_ev (l : List Bool) (hl : l.length ≤ 300) (many : Int) : Ev (fun k => doorwardref06_Take.f k l many) (takeS l many) := by
  unfold doorwardref06_Take.f
  refine Ev.bind (rright_ev l (by omega)) ?_
  cases hr : rt l with
  | false =>
    simp only [if_neg (show ¬ (false = true) by decide)]
    apply succ
    simp only [doorwardref06_Take.j0, if_true]
    exact now (by simp [takeS, hr])
  | true =>
    simp only [if_true]
    apply succ
    by_cases h : many < 0
    · simp only [doorwardref06_Take.j0, decide_eq_true h, if_true]
      exact now (by simp [takeS, h])
    · simp only [doorwardref06_Take.j0, decide_eq_false h, if_neg (show ¬ (false = true) by decide)]
      refine Ev.bind (rfree_ev l (by omega)) ?_
      by_cases hf : (fr l : Int) < many
      · simp only [if_pos hf]
        exact now (by simp [takeS, hr, h, hf])
      · simp only [if_neg hf]
        obtain ⟨m, rfl⟩ := Int.eq_ofNat_of_zero_le (show 0 ≤ many by omega)
        have := fr_le l
        have := rtake_l0 m (by omega) l (by omega) l.length 0 [] [] m (by omega) (by simp) (by simp) (by simp)
        simp only [List.nil_append, List.drop_zero] at this
        simp only [takeS, hr, hf, h, if_false, Int.toNat_natCast]
        simpa using this
theorem alive_ev : Ev (fun k => doorwardlaw06_alive.f k) true := by
  unfold doorwardlaw06_alive.f
  have hn : (if 64 ≤ (64 : Int) ∧ (64 : Int) ≤ 256 then (nw (64 : Int).toNat, 0) else ([], 1)) = (nw 64, (0 : Int)) := rfl
  refine Ev.bind (hn ▸ new_ev 64) ?_
  refine Ev.bind (take_ev (nw 64) (by decide) 2) ?_
  have e : takeS (nw 64) 2 = ((tk 2 0 (nw 64)).1, [54, 55], 0) := by decide +kernel
  rw [e]
  exact now (by decide)

/-! ### what is taken -/
theorem tk_spec : ∀ (l : List Bool) (m i : Nat), m ≤ fr l →
    (tk m i l).1.length = l.length ∧ (tk m i l).2.length = m ∧ fr (tk m i l).1 + m = fr l ∧
    (∀ s ∈ (tk m i l).2, ∃ j : Nat, s = ((i + j : Nat) : Int) ∧ l[j]? = some false ∧ (tk m i l).1[j]? = some true) ∧
    (tk m i l).2.Pairwise (· < ·) ∧
    (∀ j, j < l.length → (l.getD j false = true ↔ ((tk m i l).1.getD j false = true ∧ ¬ ((i + j : Nat) : Int) ∈ (tk m i l).2))) := by
  intro l
  induction l with
  | nil => intro m i h; have : m = 0 := by simpa [fr] using h
           subst this; simp [tk, fr]
  | cons b l ih =>
    intro m i h
    cases m with
    | zero =>
      rw [tk_zero]
      refine ⟨rfl, rfl, rfl, by simp, by simp, fun j hj => ?_⟩
      simp
    | succ m =>
      cases b with
      | true =>
        obtain ⟨h1, h2, h3, h4, h5, h6⟩ := ih (m + 1) (i + 1) (by simpa [fr] using h)
        have hlow : ∀ s ∈ (tk (m + 1) (i + 1) l).2, (i : Int) < s := by
          intro s hs
          obtain ⟨j, rfl, _⟩ := h4 s hs
          omega
        simp only [tk]
        refine ⟨by simp [h1], h2, by simp [fr] at h3 ⊢; omega, fun s hs => ?_, h5, fun j hj => ?_⟩
        · obtain ⟨j, e, a, c⟩ := h4 s hs
          exact ⟨j + 1, by rw [e]; omega, by simpa using a, by simpa using c⟩
        · cases j with
          | zero =>
            have : ¬ ((i : Nat) : Int) ∈ (tk (m + 1) (i + 1) l).2 := fun hm => by have := hlow _ hm; omega
            simp [this]
          | succ j =>
            have := h6 j (by simpa using hj)
            rw [show (i + (j + 1) : Nat) = i + 1 + j by omega]
            simp only [List.getD_cons_succ]
            exact this
      | false =>
        obtain ⟨h1, h2, h3, h4, h5, h6⟩ := ih m (i + 1) (by simp [fr] at h ⊢; omega)
        have hlow : ∀ s ∈ (tk m (i + 1) l).2, (i : Int) < s := by
          intro s hs
          obtain ⟨j, rfl, _⟩ := h4 s hs
          omega
        simp only [tk]
        refine ⟨by simp [h1], by simp [h2], by simp [fr] at h3 ⊢; omega, fun s hs => ?_, ?_, fun j hj => ?_⟩
        · rcases List.mem_cons.1 hs with rfl | hs
          · exact ⟨0, by simp, by simp, by simp⟩
          · obtain ⟨j, e, a, c⟩ := h4 s hs
            exact ⟨j + 1, by rw [e]; omega, by simpa using a, by simpa using c⟩
        · exact List.pairwise_cons.2 ⟨hlow, h5⟩
        · cases j with
          | zero => simp
          | succ j =>
            have := h6 j (by simpa using hj)
            have hne : ¬ ((i + (j + 1) : Nat) : Int) = (i : Int) := by omega
            rw [show (i + 1 + j : Nat) = i + (j + 1) by omega] at this
            simp only [List.mem_cons, hne, false_or, List.getD_cons_succ]
            exact this
/-- To take some and then some more. -/
theorem tk_add : ∀ (l : List Bool) (a b i : Nat), a + b ≤ fr l → tk (a + b) i l = ((tk b i (tk a i l).1).1, (tk a i l).2 ++ (tk b i (tk a i l).1).2) := by
  intro l
  induction l with
  | nil => intro a b i h; have : a + b = 0 := by simpa [fr] using h
           obtain ⟨rfl, rfl⟩ : a = 0 ∧ b = 0 := by omega
           rfl
  | cons c l ih =>
    intro a b i h
    cases a with
    | zero => simp [tk_zero]
    | succ a =>
      cases c with
      | true =>
        have := ih (a + 1) b (i + 1) (by simpa [fr] using h)
        rw [show a + 1 + b = (a + b) + 1 by omega] at this ⊢
        simp only [tk_true, this]
      | false =>
        have := ih a b (i + 1) (by simp [fr] at h ⊢; omega)
        rw [show a + 1 + b = (a + b) + 1 by omega]
        simp only [tk, tk_true, this, List.cons_append]

/-! ### Give -/
def gv : List Bool → List Int → Option (List Bool)
  | x, [] => some x
  | x, s :: ss => if 54 ≤ s ∧ s < x.length ∧ x.getD s.toNat false = true then gv (x.set s.toNat false) ss else none
def gvS (o : Option (List Bool)) : List Bool × Int := match o with | some y => (y, 0) | none => ([], 1)
theorem rdi (l : List Int) (i : Nat) (h : i < l.length) : rd l (i : Int) = l[i] := by simp [rd, List.getD_eq_getElem?_getD, List.getElem?_eq_getElem h]
theorem give_l0 (ss : List Int) (hss : ss.length ≤ 1000) : ∀ (d i : Nat) (x : List Bool), i + d = ss.length →
    Ev (fun k => room_Give.l0 k x ss (ss.length : Int) (i : Int)) (gvS (gv x (ss.drop i))) := by
  intro d
  induction d with
  | zero =>
    intro i x hi
    apply succ
    have h : ¬ (i : Int) < (ss.length : Int) := by omega
    simp only [room_Give.l0, if_neg h]
    refine now ?_
    rw [List.drop_of_length_le (by omega)]; rfl
  | succ d ih =>
    intro i x hi
    apply succ
    have h : (i : Int) < (ss.length : Int) := by omega
    have h0 : 0 ≤ (i : Int) := by omega
    have hin : i < ss.length := by omega
    simp only [room_Give.l0, if_pos h, if_pos h0, rdi ss i hin, w1 (show i < 9223372036854775807 by omega)]
    rw [drop_cons hin]
    generalize ss[i] = s
    by_cases a : s < 54
    · simp only [if_pos a]
      refine now ?_
      rw [gv, if_neg (by omega)]; rfl
    · by_cases b : s ≥ (x.length : Int)
      · simp only [if_neg a, if_pos b]
        refine now ?_
        rw [gv, if_neg (by omega)]; rfl
      · have c : 0 ≤ s := by omega
        have e : s < (x.length : Int) := by omega
        simp only [if_neg a, if_neg b, if_pos c, if_pos e]
        by_cases g : rdOf false x s = true
        · simp only [if_pos g]
          rw [gv, if_pos ⟨by omega, e, g⟩]
          exact ih (i + 1) _ (by omega)
        · simp only [if_neg g]
          refine now ?_
          rw [gv, if_neg (fun z => g z.2.2)]; rfl
def giveS (l : List Bool) (ss : List Int) : List Bool × Int := if rt l then gvS (gv l ss) else ([], 1)
theorem give_ev (l : List Bool) (hl : l.length ≤ 300) (ss : List Int) (hs : ss.length ≤ 1000) : Ev (fun k => room_Give.f k l ss) (giveS l ss) := by
  unfold room_Give.f
  refine Ev.bind (right_ev l (by omega)) ?_
  cases hr : rt l with
  | false =>
    simp only [if_neg (show ¬ (false = true) by decide)]
    exact now (by simp [giveS, hr])
  | true =>
    have hc : room_changed.f l = some l := by unfold room_changed.f; rw [if_pos (by omega)]
    simp only [if_true, hc, Option.bind_some]
    have := give_l0 ss hs ss.length 0 l (by omega)
    simpa [giveS, hr] using this
def mask (l gone : List Bool) : List Bool := List.zipWith (fun a b => a && !b) l gone
theorem mask_len (l gone : List Bool) (h : gone.length = l.length) : (mask l gone).length = l.length := by simp [mask, h]
theorem mask_get (l gone : List Bool) (h : gone.length = l.length) (i : Nat) : (mask l gone).getD i false = (l.getD i false && !(gone.getD i false)) := by
  by_cases hi : i < l.length
  · simp [mask, List.getD_eq_getElem?_getD, List.getElem?_zipWith, List.getElem?_eq_getElem hi, List.getElem?_eq_getElem (show i < gone.length by omega)]
  · simp [mask, List.getD_eq_getElem?_getD, List.getElem?_zipWith, List.getElem?_eq_none (show l.length ≤ i by omega)]
theorem mask_set (l gone : List Bool) (h : gone.length = l.length) (i : Nat) : (mask l gone).set i false = mask l (gone.set i true) := by
  apply List.ext_getElem?
  intro j
  simp only [mask, List.getElem?_set, List.getElem?_zipWith, List.length_zipWith]
  by_cases e : i = j
  · subst e
    by_cases hi : i < l.length
    · simp [hi, h, List.getElem?_eq_getElem hi]
    · simp [hi, h, List.getElem?_eq_none (show l.length ≤ i by omega)]
  · simp [e]
theorem rgive_l1 (l gone : List Bool) (h : gone.length = l.length) (hl : l.length ≤ 1000) : ∀ (d i : Nat), i + d = l.length →
    Ev (fun k => doorwardref06_Give.l1 k gone ((mask l gone).take i) l (l.length : Int) (i : Int)) (mask l gone, 0) := by
  have hml := mask_len l gone h
  intro d
  induction d with
  | zero =>
    intro i hi
    apply succ
    have h1 : ¬ (i : Int) < (l.length : Int) := by omega
    simp only [doorwardref06_Give.l1, if_neg h1]
    exact now (by rw [List.take_of_length_le (by omega)])
  | succ d ih =>
    intro i hi
    apply succ
    have h1 : (i : Int) < (l.length : Int) := by omega
    have h0 : 0 ≤ (i : Int) := by omega
    have hin : i < l.length := by omega
    have h2 : (i : Int) < (gone.length : Int) := by omega
    have h3 : ((mask l gone).take i).length < 140737488355328 := by have := List.length_take_le i (mask l gone); omega
    simp only [doorwardref06_Give.l1, if_pos h1, if_pos h0, if_pos h2, if_pos h3, rdo, w1 (show i < 9223372036854775807 by omega)]
    have e : (mask l gone).take (i + 1) = (mask l gone).take i ++ [(l.getD i false && !(gone.getD i false))] := by
      rw [List.take_succ_eq_append_getElem (show i < (mask l gone).length by omega), ← mask_get l gone h i, getD_of (show i < (mask l gone).length by omega)]
    have := ih (i + 1) (by omega)
    rw [e] at this
    cases hb : l.getD i false
    · simp only [if_neg (show ¬ (false = true) by decide)]
      rw [hb] at this
      simpa using this
    · simp only [if_true]
      rw [hb] at this
      simpa using this
theorem rgive_l0 (l : List Bool) (hl : l.length ≤ 1000) (ss : List Int) (hss : ss.length ≤ 1000) : ∀ (d i : Nat) (gone : List Bool), gone.length = l.length → i + d = ss.length →
    Ev (fun k => doorwardref06_Give.l0 k l gone ss (ss.length : Int) (i : Int)) (gvS (gv (mask l gone) (ss.drop i))) := by
  intro d
  induction d with
  | zero =>
    intro i gone hg hi
    apply succ
    have h : ¬ (i : Int) < (ss.length : Int) := by omega
    simp only [doorwardref06_Give.l0, if_neg h]
    rw [List.drop_of_length_le (by omega)]
    have := rgive_l1 l gone hg hl l.length 0 (by omega)
    simpa [gv, gvS] using this
  | succ d ih =>
    intro i gone hg hi
    apply succ
    have h : (i : Int) < (ss.length : Int) := by omega
    have h0 : 0 ≤ (i : Int) := by omega
    have hin : i < ss.length := by omega
    simp only [doorwardref06_Give.l0, if_pos h, if_pos h0, rdi ss i hin, w1 (show i < 9223372036854775807 by omega)]
    rw [drop_cons hin]
    generalize ss[i] = s
    have hml := mask_len l gone hg
    have hmg := mask_get l gone hg s.toNat
    by_cases a : s < 54
    · simp only [if_pos a]
      refine now ?_
      rw [gv, if_neg (by omega)]; rfl
    · by_cases b : s ≥ (l.length : Int)
      · simp only [if_neg a, if_pos b]
        refine now ?_
        rw [gv, if_neg (by omega)]; rfl
      · have c : 0 ≤ s := by omega
        have e : s < (l.length : Int) := by omega
        have e2 : s < (gone.length : Int) := by omega
        simp only [if_neg a, if_neg b, if_pos c, if_pos e, if_pos e2]
        by_cases g : rdOf false l s = true
        · by_cases g2 : rdOf false gone s = true
          · simp only [if_pos g, if_pos g2]
            refine now ?_
            unfold rdOf at g g2
            rw [gv, if_neg (by rw [hmg, g, g2]; simp)]; rfl
          · simp only [if_pos g, if_neg g2]
            unfold rdOf at g g2
            rw [gv, if_pos ⟨by omega, by omega, by rw [hmg, g, Bool.eq_false_iff.2 g2]; rfl⟩, mask_set l gone hg]
            exact ih (i + 1) _ (by simp [hg]) (by omega)
        · simp only [if_neg g]
          refine now ?_
          unfold rdOf at g
          rw [gv, if_neg (by rw [hmg, Bool.eq_false_iff.2 g]; simp)]; rfl
theorem mask_none (l : List Bool) : mask l (List.replicate l.length false) = l := by
  apply List.ext_getElem
  · simp [mask]
  · intro i h1 h2
    simp [mask]
theorem rgive_ev (l : List Bool) (hl : l.length ≤ 300) (ss : List Int) (hs : ss.length ≤ 1000) : Ev (fun k => doorwardref06_Give.f k l ss) (giveS l ss) := by
  unfold doorwardref06_Give.f
  refine Ev.bind (rright_ev l (by omega)) ?_
  cases hr : rt l with
  | false =>
    simp only [if_neg (show ¬ (false = true) by decide)]
    exact now (by simp [giveS, hr])
  | true =>
    have h0 : 0 ≤ (l.length : Int) := by omega
    have h1 : ((l.length : Int) : Int).toNat ≤ 281474976710656 := by omega
    simp only [if_true, if_pos h0, if_pos h1]
    simp only [Int.toNat_natCast]
    have := rgive_l0 l (by omega) ss hs ss.length 0 (List.replicate l.length false) (by simp) (by omega)
    rw [mask_none] at this
    simpa [giveS, hr] using this
theorem gv_len : ∀ (ss : List Int) (x y : List Bool), gv x ss = some y → y.length = x.length := by
  intro ss
  induction ss with
  | nil => intro x y h; simp [gv] at h; rw [h]
  | cons s ss ih =>
    intro x y h
    rw [gv] at h
    split at h
    · have := ih _ _ h; simpa using this
    · cases h
/-- Different ones that are used, from 54 on, can be given back; the row is without them then. -/
theorem gv_all : ∀ (ss : List Int) (x : List Bool), ss.Nodup → (∀ s ∈ ss, 54 ≤ s ∧ s < x.length ∧ x.getD s.toNat false = true) →
    ∃ y, gv x ss = some y ∧ y.length = x.length ∧ ∀ j, (y.getD j false = true ↔ (x.getD j false = true ∧ ¬ (j : Int) ∈ ss)) := by
  intro ss
  induction ss with
  | nil => intro x _ _; exact ⟨x, rfl, rfl, by simp⟩
  | cons s ss ih =>
    intro x hn h
    obtain ⟨hs1, hs2, hs3⟩ := h s (by simp)
    obtain ⟨hn1, hn2⟩ := List.nodup_cons.1 hn
    have hset : ∀ j, ((x.set s.toNat false).getD j false = true ↔ (x.getD j false = true ∧ ¬ (j : Int) = s)) := by
      intro j
      simp only [List.getD_eq_getElem?_getD, List.getElem?_set]
      by_cases e : s.toNat = j
      · subst e
        have : ((s.toNat : Nat) : Int) = s := by omega
        simp [this]
        split <;> simp
      · have : ¬ ((j : Int) = s) := by omega
        simp [e, this]
    obtain ⟨y, h1, h2, h3⟩ := ih (x.set s.toNat false) hn2 (fun s' hs' => by
      obtain ⟨a, b, c⟩ := h s' (by simp [hs'])
      refine ⟨a, by simpa using b, (hset _).2 ⟨c, ?_⟩⟩
      intro e
      apply hn1
      rw [← e, show ((s'.toNat : Nat) : Int) = s' by omega]
      exact hs')
    refine ⟨y, by rw [gv, if_pos ⟨hs1, hs2, hs3⟩]; exact h1, by simpa using h2, fun j => ?_⟩
    rw [h3 j, hset j]
    simp only [List.mem_cons, not_or, and_assoc]
end Go.Proofs.Ythhkinkcelcgaaa.Pure

import Derived.Test.YtdfjjimmnbijmaaDoorPPt
namespace Go.Proofs.YtdfjjimmnbijmaaDoor.PP
open Go.RowKit Go.Proofs.YtdfjjimmnbijmaaDoorW.PrintWords Go.Proofs.YtdfjjimmnbijmaaDoorW.PrintLast Go.Proofs.YtdfjjimmnbijmaaDoorW.PrintMore Go.Proofs.YtdfjjimmnbijmaaDoor.Base
attribute [local go_sem] max2_int min2_int max_two min_two max_three min_three max_four min_four
set_option linter.unusedVariables false
set_option linter.unusedSimpArgs false
def eqAll {α : Type} (e : α → α → Bool) : List α → List α → Bool
 | [], [] => true
 | a :: r, b :: s => e a b && eqAll e r s
 | _, _ => false
def eqK : Nat → S47 → S47 → Bool
 | 0, _, _ => false
 | n + 1, x, y => x.f0 == y.f0 && (x.f2 == y.f2 && (x.f3 == y.f3 && (x.f4.toList == y.f4.toList && (x.f5 == y.f5 && (decide (x.f1.length ≤ 1000000) && eqAll (eqK n) x.f1 y.f1)))))
def eqB (a b : ByteArray) : Bool := a.toList == b.toList
def eqR (n : Nat) (x y : S81) : Bool := eqB x.f0 y.f0 && (x.f1 == y.f1 && (eqAll eqB x.f2 y.f2 && (decide (x.f2.length ≤ 1000000) && eqK n x.f3 y.f3)))
def doorwardref15_Like.f (k : Nat) (a0_0 : ByteArray) (a0_1 : ByteArray) (a0_2 : Int) (l0_3 : List (S81)) (a1_0 : ByteArray) (a1_1 : ByteArray) (a1_2 : Int) (l1_3 : List (S81)) : Option (Bool) :=
 if (eqB a0_0 a1_0 && (eqB a0_1 a1_1 && (a0_2 == a1_2 && (decide (l0_3.length ≤ 1000000) && eqAll (eqR k) l0_3 l1_3)))) = true then some true else none
theorem eqB_eq {a b : ByteArray} (h : eqB a b = true) : a = b := tl_inj (by simpa [eqB] using h)
theorem eqAll_mono {α : Type} {e e' : α → α → Bool} (h : ∀ a b, e a b = true → e' a b = true) : ∀ l m, eqAll e l m = true → eqAll e' l m = true
 | [], [], _ => rfl
 | a :: r, b :: s, hh => by
  simp only [eqAll, Bool.and_eq_true] at hh ⊢
  exact ⟨h _ _ hh.1, eqAll_mono h r s hh.2⟩
 | [], b :: s, hh => by cases hh
 | a :: r, [], hh => by cases hh
theorem eqAll_eq {α : Type} {e : α → α → Bool} (h : ∀ a b, e a b = true → a = b) : ∀ l m, eqAll e l m = true → l = m
 | [], [], _ => rfl
 | a :: r, b :: s, hh => by
  simp only [eqAll, Bool.and_eq_true] at hh
  rw [h _ _ hh.1, eqAll_eq h r s hh.2]
 | [], b :: s, hh => by cases hh
 | a :: r, [], hh => by cases hh
theorem eqAll_mem {α : Type} {e : α → α → Bool} : ∀ l, eqAll e l l = true → ∀ a ∈ l, e a a = true
 | [], _, a, h => by cases h
 | b :: r, hh, a, h => by
  simp only [eqAll, Bool.and_eq_true] at hh
  rcases List.mem_cons.1 h with q | q
  ·subst q; exact hh.1
  ·exact eqAll_mem r hh.2 a q
theorem eqAll_refl {α : Type} {e : α → α → Bool} : ∀ l : List α, (∀ a ∈ l, e a a = true) → eqAll e l l = true
 | [], _ => rfl
 | b :: r, h => by
  simp only [eqAll, Bool.and_eq_true]
  exact ⟨h b List.mem_cons_self, eqAll_refl r fun a ha => h a (List.mem_cons_of_mem _ ha)⟩
theorem eqK_mono : ∀ n x y, eqK n x y = true → eqK (n + 1) x y = true
 | 0, x, y, h => by cases h
 | n + 1, x, y, h => by
  rw [eqK] at h ⊢
  simp only [Bool.and_eq_true] at h ⊢
  obtain ⟨h0, h1, h2, h3, h4, h5, h6⟩ := h
  exact ⟨h0, h1, h2, h3, h4, h5, eqAll_mono (eqK_mono n) _ _ h6⟩
theorem eqK_eq : ∀ n x y, eqK n x y = true → x = y
 | 0, x, y, h => by cases h
 | n + 1, x, y, h => by
  rw [eqK] at h
  simp only [Bool.and_eq_true, beq_iff_eq] at h
  obtain ⟨h0, h1, h2, h3, h4, _, h6⟩ := h
  have e4 := tl_inj h3
  have e1 := eqAll_eq (eqK_eq n) _ _ h6
  cases x; cases y
  simp only at h0 h1 h2 e4 h4 e1
  subst h0 h1 h2 e4 h4 e1
  rfl
theorem eqR_mono (n : Nat) (x y : S81) (h : eqR n x y = true) : eqR (n + 1) x y = true := by
 unfold eqR at h ⊢
 simp only [Bool.and_eq_true] at h ⊢
 exact ⟨h.1, h.2.1, h.2.2.1, h.2.2.2.1, eqK_mono _ _ _ h.2.2.2.2⟩
theorem eqR_eq (n : Nat) (x y : S81) (h : eqR n x y = true) : x = y := by
 unfold eqR at h
 simp only [Bool.and_eq_true, beq_iff_eq] at h
 obtain ⟨h0, h1, h2, _, h4⟩ := h
 have e0 := eqB_eq h0
 have e2 := eqAll_eq (fun a b => eqB_eq) _ _ h2
 have e4 := eqK_eq _ _ _ h4
 cases x; cases y
 simp only at e0 h1 e2 e4
 subst e0 h1 e2 e4
 rfl
theorem doorwardref15_Like.mono : ∀ a0 a1 a2 a3 a4 a5 a6 a7 k, LeO (doorwardref15_Like.f k a0 a1 a2 a3 a4 a5 a6 a7) (doorwardref15_Like.f (k + 1) a0 a1 a2 a3 a4 a5 a6 a7) := by
 intro a0 a1 a2 a3 a4 a5 a6 a7 k r h
 unfold doorwardref15_Like.f at h ⊢
 split at h
 ·rename_i hc
  rw [if_pos]
  ·exact h
  ·simp only [Bool.and_eq_true] at hc ⊢
   exact ⟨hc.1, hc.2.1, hc.2.2.1, hc.2.2.2.1, eqAll_mono (eqR_mono k) _ _ hc.2.2.2.2⟩
 ·cases h
theorem evP_ {α : Type} {c : Prop} [Decidable c] {g g' : Nat → Option α} {r : α} (hc : c) (h : Ev g r) : Ev (fun k => if c then g k else g' k) r := by
 have e : (fun k => if c then g k else g' k) = g := by funext k; rw [if_pos hc]
 rw [e]; exact h
theorem evN_ {α : Type} {c : Prop} [Decidable c] {g g' : Nat → Option α} {r : α} (hc : ¬ c) (h : Ev g' r) : Ev (fun k => if c then g k else g' k) r := by
 have e : (fun k => if c then g k else g' k) = g' := by funext k; rw [if_neg hc]
 rw [e]; exact h
theorem likeC_l0 (b0 : Int) (b2 : Int) (b3 : Int) (b4 : ByteArray) (b5 : Int) (kids : List S47) (hk : kids.length ≤ 1000000) (hh : ∀ c ∈ kids, Ev (fun k => doorwardref15_LikeCond.f k c.f0 c.f1 c.f2 c.f3 c.f4 c.f5 c.f0 c.f1 c.f2 c.f3 c.f4 c.f5) true) :
  ∀ d i, i + d = kids.length → Ev (fun k => doorwardref15_LikeCond.l0 k (kids.length : Int) (i : Int) b0 kids b2 b3 b4 b5 b0 kids b2 b3 b4 b5) true := by
 intro d
 induction d with
 | zero =>
  intro i hi
  refine Ev.step (fun k => by rw [doorwardref15_LikeCond.l0]) ?_
  exact evN_ (by omega) (Ev.now true)
 | succ d ih =>
  intro i hi
  refine Ev.step (fun k => by rw [doorwardref15_LikeCond.l0]) ?_
  refine evP_ (show (i : Int) < (kids.length : Int) by omega) (evP_ (show 0 ≤ (i : Int) by omega) (evP_ (show (i : Int) < (kids.length : Int) by omega) (evP_ (show (i : Int) < (kids.length : Int) by omega) ?_)))
  have hil : i < kids.length := by omega
  have e_ : rd_T47 kids (i : Int) = kids[i] := by simp [rd_T47, List.getD_eq_getElem?_getD, List.getElem?_eq_getElem hil]
  rw [e_]
  refine Ev.bind (hh _ (List.getElem_mem hil)) (evP_ rfl ?_)
  have := ih (i + 1) (by omega)
  rw [show wrap64 ((i : Int) + 1) = ((i + 1 : Nat) : Int) by unfold wrap64; omega]
  exact this
theorem likeC_ev : ∀ n (x : S47), eqK n x x = true → Ev (fun k => doorwardref15_LikeCond.f k x.f0 x.f1 x.f2 x.f3 x.f4 x.f5 x.f0 x.f1 x.f2 x.f3 x.f4 x.f5) true
 | 0, x, h => by cases h
 | n + 1, x, h => by
  rw [eqK] at h
  simp only [Bool.and_eq_true, decide_eq_true_eq] at h
  obtain ⟨_, _, _, _, _, h5, h6⟩ := h
  have hk := eqAll_mem _ h6
  refine Ev.step (fun k => by rw [doorwardref15_LikeCond.f]) ?_
  refine evP_ rfl (evP_ rfl (evP_ rfl (evP_ rfl (evP_ rfl ?_))))
  have hne : ((x.f1.length : Int) != (x.f1.length : Int)) = false := by simp
  rw [hne]
  refine Ev.step (fun k => by rw [doorwardref15_LikeCond.j0]) ?_
  refine evN_ (by decide) ?_
  exact likeC_l0 _ _ _ _ _ x.f1 h5 (fun c hc => likeC_ev n c (hk c hc)) x.f1.length 0 (by omega)
theorem doorwardref15_Like.calls (k : Nat) (a0_0 : ByteArray) (a0_1 : ByteArray) (a0_2 : Int) (A0_3 : Option Addr) (c0_3 : Nat) (l0_3 : List (S81)) (a1_0 : ByteArray) (a1_1 : ByteArray) (a1_2 : Int) (A1_3 : Option Addr) (c1_3 : Nat) (l1_3 : List (S81)) (r : Bool) (w : World) (hr0_3 : Kd.C k81 w A0_3 l0_3.length l0_3) (hc0_3 : l0_3.length ≤ c0_3) (hr1_3 : Kd.C k81 w A1_3 l1_3.length l1_3) (hc1_3 : l1_3.length ≤ c1_3) (hLd : LaidAt w) (h : doorwardref15_Like.f k a0_0 a0_1 a0_2 l0_3 a1_0 a1_1 a1_2 l1_3 = some r) :
  Calls Tryd.prog 24 #[.agg #[.string a0_0, .string a0_1, .int .u64 a0_2, .slice A0_3 l0_3.length c0_3], .agg #[.string a1_0, .string a1_1, .int .u64 a1_2, .slice A1_3 l1_3.length c1_3]] w fun e w' => e = .returned (.bool r) ∧ Below w.heap.size w w' := by
 unfold doorwardref15_Like.f at h
 split at h
 ·rename_i hc
  obtain rfl := Option.some.inj h
  simp only [Bool.and_eq_true, beq_iff_eq, decide_eq_true_eq] at hc
  obtain ⟨q0, q1, q2, q3, q4⟩ := hc
  obtain rfl := eqB_eq q0
  obtain rfl := eqB_eq q1
  obtain rfl := q2
  obtain rfl := eqAll_eq (eqR_eq k) _ _ q4
  have hm := eqAll_mem _ q4
  refine like_any _ _ _ _ _ _ _ _ w hr0_3 hc0_3 hr1_3 hc1_3 hLd q3 (fun x hx => ?_) (fun x hx => ?_)
  ·have := hm x hx
   unfold eqR at this
   simp only [Bool.and_eq_true, decide_eq_true_eq] at this
   exact this.2.2.2.1
  ·have := hm x hx
   unfold eqR at this
   simp only [Bool.and_eq_true] at this
   exact Ev.rounds (likeC_ev k x.f3 this.2.2.2.2)
 ·cases h

end Go.Proofs.YtdfjjimmnbijmaaDoor.PP

import Derived.Test.YtdfjjimmnbijmaaDoorSR12
import Derived.Test.YtdfjjimmnbijmaaDoorSRo
namespace Go.Proofs.YtdfjjimmnbijmaaDoor.SR
open Go.RowKit Go.Proofs.YtdfjjimmnbijmaaDoorW.PrintWords Go.Proofs.YtdfjjimmnbijmaaDoorW.PrintLast Go.Proofs.YtdfjjimmnbijmaaDoorW.PrintMore Go.Proofs.YtdfjjimmnbijmaaDoor.Base
attribute [local go_sem] max2_int min2_int max_two min_two max_three min_three max_four min_four
set_option linter.unusedVariables false
set_option linter.unusedSimpArgs false
/-! ### texts, one behind the other -/
theorem jt_ext {a b : ByteArray} (h : a.data.toList = b.data.toList) : a = b := by
  apply ByteArray.ext; apply Array.ext'; exact h
def tailT (by_ : ByteArray) (xs : List ByteArray) : ByteArray := ⟨(Lib.joinTail by_.data.toList (xs.map (·.data.toList))).toArray⟩
theorem tailT_nil (b : ByteArray) : tailT b [] = ⟨#[]⟩ := rfl
theorem tailT_cons (b x : ByteArray) (r : List ByteArray) : tailT b (x :: r) = b ++ x ++ tailT b r := by
  apply jt_ext; simp [tailT, Lib.joinTail]
theorem joinT_cons (b x : ByteArray) (r : List ByteArray) : joinT b (x :: r) = x ++ tailT b r := by
  apply jt_ext; simp [joinT, tailT, Lib.join_cons]
theorem app_assoc (a b c : ByteArray) : a ++ b ++ c = a ++ (b ++ c) := by apply jt_ext; simp
theorem app_nil (a : ByteArray) : a ++ (⟨#[]⟩ : ByteArray) = a := by apply jt_ext; simp
theorem nil_app (a : ByteArray) : (⟨#[]⟩ : ByteArray) ++ a = a := by apply jt_ext; simp
theorem sz_app (a b : ByteArray) : (a ++ b).size = a.size + b.size := ByteArray.size_append
theorem tailT_size (b : ByteArray) : ∀ xs : List ByteArray, (tailT b xs).size = b.size * xs.length + sumZ xs
  | [] => rfl
  | x :: r => by rw [tailT_cons, sz_app, sz_app, tailT_size b r, sumZ_cons, List.length_cons, Nat.mul_succ]; omega
def T10 (ls : List ByteArray) : ByteArray := joinT ⟨#[10]⟩ ls ++ ⟨#[10]⟩
def outP (v : ByteArray × Bool) : ByteArray × Int := if v.2 = true then (v.1, 0) else (⟨#[]⟩, 1)
theorem tailT_app (b : ByteArray) : ∀ p q : List ByteArray, tailT b (p ++ q) = tailT b p ++ tailT b q
  | [], q => by rw [List.nil_append, tailT_nil, nil_app]
  | x :: p, q => by rw [List.cons_append, tailT_cons, tailT_cons, tailT_app b p q, app_assoc (b ++ x)]
theorem T10_snoc (acc : List ByteArray) (x : ByteArray) (h : acc ≠ []) : T10 (acc ++ [x]) = T10 acc ++ x ++ ⟨#[10]⟩ := by
  cases acc with
  | nil => exact absurd rfl h
  | cons a q =>
    unfold T10
    rw [List.cons_append, joinT_cons, joinT_cons, tailT_app, tailT_cons, tailT_nil]
    apply jt_ext; simp
theorem snoc_ne (acc : List ByteArray) (x : ByteArray) : acc ++ [x] ≠ [] := by simp
theorem T10_snoc_size (acc : List ByteArray) (x : ByteArray) (h : acc ≠ []) : (T10 (acc ++ [x])).size = (T10 acc).size + x.size + 1 := by
  rw [T10_snoc acc x h, sz_app, sz_app]; rfl
theorem lines_mono : ∀ (rs : List RN) (long : Nat) (acc ls : List ByteArray), acc ≠ [] → linesS long rs acc = some ls → (T10 acc).size ≤ (T10 ls).size
  | [], long, acc, ls, h, e => by rw [linesS] at e; cases e; exact Nat.le_refl _
  | r :: t, long, acc, ls, h, e => by
    rw [linesS] at e
    split at e
    · have h1 := lines_mono t _ _ ls (snoc_ne _ _) e
      rw [T10_snoc_size acc _ h] at h1
      omega
    · cases e
theorem outP_ok (v : ByteArray × Bool) : ((outP v).2 == 0) = v.2 := by
  unfold outP
  cases h : v.2 with
  | true => rfl
  | false => rfl
theorem print_f (a d : ByteArray) (n : Int) (rs : List RN) (hn0 : 0 ≤ n) (hn1 : n < 18446744073709551616) (hok : ∀ r ∈ rs, okR r) : show_Print.f a d n rs = some (outP (sourceS a d n rs)) := by
  unfold show_Print.f show_source.f outP
  rw [if_pos ⟨⟨hn0, hn1⟩, hok⟩, Option.bind_some]
  cases h : (sourceS a d n rs).2 with
  | true => rfl
  | false => rfl
/-! ### ShowRules is true -/
theorem alive17 : doorwardlaw17_alive.f = some true := by kernel_rfl
theorem ext_app (a b : ByteArray) : (a ++ b).extract a.size (a ++ b).size = b := by
  apply jt_ext
  have e1 := Lib.size_eq a
  have e2 := Lib.size_eq b
  rw [ByteArray.size_append, ByteArray.data_extract, ByteArray.data_append, Array.toList_extract, Array.toList_append, List.extract_eq_take_drop, e1, e2, List.drop_left, Nat.add_sub_cancel_left, List.take_length]
theorem lines_all : ∀ (rs : List RN) (long : Nat) (acc ls : List ByteArray), linesS long rs acc = some ls → ls = acc ++ rs.map (fun r => (ruleS r).1) ∧ (∀ r ∈ rs, (ruleS r).2 = true) ∧ (rs ≠ [] → long + sumZ (rs.map (fun r => (ruleS r).1)) ≤ 2000)
  | [], long, acc, ls, h => by rw [linesS] at h; cases h; exact ⟨by simp, fun r hr => (by cases hr), fun h => absurd rfl h⟩
  | r :: t, long, acc, ls, h => by
    rw [linesS] at h
    split at h
    · rename_i hc
      obtain ⟨h1, h2, h3⟩ := lines_all t _ _ ls h
      refine ⟨by rw [h1]; simp, fun q hq => ?_, fun _ => ?_⟩
      · rcases List.mem_cons.1 hq with e | e
        · rw [e]; exact hc.1
        · exact h2 q e
      · rw [List.map_cons, sumZ_cons]
        cases t with
        | nil => have := hc.2; simp [sumZ_nil]; exact this
        | cons u v => have := h3 (by simp); omega
    · cases h
theorem lines_some : ∀ (rs : List RN) (long : Nat) (acc : List ByteArray), (∀ r ∈ rs, (ruleS r).2 = true) → long + sumZ (rs.map (fun r => (ruleS r).1)) ≤ 2000 → linesS long rs acc = some (acc ++ rs.map (fun r => (ruleS r).1))
  | [], long, acc, _, _ => by rw [linesS]; simp
  | r :: t, long, acc, h, hs => by
    rw [List.map_cons, sumZ_cons] at hs
    rw [linesS, if_pos ⟨h r List.mem_cons_self, by omega⟩, lines_some t _ _ (fun q hq => h q (List.mem_cons_of_mem _ hq)) (by omega)]
    simp
theorem source_ok {a d : ByteArray} {n : Int} {rs : List RN} (h : (sourceS a d n rs).2 = true) : (wordS a = true ∧ wordS d = true) ∧ rs.length ≤ 2000 ∧ (∀ r ∈ rs, (ruleS r).2 = true) ∧ (rs ≠ [] → sumZ (rs.map (fun r => (ruleS r).1)) ≤ 2000) ∧ (sourceS a d n rs).1 = T10 ([headA a, headD d n] ++ rs.map (fun r => (ruleS r).1)) ∧ (T10 ([headA a, headD d n] ++ rs.map (fun r => (ruleS r).1))).size ≤ 2000 := by
  unfold sourceS at h ⊢
  split at h
  · rename_i hw
    rw [if_pos hw]
    cases hL : linesS 0 rs [headA a, headD d n] with
    | none => rw [hL] at h; cases h
    | some ls =>
      rw [hL] at h
      obtain ⟨h1, h2, h3⟩ := lines_all rs 0 _ ls hL
      have h4 : (T10 ls).size ≤ 2000 := of_decide_eq_true h
      rw [h1] at h4
      refine ⟨⟨hw.1, hw.2.1⟩, hw.2.2, h2, fun q => by have := h3 q; omega, ?_, h4⟩
      show T10 ls = _
      rw [h1]
  · cases h
theorem source_of {a d : ByteArray} {n : Int} {rs : List RN} (hw : wordS a = true ∧ wordS d = true) (hl : rs.length ≤ 2000) (hr : ∀ r ∈ rs, (ruleS r).2 = true) (hs : rs ≠ [] → sumZ (rs.map (fun r => (ruleS r).1)) ≤ 2000) (ht : (T10 ([headA a, headD d n] ++ rs.map (fun r => (ruleS r).1))).size ≤ 2000) : sourceS a d n rs = (T10 ([headA a, headD d n] ++ rs.map (fun r => (ruleS r).1)), true) := by
  unfold sourceS
  rw [if_pos ⟨hw.1, hw.2, hl⟩, lines_some rs 0 _ hr (by
    cases rs with
    | nil => simp [sumZ_nil]
    | cons r t => have := hs (by simp); omega)]
  show (T10 _, decide ((T10 _).size ≤ 2000)) = _
  rw [decide_eq_true ht]
theorem T10_grow (acc : List ByteArray) (h : acc ≠ []) : ∀ xs : List ByteArray, (T10 acc).size ≤ (T10 (acc ++ xs)).size
  | [] => by simp
  | x :: t => by
    have h1 := T10_grow (acc ++ [x]) (snoc_ne _ _) t
    rw [T10_snoc_size acc x h] at h1
    rw [show acc ++ x :: t = acc ++ [x] ++ t by simp]
    omega
/-- What the parts of a policy that can be written are written as. -/
theorem source_parts {a d : ByteArray} {n : Int} {l : List RN} {r : RN} (h : (sourceS a d n (l ++ [r])).2 = true) :
    sourceS a d n l = (T10 ([headA a, headD d n] ++ l.map (fun r => (ruleS r).1)), true) ∧ sourceS a d n [r] = (T10 [headA a, headD d n] ++ ((ruleS r).1 ++ ⟨#[10]⟩), true) ∧ sourceS a d n [] = (T10 [headA a, headD d n], true) ∧
    (sourceS a d n (l ++ [r])).1 = T10 ([headA a, headD d n] ++ l.map (fun r => (ruleS r).1)) ++ ((ruleS r).1 ++ ⟨#[10]⟩) := by
  obtain ⟨hw, hl, hr, hs, h1, h2⟩ := source_ok h
  have hs := hs (by simp)
  rw [List.map_append, sumZ_app, List.map_singleton, sumZ_cons, sumZ_nil] at hs
  rw [List.length_append, List.length_singleton] at hl
  have hne : [headA a, headD d n] ++ l.map (fun r => (ruleS r).1) ≠ [] := by simp
  have e1 : [headA a, headD d n] ++ (l ++ [r]).map (fun r => (ruleS r).1) = [headA a, headD d n] ++ l.map (fun r => (ruleS r).1) ++ [(ruleS r).1] := by simp
  rw [e1] at h1 h2
  have h3 := h2
  rw [T10_snoc_size _ _ hne] at h3
  have hg := T10_grow [headA a, headD d n] (by simp) (l.map (fun r => (ruleS r).1))
  have hlast : T10 ([headA a, headD d n] ++ [r].map (fun r => (ruleS r).1)) = T10 [headA a, headD d n] ++ ((ruleS r).1 ++ ⟨#[10]⟩) := by
    rw [List.map_singleton, T10_snoc _ _ (by simp), app_assoc]
  refine ⟨source_of hw (by omega) (fun q hq => hr q (List.mem_append_left _ hq)) (fun _ => by omega) (by omega), ?_, ?_, ?_⟩
  · rw [← hlast]
    refine source_of hw (by simp) (fun q hq => hr q (List.mem_append_right _ hq)) (fun _ => by rw [List.map_singleton, sumZ_cons, sumZ_nil]; omega) ?_
    rw [List.map_singleton, T10_snoc_size _ _ (by simp)]; omega
  · have := source_of (a := a) (d := d) (n := n) (rs := []) hw (by simp) (fun q hq => by cases hq) (fun q => absurd rfl q) (by simp; omega)
    simpa using this
  · rw [h1, T10_snoc _ _ hne, app_assoc]
theorem showRules_ev (a d : ByteArray) (n : Int) (rs : List RN) (hn0 : 0 ≤ n) (hn1 : n < 18446744073709551616) (hok : ∀ r ∈ rs, okR r) : Ev (fun k => doorwardlaw17_ShowRules.f k a d n rs) true := by
  have j0t : ∀ s, Ev (fun k => doorwardlaw17_ShowRules.j0 k s true a d n rs) true := by
    intro s
    apply succ
    simp only [doorwardlaw17_ShowRules.j0, if_true, alive17, Option.bind_some]
    exact now rfl
  unfold doorwardlaw17_ShowRules.f
  simp only [doorwardref15_Few.f, Option.bind_some, print_f a d n rs hn0 hn1 hok]
  by_cases hf : fewB rs = true
  · have hlr : rs.length ≤ 30 := by unfold fewB at hf; rw [Bool.and_eq_true, decide_eq_true_eq] at hf; exact hf.1
    simp only [hf, ↓reduceIte]
    by_cases hs : (sourceS a d n rs).2 = true
    · have e0 : (outP (sourceS a d n rs)).2 = 0 := by unfold outP; rw [if_pos hs]
      have e1 : (outP (sourceS a d n rs)).1 = (sourceS a d n rs).1 := by unfold outP; rw [if_pos hs]
      simp only [e0, ↓reduceIte]
      rw [e1]
      rcases List.eq_nil_or_concat rs with rfl | ⟨l, r, rfl⟩
      · exact j0t _
      · rw [List.concat_eq_append] at *
        have eb : (((l ++ [r]).length : Int) == 0) = false := by rw [beq_eq_false_iff_ne]; simp; omega
        rw [eb]
        obtain ⟨p1, p2, p3, p4⟩ := source_parts hs
        rw [p4]
        have hlen : (l ++ [r]).length = l.length + 1 := by simp
        have hw : wrap64 (((l ++ [r]).length : Int) - 1) = (l.length : Int) := by rw [hlen] at hlr ⊢; unfold wrap64; omega
        have et : (l ++ [r]).take l.length = l := by simp
        have ed : (l ++ [r]).drop l.length = [r] := by simp
        have q1 : show_Print.f a d n l = some (T10 ([headA a, headD d n] ++ l.map (fun r => (ruleS r).1)), 0) := by rw [print_f a d n l hn0 hn1 (fun q hq => hok q (List.mem_append_left _ hq)), p1]; rfl
        have q2 : show_Print.f a d n [r] = some (T10 [headA a, headD d n] ++ ((ruleS r).1 ++ ⟨#[10]⟩), 0) := by rw [print_f a d n [r] hn0 hn1 (fun q hq => hok q (List.mem_append_right _ hq)), p2]; rfl
        have q3 : show_Print.f a d n [] = some (T10 [headA a, headD d n], 0) := by rw [print_f a d n [] hn0 hn1 (fun q hq => by cases hq), p3]; rfl
        obtain ⟨_, _, _, _, _, hz⟩ := source_ok hs
        have e2 : [headA a, headD d n] ++ (l ++ [r]).map (fun r => (ruleS r).1) = [headA a, headD d n] ++ l.map (fun r => (ruleS r).1) ++ [(ruleS r).1] := by simp
        rw [e2, T10_snoc_size _ _ (by simp)] at hz
        generalize T10 ([headA a, headD d n] ++ l.map (fun r => (ruleS r).1)) = A at *
        generalize T10 [headA a, headD d n] = B at *
        have hy : ((ruleS r).1 ++ (⟨#[10]⟩ : ByteArray)).size = (ruleS r).1.size + 1 := by rw [sz_app]; rfl
        generalize (ruleS r).1 ++ (⟨#[10]⟩ : ByteArray) = y at *
        apply succ
        simp only [doorwardlaw17_ShowRules.j0, Bool.false_eq_true, if_false, hw, Int.toNat_natCast, et, ed, q1, q2, q3, Option.bind_some, alive17, ↓reduceIte, ext_app]
        rw [if_pos (by omega), if_pos (by rw [hlen]; omega), if_pos (by rw [sz_app]; omega), if_pos (by omega), if_pos (by rw [sz_app]; omega), if_pos (by omega)]
        exact now (by simp)
    · have e0 : ¬ (outP (sourceS a d n rs)).2 = 0 := by unfold outP; rw [if_neg hs]; decide
      simp only [e0, ↓reduceIte]
      exact j0t _
  · rw [Bool.not_eq_true] at hf
    simp only [hf, Bool.false_eq_true, ↓reduceIte]
    exact j0t _
theorem rules_law (a d : ByteArray) (n : Int) (rs : List RN) (hn0 : 0 ≤ n) (hn1 : n < 18446744073709551616) (hok : ∀ r ∈ rs, okR r) (A : Option Addr) (cap : Nat) (w : World) (hC : Kd.C k81 w A rs.length rs) (hcap : rs.length ≤ cap) (hLd : LaidAt w) :
    Calls Tryd.prog 12 #[.agg #[.string a, .string d, .int .u64 n, .slice A rs.length cap]] w fun e w' => e = .returned (.bool true) ∧ Below w.heap.size w w' := by
  obtain ⟨k, hk⟩ := Ev.rounds (showRules_ev a d n rs hn0 hn1 hok)
  exact doorwardlaw17_ShowRules.calls k a d n A cap rs true w hC hcap hLd hk

end Go.Proofs.YtdfjjimmnbijmaaDoor.SR

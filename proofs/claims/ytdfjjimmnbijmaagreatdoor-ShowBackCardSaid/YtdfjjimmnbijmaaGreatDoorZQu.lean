import Derived.Test.YtdfjjimmnbijmaaGreatDoorZQn
import Derived.Test.YtdfjjimmnbijmaaGreatDoorZQo
import Derived.Test.YtdfjjimmnbijmaaGreatDoorZQs
namespace Go.Proofs.YtdfjjimmnbijmaaGreatDoor.ZQ
open Go.RowKit Go.Proofs.YtdfjjimmnbijmaaGreatDoorW.PrintWords Go.Proofs.YtdfjjimmnbijmaaGreatDoorW.PrintLast Go.Proofs.YtdfjjimmnbijmaaGreatDoorW.PrintMore Go.Proofs.YtdfjjimmnbijmaaGreatDoor.Base
attribute [local go_sem] max2_int min2_int max_two min_two max_three min_three max_four min_four
set_option linter.unusedVariables false
set_option linter.unusedSimpArgs false
/-! ### ShowBack is true -/
theorem alive17 : doorwardlaw17_alive.f = some true := by kernel_rfl
theorem right17_f (a d : ByteArray) (n : Int) (rs : List RN) (hn0 : 0 ≤ n) (hn1 : n < 18446744073709551616) (hok : ∀ r ∈ rs, okR r) : show_Right.f a d n rs = some (sourceS a d n rs).2 := by
  unfold show_Right.f show_source.f
  rw [if_pos ⟨⟨hn0, hn1⟩, hok⟩, Option.bind_some]
theorem few_ok {rs : List RN} (h : fewB rs = true) (hd : ∀ r ∈ rs, datR r) : rs.length ≤ 30 ∧ ∀ r ∈ rs, okR r := by
  unfold fewB at h
  rw [Bool.and_eq_true, decide_eq_true_eq, List.all_eq_true] at h
  refine ⟨h.1, fun r hr => ?_⟩
  have h2 := h.2 r hr
  rw [Bool.and_eq_true, decide_eq_true_eq] at h2
  obtain ⟨d1, d2, d3⟩ := hd r hr
  exact ⟨d1, d2, d3, by omega⟩
theorem eqB_refl (a : ByteArray) : eqB a a = true := by unfold eqB; exact beq_self_eq_true _
theorem eqAll_self {α : Type} {e : α → α → Bool} : ∀ l : List α, (∀ a ∈ l, e a a = true) → eqAll e l l = true
  | [], _ => rfl
  | a :: r, h => by rw [eqAll, h a List.mem_cons_self, eqAll_self r (fun x hx => h x (List.mem_cons_of_mem _ hx))]; rfl
theorem eqK_refl : ∀ c : CN, nodesC c ≤ 1000000 → ∀ n : Nat, nodesC c ≤ n → eqK n c c = true := by
  refine cond_ind fun c ih hn n h => ?_
  obtain ⟨m, rfl⟩ : ∃ m, n = m + 1 := ⟨n - 1, by have := nodesC_pos c; omega⟩
  have hl : c.f1.length ≤ 1000000 := by have := nodesL_len c.f1; rw [nodesC_eq] at hn; omega
  rw [eqK, decide_eq_true hl, eqAll_self c.f1 (fun k hk => ih k hk (by have := nodes_kid hk; omega) m (by have := nodes_kid hk; omega))]
  simp
theorem like_ev (a d : ByteArray) (n : Int) (rs : List RN) (hl : rs.length ≤ 1000000) (hr : ∀ r ∈ rs, r.f2.length ≤ 1000000 ∧ nodesC r.f3 ≤ 1000000) : Ev (fun k => doorwardref15_Like.f k a d n rs a d n rs) true := by
  refine ⟨1000000, fun k hk => ?_⟩
  show doorwardref15_Like.f k a d n rs a d n rs = some true
  unfold doorwardref15_Like.f
  have e : eqAll (eqR k) rs rs = true := by
    refine eqAll_self rs fun r h => ?_
    obtain ⟨h1, h2⟩ := hr r h
    unfold eqR
    rw [eqB_refl, eqAll_self r.f2 (fun s _ => eqB_refl s), decide_eq_true h1, eqK_refl r.f3 h2 k (by omega)]
    simp
  rw [if_pos]
  rw [eqB_refl, eqB_refl, decide_eq_true hl, e]
  simp
theorem few_nodes {rs : List RN} (h : fewB rs = true) : ∀ r ∈ rs, r.f2.length ≤ 1000000 ∧ nodesC r.f3 ≤ 1000000 := by
  unfold fewB at h
  rw [Bool.and_eq_true, decide_eq_true_eq, List.all_eq_true] at h
  intro r hr
  have h2 := h.2 r hr
  rw [Bool.and_eq_true, decide_eq_true_eq, decide_eq_true_eq] at h2
  omega
theorem showBack_ev (a d : ByteArray) (n : Int) (rs : List RN) (hn0 : 0 ≤ n) (hn1 : n < 18446744073709551616) (hd : ∀ r ∈ rs, datR r) : Ev (fun k => doorwardlaw17_ShowBack.f k a d n rs) true := by
  unfold doorwardlaw17_ShowBack.f
  simp only [doorwardref15_Few.f, Option.bind_some]
  by_cases hf : fewB rs = true
  · obtain ⟨hl, hok⟩ := few_ok hf hd
    simp only [hf, ↓reduceIte, print_f a d n rs hn0 hn1 hok, right17_f a d n rs hn0 hn1 hok, Option.bind_some, alive17, parse_Parse.f]
    by_cases hs : (sourceS a d n rs).2 = true
    · have e0 : (outP (sourceS a d n rs)).2 = 0 := by unfold outP; rw [if_pos hs]
      have e1 : (outP (sourceS a d n rs)).1 = (sourceS a d n rs).1 := by unfold outP; rw [if_pos hs]
      obtain ⟨hp, hz⟩ := parse_source hn0 hn1 (fun r hr => hd r hr) hs
      simp only [e0, e1, ↓reduceIte, hp]
      refine Ev.bind (like_ev a d n rs (by omega) (few_nodes hf)) ?_
      simp only [↓reduceIte]
      exact now (by rw [decide_eq_true_eq]; omega)
    · have e0 : ¬ (outP (sourceS a d n rs)).2 = 0 := by unfold outP; rw [if_neg hs]; decide
      rw [Bool.not_eq_true] at hs
      simp only [e0, ↓reduceIte, hs]
      exact now rfl
  · rw [Bool.not_eq_true] at hf
    simp only [hf, Bool.false_eq_true, ↓reduceIte, alive17, Option.bind_some]
    exact now rfl
theorem back_any (a d : ByteArray) (n : Int) (rs : List RN) (hn0 : 0 ≤ n) (hn1 : n < 18446744073709551616) (hd : ∀ r ∈ rs, datR r) (A : Option Addr) (cap : Nat) (w : World) (hC : Kd.C k47 w A rs.length rs) (hcap : rs.length ≤ cap) (hLd : LaidAt w) :
    Calls Tryz.prog 5 #[.agg #[.string a, .string d, .int .u64 n, .slice A rs.length cap]] w fun e w' => e = .returned (.bool true) ∧ Below w.heap.size w w' := by
  obtain ⟨k, hk⟩ := Ev.rounds (showBack_ev a d n rs hn0 hn1 hd)
  exact doorwardlaw17_ShowBack.calls k a d n A cap rs true w hC hcap hLd hk

end Go.Proofs.YtdfjjimmnbijmaaGreatDoor.ZQ

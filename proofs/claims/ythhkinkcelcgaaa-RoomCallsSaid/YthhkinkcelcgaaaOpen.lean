/- What an argument's reading as data (the row's form) says of its cells, kind by kind, so that the printed contracts may be used. -/
import Derived.Test.YthhkinkcelcgaaaWWords
import Derived.ProofKit
import Derived.Deep.Slices
namespace Go.Proofs.Ythhkinkcelcgaaa.Open
open Go.RowKit Go.ChangeShapes Go.WideShapes Go.Proofs.YthhkinkcelcgaaaW.PrintWords
set_option linter.unusedVariables false

/-- Whatever reads as data at this type with this much fuel lies there as the kind says, and fits. -/
def At {α : Type} (P : Program) (n : Nat) (t : TypeId) (d : Kd α) (fit : α → Prop) : Prop :=
  ∀ (H : Type) (enc : TypeId × Value → H) (w : World) (base : Nat) (spare : Nat → Bool) (held : Bool) (cs : List Value) (x : DataW H × List MemPlace),
    DataW.trod enc P w base spare held n t cs = some x → ∃ v, d.K w v cs ∧ fit v

theorem At.zero {α : Type} {P : Program} {t : TypeId} {d : Kd α} {fit : α → Prop} : At P 0 t d fit := by
  intro H enc w base spare held cs x h
  simp [DataW.trod] at h
theorem at_int {P : Program} {n : Nat} {t : TypeId} {k : IntKind} (ht : P.underlying t = some (.int k)) : At P n t (Kd.int k) (fun v => (Lit.int k v).wf = true) := by
  intro H enc w base spare held cs x h
  obtain ⟨v, rfl, _, hw⟩ := DataW.trod_int ht h
  exact ⟨v, rfl, hw⟩
theorem at_bool {P : Program} {n : Nat} {t : TypeId} (ht : P.underlying t = some .bool) : At P n t Kd.bool (fun _ => True) := by
  intro H enc w base spare held cs x h
  obtain ⟨v, rfl, _⟩ := DataW.trod_bool ht h
  exact ⟨v, rfl, trivial⟩
theorem at_string {P : Program} {n : Nat} {t : TypeId} (ht : P.underlying t = some .string) : At P n t Kd.string (fun s => s.size ≤ maxLen) := by
  intro H enc w base spare held cs x h
  obtain ⟨v, rfl, _, hw⟩ := DataW.trod_string ht h
  exact ⟨v, rfl, hw⟩
theorem add_add_ (a : Addr) (i j : Nat) : (a.add i).add j = a.add (i + j) := by
  unfold Addr.add
  by_cases hi : i = 0 <;> by_cases hj : j = 0 <;> simp [hi, hj, Nat.add_assoc]
theorem cells_get {w : World} {base : Nat} {a : Addr} {n : Nat} {cs : List Value} (h : w.cells? base a n = some cs) : cs.length = n ∧ ∀ i u, cs[i]? = some u → w.cell? (a.add i) = some u := by
  obtain ⟨_, hl, hc⟩ := World.cells?_some h
  refine ⟨hl, fun i u hu => ?_⟩
  have hi : i < cs.length := (List.getElem?_eq_some_iff.1 hu).1
  rw [hc i (by omega), hu]
/-- A slice: every element by its index. -/
theorem at_slice {α : Type} {P : Program} {n : Nat} {t e : TypeId} {d : Kd α} {fit : α → Prop} [Inhabited α] (ht : P.underlying t = some (.slice e)) (hc : P.cellsOf e = d.sz) (hs : ∀ m, m < n → At P m e d fit) :
    At P n t (Kd.slice e d) (fun l => l.length ≤ maxLen ∧ ∀ v ∈ l, fit v) := by
  intro H enc w base spare held cs x h
  rcases DataW.trod_slice ht h with ⟨rfl, _⟩ | ⟨a, len, cap, elems, rest, m, rfl, rfl, _, hb, hl, hm, hlen, hel, _, _⟩
  · exact ⟨[], ⟨none, 0, rfl, Nat.le_refl _, ⟨rfl, by simp, fun hp => absurd hp (by simp)⟩⟩, by simp [maxLen], by simp⟩
  · have hx : ∀ i, i < len → ∃ q : α × List Value, q.2.length = d.sz ∧ d.K w q.1 q.2 ∧ (∀ j u, q.2[j]? = some u → w.cell? (a.add (i * d.sz + j)) = some u) ∧ fit q.1 := by
      intro i hi
      have h1 := hel i hi
      rw [List.getElem?_eq_getElem (by omega)] at h1
      obtain ⟨cs', hcs, htr⟩ := Option.bind_eq_some_iff.1 h1
      obtain ⟨v, hv, hf⟩ := hs m (by omega) H enc w base spare held cs' _ htr
      obtain ⟨hl', hg⟩ := cells_get hcs
      refine ⟨(v, cs'), by rw [hl', hc], hv, fun j u hu => ?_, hf⟩
      have := hg j u hu
      rwa [add_add_, hc] at this
    obtain ⟨f, hf⟩ := Go.Deep.choose_lt (α := α × List Value) hx
    refine ⟨(List.range len).map fun i => (f i).1, ⟨some a, cap, by simp, by simpa using hl, ⟨by simp, by simp only [maxLen, List.length_map, List.length_range] at hm ⊢; omega, fun _ => ⟨a, rfl, fun j p hj => ?_⟩⟩⟩, by simp only [List.length_map, List.length_range]; omega, ?_⟩
    · have hj' : j < len := by have := (List.getElem?_eq_some_iff.1 hj).1; simpa using this
      have e : p = (f j).1 := by
        rw [List.getElem?_map, List.getElem?_range hj'] at hj
        exact (Option.some.inj hj).symm
      subst e
      exact ⟨(f j).2, (hf j hj').1, (hf j hj').2.1, (hf j hj').2.2.1⟩
    · intro v hv
      obtain ⟨i, hi, rfl⟩ := List.mem_map.1 hv
      exact (hf i (List.mem_range.1 hi)).2.2.2
/-- A slice as an argument: its three parts. -/
theorem open_arg {α : Type} {P : Program} {t e : TypeId} {d : Kd α} {fit : α → Prop} {H : Type} {enc : TypeId × Value → H} {w : World} {base : Nat} {spare : Nat → Bool} {held : Bool} {A : Option Addr} {len cap : Nat} {D : DataW H} {ps : List MemPlace}
    (ht : ∀ n, At P n t (Kd.slice e d) (fun l => l.length ≤ maxLen ∧ ∀ v ∈ l, fit v)) (h : DataW.Trod enc P w base spare held t (.slice A len cap) D ps) :
    ∃ l : List α, len = l.length ∧ d.C w A l.length l ∧ l.length ≤ cap ∧ l.length ≤ maxLen ∧ ∀ v ∈ l, fit v := by
  obtain ⟨n, hn⟩ := h
  obtain ⟨l, ⟨A', c', hcs, hl, hC⟩, hm, hf⟩ := ht n H enc w base spare held _ _ hn
  have hc2 : [Value.slice A len cap] = [Value.slice A' l.length c'] := by simpa [Value.cells] using hcs
  injection hc2 with h1 _
  injection h1 with h1 h2 h3
  subst h1 h2 h3
  exact ⟨l, rfl, hC, hl, hm, hf⟩
end Go.Proofs.Ythhkinkcelcgaaa.Open

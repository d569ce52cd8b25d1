import Derived.Test.YtdfjjimmnbijmaaGreatDoorZQl
import Derived.Test.YtdfjjimmnbijmaaGreatDoorZQh
namespace Go.Proofs.YtdfjjimmnbijmaaGreatDoor.ZQ
open Go.RowKit Go.Proofs.YtdfjjimmnbijmaaGreatDoorW.PrintWords Go.Proofs.YtdfjjimmnbijmaaGreatDoorW.PrintLast Go.Proofs.YtdfjjimmnbijmaaGreatDoorW.PrintMore Go.Proofs.YtdfjjimmnbijmaaGreatDoor.Base
attribute [local go_sem] max2_int min2_int max_two min_two max_three min_three max_four min_four
set_option linter.unusedVariables false
set_option linter.unusedSimpArgs false
/-! ### tokens of a printed condition, parsed -/
theorem hd_key {l : List S74} {k : Int} {s : ByteArray} {r : List Key} (h : l.map key = (k, s) :: r) : (hd l).f0 = k ∧ (hd l).f1 = s ∧ l.tail.map key = r := by
  cases l with
  | nil => cases h
  | cons t q =>
    rw [List.map_cons] at h
    injection h with h1 h2
    injection h1 with h3 h4
    exact ⟨h3, h4, h2⟩
theorem isP_key {l : List S74} {k0 : Int} {s0 : ByteArray} {r : List Key} (h : l.map key = (k0, s0) :: r) (k : Int) (x : ByteArray) : isP k x l = (k0 == k && (x.toList.isEmpty || s0.toList == x.toList)) := by
  obtain ⟨h1, h2, _⟩ := hd_key h
  unfold isP
  rw [h1, h2]
theorem isP_no {l : List S74} {r : List Key} (h : l.map key = r) (k : Int) (hk : k ≠ 0) (x : ByteArray) (hx : x.toList.isEmpty = false) (hr : ∀ q, r ≠ (k, x) :: q) : isP k x l = false := by
  cases r with
  | nil =>
    have : l = [] := List.map_eq_nil_iff.1 h
    subst this
    unfold isP
    have e : ((hd ([] : List S74)).f0 == k) = false := by rw [beq_eq_false_iff_ne]; exact fun e => hk e.symm
    rw [e, Bool.false_and]
  | cons t q =>
    obtain ⟨k0, s0⟩ := t
    rw [isP_key h, hx, Bool.false_or, Bool.eq_false_iff]
    intro e
    rw [Bool.and_eq_true, beq_iff_eq, beq_iff_eq] at e
    obtain ⟨rfl, e2⟩ := e
    obtain rfl : s0 = x := by rw [Lib.toList_data, Lib.toList_data] at e2; exact jt_ext e2
    exact hr q rfl
theorem takeP_key {l : List S74} {k : Int} {s : ByteArray} {r : List Key} (h : l.map key = (k, s) :: r) (xs : List ByteArray) (hx : anyT xs s = true) : takeP k xs l = .ok (s, l.tail) ∧ l.tail.map key = r := by
  obtain ⟨h1, h2, h3⟩ := hd_key h
  refine ⟨?_, h3⟩
  unfold takeP
  rw [h1, h2, hx, beq_self_eq_true, Bool.and_self, if_pos rfl]
theorem res_rsv (s : ByteArray) : resS s = rsvB s := by
  unfold resS rsvB rsvL
  rw [Bool.eq_iff_iff, Lib.containsS_iff]
  have e : ∀ x : ByteArray, (x = s ↔ x.toList = s.toList) := fun x => ⟨fun h => by rw [h], fun h => by rw [Lib.toList_data, Lib.toList_data] at h; exact jt_ext h⟩
  simp only [resL, List.mem_cons, List.not_mem_nil, or_false, List.contains_eq_mem, decide_eq_true_eq]
  have e2 : ∀ l : List UInt8, (s = ⟨l.toArray⟩ ↔ s.toList = l) := fun l => by
    rw [show (s = ⟨l.toArray⟩) ↔ (⟨l.toArray⟩ = s) from eq_comm, e, Lib.toList_data]
    exact eq_comm
  rw [show s = ⟨#[105, 102]⟩ ↔ s.toList = [105, 102] from e2 [105, 102], show s = ⟨#[97, 110, 100]⟩ ↔ s.toList = [97, 110, 100] from e2 [97, 110, 100], show s = ⟨#[111, 114]⟩ ↔ s.toList = [111, 114] from e2 [111, 114], show s = ⟨#[110, 111, 116]⟩ ↔ s.toList = [110, 111, 116] from e2 [110, 111, 116]]
theorem res_word {s : ByteArray} (h : wordS s = true) : resS s = false := by
  rw [word_step, Bool.and_eq_true, Bool.and_eq_true, Bool.and_eq_true] at h
  rw [res_rsv]
  simpa using h.2.2.2
theorem wordP_key {l : List S74} {s : ByteArray} {r : List Key} (h : l.map key = (1, s) :: r) (hs : resS s = false) : wordP l = .ok (s, l.tail) ∧ l.tail.map key = r := by
  unfold wordP
  rw [(hd_key h).2.1, hs, if_neg (by decide)]
  exact takeP_key h [] rfl
theorem numS_T (n : Int) (h0 : 0 ≤ n) (h1 : n < 18446744073709551616) : (numR (numS (numT n))).1 = n := by
  have h := num_dec n.toNat (by omega)
  rw [← numT_bts, mkB_bts] at h
  rw [h]
  show ((n.toNat : Nat) : Int) = n
  omega
theorem numP_key {l : List S74} {n : Int} {r : List Key} (h0 : 0 ≤ n) (h1 : n < 18446744073709551616) (h : l.map key = (2, numT n) :: r) : numP l = .ok (n, l.tail) ∧ l.tail.map key = r := by
  obtain ⟨h2, h3⟩ := takeP_key h [] rfl
  refine ⟨?_, h3⟩
  unfold numP
  rw [h2, bnd_ok]
  simp only
  rw [numS_T n h0 h1]
theorem sgn_any {s : ByteArray} (h : sgnB s = true) : anyT signsT s = true ∧ s ≠ ⟨#[38]⟩ := by
  have h2 : s.toList ∈ sgnL := by unfold sgnB at h; simpa using h
  have e : s = mkB (bts s) := (mkB_bts s).symm
  rw [Lib.toList_data] at h2
  have key : ∀ l : List UInt8, l ∈ sgnL → anyT signsT (mkB l) = true ∧ mkB l ≠ ⟨#[38]⟩ := by
    intro l hl
    simp only [sgnL, List.mem_cons, List.not_mem_nil, or_false] at hl
    rcases hl with rfl | rfl | rfl | rfl | rfl | rfl
    all_goals exact ⟨by decide, by decide⟩
  rw [e]; exact key _ h2
theorem arg_any (n : Int) (h0 : 0 ≤ n) (h1 : n ≤ 5) : anyT argsT (argT n) = true ∧ bt (argT n) 3 - 48 = n ∧ argT n ≠ notT := by
  rw [argT_cases n h0 h1]
  have e : n = 0 ∨ n = 1 ∨ n = 2 ∨ n = 3 ∨ n = 4 ∨ n = 5 := by omega
  rcases e with rfl | rfl | rfl | rfl | rfl | rfl
  all_goals exact ⟨by decide, by decide, by decide⟩
theorem bare_iff {c : CN} (h : bareS c = true) : c.f2 = 0 ∧ c.f3 = 0 ∧ c.f4 = ⟨#[]⟩ ∧ c.f5 = 0 := by
  unfold bareS at h
  rw [Bool.and_eq_true, Bool.and_eq_true, Bool.and_eq_true, decide_eq_true_eq, decide_eq_true_eq, decide_eq_true_eq, List.isEmpty_iff] at h
  refine ⟨h.1, h.2.1, ?_, h.2.2.2⟩
  have := h.2.2.1
  rw [Lib.toList_data] at this
  exact jt_ext this
theorem testP_key {c : CN} (h4 : c.f0 = 4) (a0 : 0 ≤ c.f2) (a5 : c.f2 ≤ 5) (hs : sgnB c.f4 = true) (hl : c.f1 = []) (hr : rngB c) {l : List S74} {r : List Key} (h : l.map key = tokC c ++ r) : ∃ l', testP l = .ok (c, l') ∧ l'.map key = r := by
  obtain ⟨r1, r2, r3, r4, r5, r6⟩ := hr
  obtain ⟨g1, g2, _⟩ := arg_any c.f2 a0 a5
  obtain ⟨s1, s2⟩ := sgn_any hs
  rw [tokC_test h4, List.cons_append, List.append_assoc] at h
  obtain ⟨t1, k1⟩ := takeP_key h argsT g1
  have fin : ∀ l2 : List S74, l2.map key = (3, c.f4) :: (2, numT c.f5) :: r → ∀ m : Int, m = c.f3 → ∃ l', (bnd (takeP 3 signsT l2) fun s => bnd (numP s.2) fun v => (.ok (⟨4, [], bt (argT c.f2) 3 - 48, m, s.1, v.1⟩, v.2) : Except (Int × Int) (S28 × List S74))) = .ok (c, l') ∧ l'.map key = r := by
    intro l2 hk m hm
    obtain ⟨t3, k3⟩ := takeP_key hk signsT s1
    obtain ⟨t4, k4⟩ := numP_key r5 r6 k3
    refine ⟨_, ?_, k4⟩
    rw [t3, bnd_ok]
    simp only
    rw [t4, bnd_ok]
    simp only
    rw [g2, hm]
    congr 2
    rw [← h4, ← hl]
    exact cn_eta c
  unfold testP
  rw [t1, bnd_ok]
  simp only
  unfold maskP
  by_cases hm : c.f3 = 18446744073709551615
  · rw [if_pos hm, List.nil_append, List.cons_append, List.cons_append, List.nil_append] at k1
    have e : isP 3 ⟨#[38]⟩ l.tail = false := isP_no k1 3 (by decide) _ (by rw [Lib.toList_data]; rfl) (fun q e => by injection e with e1 _; injection e1 with _ e2; exact s2 e2)
    rw [e, if_neg (by decide), bnd_ok]
    exact fin _ k1 _ hm.symm
  · rw [if_neg hm, List.cons_append, List.cons_append, List.nil_append, List.cons_append, List.cons_append, List.nil_append] at k1
    have e : isP 3 ⟨#[38]⟩ l.tail = true := by rw [isP_key k1]; simp
    obtain ⟨t2, k2⟩ := takeP_key k1 [] rfl
    obtain ⟨t3, k3⟩ := numP_key r3 r4 k2
    rw [e, if_pos rfl, t2, bnd_ok]
    simp only
    rw [t3, bnd_ok]
    exact fin _ k3 _ rfl
/-! #### rows of parts -/
theorem joinK_flat (kw : Key) (K : CN → List Key) (k : CN) : ∀ ks : List CN, joinK kw ((k :: ks).map K) = K k ++ ks.flatMap fun x => kw :: K x
  | [] => by rw [List.map_singleton, joinK, List.flatMap_nil, List.append_nil]
  | x :: r => by
    have ih := joinK_flat kw K x r
    rw [List.map_cons] at ih
    rw [List.map_cons, List.map_cons, joinK, ih, List.flatMap_cons]; simp
theorem flat_len (kw : Key) (K : CN → List Key) : ∀ ks : List CN, ks.length ≤ (ks.flatMap fun x => kw :: K x).length
  | [] => Nat.le_refl _
  | x :: r => by
    have := flat_len kw K r
    rw [List.flatMap_cons, List.length_append, List.length_cons, List.length_cons]; omega
abbrev Part := List S74 → Except (Int × Int) (S28 × List S74)
/-- Such a part reads these tokens as this condition, if what stands behind it is good. -/
def Rds (part : Part) (K : List Key) (c : CN) (G : List Key → Prop) : Prop := ∀ l r, l.map key = K ++ r → G r → ∃ l', part l = .ok (c, l') ∧ l'.map key = r
theorem more_key (part : Part) (wd : ByteArray) (hwd : wd.toList.isEmpty = false) (K : CN → List Key) (G : List Key → Prop) (hG : ∀ r, G ((1, wd) :: r)) : ∀ (ks : List CN) (n : Nat) (acc : List CN) (l : List S74) (r : List Key), ks.length ≤ n → l.map key = (ks.flatMap fun x => (1, wd) :: K x) ++ r → G r → (∀ q, r ≠ (1, wd) :: q) → (∀ k ∈ ks, Rds part (K k) k G) → ∃ l', moreP part wd n acc l = .ok (acc ++ ks, l') ∧ l'.map key = r
  | [], n, acc, l, r, _, h, hg, hr, _ => by
    rw [List.flatMap_nil, List.nil_append] at h
    refine ⟨l, ?_, h⟩
    cases n with
    | zero => rw [moreP, List.append_nil]
    | succ n => rw [moreP, isP_no h 1 (by decide) wd hwd hr, if_neg (by decide), List.append_nil]
  | k :: ks, n, acc, l, r, hn, h, hg, hr, hp => by
    obtain ⟨m, rfl⟩ : ∃ m, n = m + 1 := ⟨n - 1, by simp at hn; omega⟩
    rw [List.flatMap_cons, List.cons_append, List.cons_append, List.append_assoc] at h
    have e : isP 1 wd l = true := by rw [isP_key h]; simp
    obtain ⟨_, _, h2⟩ := hd_key h
    have hG2 : G ((ks.flatMap fun x => (1, wd) :: K x) ++ r) := by
      cases ks with
      | nil => exact hg
      | cons x y => rw [List.flatMap_cons, List.cons_append, List.cons_append]; exact hG _
    obtain ⟨l1, h3, h4⟩ := hp k List.mem_cons_self l.tail _ h2 hG2
    obtain ⟨l2, h5, h6⟩ := more_key part wd hwd K G hG ks m (acc ++ [k]) l1 r (by simp at hn; omega) h4 hg hr (fun x hx => hp x (List.mem_cons_of_mem _ hx))
    refine ⟨l2, ?_, h6⟩
    rw [moreP, e, if_pos rfl, h3, bnd_ok]
    simp only
    rw [h5, List.append_assoc, List.singleton_append]
theorem list_one {part : Part} {wd : ByteArray} (hwd : wd.toList.isEmpty = false) {K : List Key} {c : CN} {G : List Key → Prop} (kind : Int) (h : Rds part K c G) : Rds (listP part wd kind) K c (fun r => G r ∧ ∀ q, r ≠ (1, wd) :: q) := by
  intro l r hl hg
  obtain ⟨l1, h1, h2⟩ := h l r hl hg.1
  refine ⟨l1, ?_, h2⟩
  unfold listP
  rw [h1, bnd_ok]
  simp only
  have e : moreP part wd l.length [c] l1 = .ok ([c], l1) := by
    cases l.length with
    | zero => rw [moreP]
    | succ n => rw [moreP, isP_no h2 1 (by decide) wd hwd hg.2, if_neg (by decide)]
  rw [e, bnd_ok]
  rfl
theorem list_many {part : Part} {wd : ByteArray} (hwd : wd.toList.isEmpty = false) {K : CN → List Key} {c : CN} {G : List Key → Prop} (hG : ∀ r, G ((1, wd) :: r)) (kind : Int) (hk : c.f0 = kind) (hb : bareS c = true) (hl : 2 ≤ c.f1.length) (h : ∀ k ∈ c.f1, Rds part (K k) k G) : Rds (listP part wd kind) (joinK (1, wd) (c.f1.map K)) c (fun r => G r ∧ ∀ q, r ≠ (1, wd) :: q) := by
  intro l r hlr hg
  cases hc : c.f1 with
  | nil => rw [hc] at hl; simp at hl
  | cons k ks =>
    rw [hc, joinK_flat, List.append_assoc] at hlr
    rw [hc] at h
    have hG2 : G ((ks.flatMap fun x => ((1, wd) : Key) :: K x) ++ r) := by
      cases ks with
      | nil => exact hg.1
      | cons x y => rw [List.flatMap_cons, List.cons_append, List.cons_append]; exact hG _
    obtain ⟨l1, h1, h2⟩ := h k List.mem_cons_self l _ hlr hG2
    have hlen : ks.length ≤ l.length := by
      have e1 := congrArg List.length hlr
      have e2 := flat_len ((1, wd) : Key) K ks
      rw [List.length_map, List.length_append, List.length_append] at e1
      omega
    obtain ⟨l2, h3, h4⟩ := more_key part wd hwd K G hG ks l.length [k] l1 r hlen h2 hg.1 hg.2 (fun x hx => h x (List.mem_cons_of_mem _ hx))
    refine ⟨l2, ?_, h4⟩
    unfold listP
    rw [h1, bnd_ok]
    simp only
    rw [h3, bnd_ok]
    unfold listR
    obtain ⟨b1, b2, b3, b4⟩ := bare_iff hb
    have e : ¬ ([k] ++ ks).length = 1 := by rw [hc, List.length_cons] at hl; rw [List.length_append, List.length_singleton]; omega
    simp only
    rw [if_neg e]
    congr 2
    rw [← hk, List.singleton_append, ← hc]
    have := cn_eta c
    rw [b1, b2, b3, b4] at this
    exact this
/-! ### a printed condition is parsed as itself -/
def grpN (c : CN) : Nat := if c.f0 = 1 ∨ c.f0 = 2 then 1 else 0
def dF (c : CN) : Nat := depthC c + grpN c
def dP (c : CN) : Nat := if c.f0 = 1 then depthC c else dF c
theorem depthL_ge {a : Int} : ∀ {l : List CN} {k : CN}, k ∈ l → depthC k + (if a = 3 then 1 else 0) + (if (k.f0 = 1 ∨ k.f0 = 2) ∧ ¬ (a = 2 ∧ k.f0 = 1) then 1 else 0) ≤ depthL a l
  | x :: r, k, h => by
    rw [depthL]
    rcases List.mem_cons.1 h with e | e
    · subst e; exact Nat.le_max_left _ _
    · exact Nat.le_trans (depthL_ge e) (Nat.le_max_right _ _)
theorem dF_le {c k : CN} (h : k ∈ c.f1) (h1 : c.f0 = 1) : dF k ≤ depthC c := by
  have := depthL_ge (a := c.f0) h
  rw [← depthC_eq, h1, if_neg (by decide)] at this
  unfold dF grpN
  by_cases hg : k.f0 = 1 ∨ k.f0 = 2
  · rw [if_pos ⟨hg, fun q => by omega⟩] at this; rw [if_pos hg]; omega
  · rw [if_neg hg]; omega
theorem dP_le {c k : CN} (h : k ∈ c.f1) (h2 : c.f0 = 2) : dP k ≤ depthC c := by
  have := depthL_ge (a := c.f0) h
  rw [← depthC_eq, h2, if_neg (by decide)] at this
  unfold dP dF grpN
  by_cases h1 : k.f0 = 1
  · rw [if_pos h1]; omega
  · rw [if_neg h1]
    by_cases hg : k.f0 = 1 ∨ k.f0 = 2
    · rw [if_pos ⟨hg, fun q => h1 q.2⟩] at this; rw [if_pos hg]; omega
    · rw [if_neg hg]; omega
theorem dF_not {c k : CN} (h : k ∈ c.f1) (h3 : c.f0 = 3) : dF k + 1 ≤ depthC c := by
  have := depthL_ge (a := c.f0) h
  rw [← depthC_eq, h3, if_pos rfl] at this
  unfold dF grpN
  by_cases hg : k.f0 = 1 ∨ k.f0 = 2
  · rw [if_pos ⟨hg, fun q => by omega⟩] at this; rw [if_pos hg]; omega
  · rw [if_neg hg]; omega
def nA (r : List Key) : Prop := ∀ q, r ≠ (1, andT) :: q
def nO (r : List Key) : Prop := ∀ q, r ≠ (1, orT) :: q
theorem Rds.weak {p : Part} {K : List Key} {c : CN} {G G' : List Key → Prop} (h : Rds p K c G) (hg : ∀ r, G' r → G r) : Rds p K c G' := fun l r hl hr => h l r hl (hg r hr)
def okF (c : CN) : Prop := ∀ n D : Nat, dF c < n → D + dF c ≤ 8 → Rds (factorP n D) (factK c) c (fun _ => True)
def okP (c : CN) : Prop := ∀ n D : Nat, dP c < n → D + dP c ≤ 8 → Rds (partP (factorP n D)) (partK c) c nA
def okC (c : CN) : Prop := ∀ n D : Nat, depthC c < n → D + depthC c ≤ 8 → Rds (condP (factorP n D)) (tokC c) c (fun r => nA r ∧ nO r)
theorem F_of_C {c : CN} (hg : c.f0 = 1 ∨ c.f0 = 2) (h : okC c) : okF c := by
  intro n D hn hD l r hl _
  have hdf : dF c = depthC c + 1 := by unfold dF grpN; rw [if_pos hg]
  obtain ⟨m, rfl⟩ : ∃ m, n = m + 1 := ⟨n - 1, by omega⟩
  unfold factK at hl
  rw [if_pos hg, List.cons_append, List.append_assoc] at hl
  have hl : l.map key = (3, opT) :: (tokC c ++ ((3, clT) :: r)) := hl
  have e1 : isP 1 notT l = false := isP_no hl 1 (by decide) _ (by rw [Lib.toList_data]; rfl) (fun q e => by injection e with e1 _; injection e1 with e2 _; exact absurd e2 (by decide))
  have e2 : isP 3 opT l = true := by rw [isP_key hl]; simp
  obtain ⟨_, _, ht⟩ := hd_key hl
  obtain ⟨l1, h1, h2⟩ := h m (D + 1) (by omega) (by omega) l.tail _ ht ⟨fun q e => by injection e with e1 _; injection e1 with e2 _; exact absurd e2 (by decide), fun q e => by injection e with e1 _; injection e1 with e2 _; exact absurd e2 (by decide)⟩
  obtain ⟨h3, h4⟩ := takeP_key h2 [clT] (by decide)
  refine ⟨_, ?_, h4⟩
  rw [factorP, if_neg (by omega), e1, if_neg (by decide), e2, if_pos rfl, h1, bnd_ok]
  simp only
  rw [h3, bnd_ok]
theorem F_test {c : CN} (h4 : c.f0 = 4) (a0 : 0 ≤ c.f2) (a5 : c.f2 ≤ 5) (hs : sgnB c.f4 = true) (hl1 : c.f1 = []) (hr : rngB c) : okF c := by
  intro n D hn hD l r hl _
  obtain ⟨m, rfl⟩ : ∃ m, n = m + 1 := ⟨n - 1, by omega⟩
  unfold factK at hl
  rw [if_neg (by omega)] at hl
  have hl2 := hl
  rw [tokC_test h4, List.cons_append] at hl2
  have e1 : isP 1 notT l = false := isP_no hl2 1 (by decide) _ (by rw [Lib.toList_data]; rfl) (fun q e => by injection e with e1 _; injection e1 with _ e2; exact (arg_any c.f2 a0 a5).2.2 e2)
  have e2 : isP 3 opT l = false := isP_no hl2 3 (by decide) _ (by rw [Lib.toList_data]; rfl) (fun q e => by injection e with e1 _; injection e1 with e2 _; exact absurd e2 (by decide))
  obtain ⟨l1, h1, h2⟩ := testP_key h4 a0 a5 hs hl1 hr hl
  refine ⟨l1, ?_, h2⟩
  rw [factorP, if_neg (by omega), e1, if_neg (by decide), e2, if_neg (by decide), h1]
theorem F_not {c k : CN} (h3 : c.f0 = 3) (hk : c.f1 = [k]) (hb : bareS c = true) (h : okF k) : okF c := by
  intro n D hn hD l r hl _
  have hd := dF_not (c := c) (k := k) (by rw [hk]; exact List.mem_cons_self) h3
  have hdf : dF c = depthC c := by unfold dF grpN; rw [if_neg (by omega)]; rfl
  obtain ⟨m, rfl⟩ : ∃ m, n = m + 1 := ⟨n - 1, by omega⟩
  unfold factK at hl
  rw [if_neg (by omega), tokC_not h3 hk, List.cons_append] at hl
  have hl : l.map key = (1, notT) :: (factK k ++ r) := hl
  have e1 : isP 1 notT l = true := by rw [isP_key hl]; simp
  obtain ⟨_, _, ht⟩ := hd_key hl
  obtain ⟨l1, h1, h2⟩ := h m (D + 1) (by omega) (by omega) l.tail _ ht trivial
  refine ⟨l1, ?_, h2⟩
  rw [factorP, if_neg (by omega), e1, if_pos rfl, h1, bnd_ok]
  obtain ⟨b1, b2, b3, b4⟩ := bare_iff hb
  congr 2
  have := cn_eta c
  rw [b1, b2, b3, b4, h3, hk] at this
  exact this
theorem and_ne : andT.toList.isEmpty = false := by rw [Lib.toList_data]; rfl
theorem or_ne : orT.toList.isEmpty = false := by rw [Lib.toList_data]; rfl
theorem P_of_F {c : CN} (h1 : c.f0 ≠ 1) (h : okF c) : okP c := by
  intro n D hn hD
  have e : dP c = dF c := by unfold dP; rw [if_neg h1]
  have e2 : partK c = factK c := by unfold partK; rw [if_neg h1]
  rw [e2]
  exact (list_one and_ne 1 (h n D (by omega) (by omega))).weak fun r hr => ⟨trivial, hr⟩
theorem P_and {c : CN} (h1 : c.f0 = 1) (hb : bareS c = true) (hl : 2 ≤ c.f1.length) (h : ∀ k ∈ c.f1, okF k) : okP c := by
  intro n D hn hD
  have e : dP c = depthC c := by unfold dP; rw [if_pos h1]
  have e2 : partK c = joinK (1, andT) (c.f1.map factK) := by unfold partK; rw [if_pos h1, tokC_and h1]; rfl
  rw [e2]
  exact (list_many and_ne (K := factK) (G := fun _ => True) (fun _ => trivial) 1 h1 hb hl (fun k hk => h k hk n D (by have := dF_le hk h1; omega) (by have := dF_le hk h1; omega))).weak fun r hr => ⟨trivial, hr⟩
theorem C_of_P {c : CN} (h2 : c.f0 ≠ 2) (h : okP c) : okC c := by
  intro n D hn hD
  have e : dP c = depthC c := by
    unfold dP dF grpN
    by_cases h1 : c.f0 = 1
    · rw [if_pos h1]
    · rw [if_neg h1, if_neg (by omega)]; rfl
  have e2 : partK c = tokC c := by
    unfold partK factK
    by_cases h1 : c.f0 = 1
    · rw [if_pos h1]
    · rw [if_neg h1, if_neg (by omega)]
  rw [← e2]
  exact list_one or_ne 2 (h n D (by omega) (by omega))
theorem C_or {c : CN} (h2 : c.f0 = 2) (hb : bareS c = true) (hl : 2 ≤ c.f1.length) (h : ∀ k ∈ c.f1, okP k) : okC c := by
  intro n D hn hD
  have e2 : tokC c = joinK (1, orT) (c.f1.map partK) := tokC_or h2
  rw [e2]
  exact list_many or_ne (K := partK) (G := nA) (fun r q e => by injection e with e1 _; injection e1 with _ e3; exact absurd e3 (by decide)) 2 h2 hb hl (fun k hk => h k hk n D (by have := dP_le hk h2; omega) (by have := dP_le hk h2; omega))
theorem cond_ok : ∀ c : CN, fitsC c = true → rngC c = true → okF c ∧ okP c ∧ okC c := by
  refine cond_ind fun c ih hf hr => ?_
  rw [fitsC_eq, Bool.and_eq_true] at hf
  rw [rngC_iff] at hr
  have hk : ∀ k ∈ c.f1, okF k ∧ okP k ∧ okC k := fun k hk => ih k hk (fitsL_all hf.2 k hk) (rngL_all hr.2 k hk)
  rcases one_cases hf.1 with ⟨h4, a0, a5, hs, hl1⟩ | ⟨hb, h12, hl⟩ | ⟨hb, h3, k, ek⟩
  · have f := F_test h4 a0 a5 hs hl1 hr.1
    have p := P_of_F (by omega) f
    exact ⟨f, p, C_of_P (by omega) p⟩
  · rcases h12 with h1 | h2
    · have p := P_and h1 hb hl (fun k h => (hk k h).1)
      have q := C_of_P (by omega) p
      exact ⟨F_of_C (Or.inl h1) q, p, q⟩
    · have q := C_or h2 hb hl (fun k h => (hk k h).2.1)
      have f := F_of_C (Or.inr h2) q
      exact ⟨f, P_of_F (by omega) f, q⟩
  · have f := F_not h3 ek hb (hk k (by rw [ek]; exact List.mem_cons_self)).1
    have p := P_of_F (by omega) f
    exact ⟨f, p, C_of_P (by omega) p⟩
theorem joinK_len (kw : Key) (K : CN → List Key) : ∀ (l : List CN) (k : CN), k ∈ l → (K k).length ≤ (joinK kw (l.map K)).length
  | [x], k, h => by
    obtain rfl : k = x := by simpa using h
    exact Nat.le_refl _
  | x :: y :: r, k, h => by
    rw [List.map_cons, List.map_cons, joinK, List.length_append, List.length_cons]
    rcases List.mem_cons.1 h with e | e
    · subst e; omega
    · have := joinK_len kw K (y :: r) k e
      rw [List.map_cons] at this
      omega
theorem fact_len {k : CN} (h : depthC k < (tokC k).length) : dF k < (factK k).length := by
  unfold dF grpN factK
  by_cases hg : k.f0 = 1 ∨ k.f0 = 2
  · rw [if_pos hg, if_pos hg, List.length_cons, List.length_append]; omega
  · rw [if_neg hg, if_neg hg]; omega
theorem part_len {k : CN} (h : depthC k < (tokC k).length) : dP k < (partK k).length := by
  unfold dP partK
  by_cases h1 : k.f0 = 1
  · rw [if_pos h1, if_pos h1]; exact h
  · rw [if_neg h1, if_neg h1]; exact fact_len h
theorem depthL_le {a : Int} {m : Nat} : ∀ l : List CN, (∀ k ∈ l, depthC k + (if a = 3 then 1 else 0) + (if (k.f0 = 1 ∨ k.f0 = 2) ∧ ¬ (a = 2 ∧ k.f0 = 1) then 1 else 0) ≤ m) → depthL a l ≤ m
  | [], _ => by rw [depthL]; exact Nat.zero_le _
  | x :: r, h => by
    rw [depthL]
    exact Nat.max_le.2 ⟨h x List.mem_cons_self, depthL_le r fun k hk => h k (List.mem_cons_of_mem _ hk)⟩
theorem tok_len : ∀ c : CN, fitsC c = true → depthC c < (tokC c).length := by
  refine cond_ind fun c ih hf => ?_
  rw [fitsC_eq, Bool.and_eq_true] at hf
  have hk : ∀ k ∈ c.f1, depthC k < (tokC k).length := fun k hk => ih k hk (fitsL_all hf.2 k hk)
  rw [depthC_eq]
  rcases one_cases hf.1 with ⟨h4, _, _, _, hl1⟩ | ⟨_, h12, hl⟩ | ⟨_, h3, k, ek⟩
  · rw [hl1, depthL, tokC_test h4, List.length_cons]; omega
  · have hpos : 1 ≤ (tokC c).length := by
      cases hc : c.f1 with
      | nil => rw [hc] at hl; simp at hl
      | cons k r =>
        have hk1 := hk k (by rw [hc]; exact List.mem_cons_self)
        rcases h12 with h1 | h2
        · rw [tokC_and h1]
          have := joinK_len andK factK c.f1 k (by rw [hc]; exact List.mem_cons_self)
          have := fact_len hk1
          omega
        · rw [tokC_or h2]
          have := joinK_len orK partK c.f1 k (by rw [hc]; exact List.mem_cons_self)
          have := part_len hk1
          omega
    have : depthL c.f0 c.f1 ≤ (tokC c).length - 1 := by
      refine depthL_le c.f1 fun k h => ?_
      have hk1 := hk k h
      rcases h12 with h1 | h2
      · have e1 := joinK_len andK factK c.f1 k h
        have e2 := fact_len hk1
        rw [← tokC_and h1] at e1
        unfold dF grpN at e2
        rw [h1, if_neg (by decide)]
        by_cases hg : k.f0 = 1 ∨ k.f0 = 2
        · rw [if_pos hg] at e2
          rw [if_pos ⟨hg, fun q => by omega⟩]; omega
        · rw [if_neg hg] at e2
          rw [if_neg (fun q => hg q.1)]; omega
      · have e1 := joinK_len orK partK c.f1 k h
        have e2 := part_len hk1
        rw [← tokC_or h2] at e1
        unfold dP dF grpN at e2
        rw [h2, if_neg (by decide)]
        by_cases h1 : k.f0 = 1
        · rw [if_pos h1] at e2
          rw [if_neg (fun q => q.2 ⟨rfl, h1⟩)]; omega
        · rw [if_neg h1] at e2
          by_cases hg : k.f0 = 1 ∨ k.f0 = 2
          · rw [if_pos hg] at e2
            rw [if_pos ⟨hg, fun q => h1 q.2⟩]; omega
          · rw [if_neg hg] at e2
            rw [if_neg (fun q => hg q.1)]; omega
    omega
  · have hk1 := fact_len (hk k (by rw [ek]; exact List.mem_cons_self))
    rw [tokC_not h3 ek, List.length_cons]
    have : depthL c.f0 c.f1 ≤ (factK k).length := by
      refine depthL_le c.f1 fun x h => ?_
      rw [ek] at h
      obtain rfl : x = k := by simpa using h
      unfold dF grpN at hk1
      rw [h3, if_pos rfl]
      by_cases hg : x.f0 = 1 ∨ x.f0 = 2
      · rw [if_pos hg] at hk1
        rw [if_pos ⟨hg, fun q => by omega⟩]; omega
      · rw [if_neg hg] at hk1
        rw [if_neg (fun q => hg q.1)]; omega
    omega

end Go.Proofs.YtdfjjimmnbijmaaGreatDoor.ZQ

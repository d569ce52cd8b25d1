import Derived.Test.YtdfjjimmnbijmaaGreatDoorZQn
namespace Go.Proofs.YtdfjjimmnbijmaaGreatDoor.ZQ
open Go.RowKit Go.Proofs.YtdfjjimmnbijmaaGreatDoorW.PrintWords Go.Proofs.YtdfjjimmnbijmaaGreatDoorW.PrintLast Go.Proofs.YtdfjjimmnbijmaaGreatDoorW.PrintMore Go.Proofs.YtdfjjimmnbijmaaGreatDoor.Base
attribute [local go_sem] max2_int min2_int max_two min_two max_three min_three max_four min_four
set_option linter.unusedVariables false
set_option linter.unusedSimpArgs false
/-! ### a number's size, printed -/
theorem runB_all (p : Int → Bool) : ∀ l : List UInt8, runB p l = l.length → ∀ c ∈ l, p c.toNat = true
  | [], _ => fun c hc => by cases hc
  | d :: r, h => by
    rw [runB_cons] at h
    by_cases hp : p d.toNat = true
    · rw [if_pos hp] at h
      intro c hc
      rcases List.mem_cons.1 hc with e | e
      · subst e; exact hp
      · exact runB_all p r (by simp at h; omega) c e
    · rw [if_neg hp] at h; simp at h
theorem dec_pow : ∀ (k u : Nat), u < 10 ^ (k + 1) → (Lib.decDigits u).length ≤ k + 1
  | 0, u, h => by rw [Lib.decDigits, dif_pos (by simpa using h)]; exact Nat.le_refl _
  | k + 1, u, h => by
    rw [Lib.decDigits]
    split
    · simp
    · rw [List.length_append, List.length_singleton]
      have := dec_pow k (u / 10) (by rw [Nat.div_lt_iff_lt_mul (by omega)]; rw [Nat.pow_succ] at h; exact h)
      omega
theorem pum_lt (M : Nat) : ∀ (l : List UInt8) (acc u : Nat), acc ≤ M → Lib.parseUintM M acc l = .ok u → u ≤ M ∧ u < (acc + 1) * 10 ^ l.length
  | [], acc, u, ha, h => by rw [Lib.parseUintM] at h; cases h; exact ⟨ha, by simp⟩
  | c :: r, acc, u, ha, h => by
    rw [Lib.parseUintM] at h
    split at h
    · split at h
      · cases h
      · split at h
        · cases h
        · obtain ⟨h3, h4⟩ := pum_lt M r _ u (by omega) h
          refine ⟨h3, Nat.lt_of_lt_of_le h4 ?_⟩
          rw [List.length_cons, Nat.pow_succ, Nat.mul_comm (10 ^ r.length) 10, ← Nat.mul_assoc]
          exact Nat.mul_le_mul_right _ (by omega)
    · cases h
theorem hexV_lt : ∀ (l : List UInt8) (acc : Nat), (∀ c ∈ l, nP 16 (c.toNat : Int) = true) → hexV acc l < (acc + 1) * 16 ^ l.length
  | [], acc, _ => by rw [hexV]; simp
  | c :: r, acc, h => by
    have hc := h c List.mem_cons_self
    have hd : hexD c.toNat < 16 := by
      unfold nP at hc
      simp only [Bool.or_eq_true, Bool.and_eq_true, decide_eq_true_eq] at hc
      unfold hexD
      split <;> omega
    have ih := hexV_lt r (acc * 16 + hexD c.toNat) (fun x hx => h x (List.mem_cons_of_mem _ hx))
    rw [hexV]
    refine Nat.lt_of_lt_of_le ih ?_
    rw [List.length_cons, Nat.pow_succ, Nat.mul_comm (16 ^ r.length) 16, ← Nat.mul_assoc]
    exact Nat.mul_le_mul_right _ (by omega)
theorem numV_lt {b : Int} {r : ByteArray} {v : Nat} (h : numV b r = some v) : v < 18446744073709551616 ∧ (Lib.decDigits v).length ≤ 2 * r.size := by
  have hl : r.data.toList.length = r.size := (Lib.size_eq r).symm
  unfold numV at h
  split at h
  · cases h
  rename_i h1
  split at h
  · cases h
  split at h
  · cases h
  rename_i h3
  split at h
  · rename_i hb
    have e := Option.some.inj h
    have hrun := runS_B (nP b) r r.size 0 (by omega)
    rw [List.drop_zero] at hrun
    have hle := runB_le (nP b) r.data.toList
    have hall := runB_all (nP b) r.data.toList (by omega)
    rw [hb] at hall
    have hv := hexV_lt r.data.toList 0 hall
    rw [e, hl, Nat.zero_add, Nat.one_mul] at hv
    have h16 : r.size ≤ 16 := by
      rcases Nat.lt_or_ge 16 r.size with q | q
      · exact absurd (Or.inr (Or.inr ⟨hb, q⟩)) h1
      · exact q
    have h0 : r.size ≠ 0 := fun q => h1 (Or.inl q)
    refine ⟨Nat.lt_of_lt_of_le hv (Nat.pow_le_pow_right (by omega) h16), ?_⟩
    have hp : 16 ^ r.size ≤ 10 ^ (2 * r.size) := by
      rw [Nat.pow_mul]
      exact Nat.pow_le_pow_left (by decide) _
    have := dec_pow (2 * r.size - 1) v (by rw [show 2 * r.size - 1 + 1 = 2 * r.size by omega]; omega)
    omega
  · cases hp : Lib.parseUintB 64 r.data.toList with
    | ok u =>
      rw [hp] at h
      have e : u = v := Option.some.inj h
      unfold Lib.parseUintB at hp
      split at hp
      · cases hp
      have h0 : r.size ≠ 0 := fun q => h1 (Or.inl q)
      obtain ⟨q1, q2⟩ := pum_lt _ _ 0 u (Nat.zero_le _) hp
      rw [hl, Nat.zero_add, Nat.one_mul] at q2
      have e64 : (2 : Nat) ^ 64 - 1 = 18446744073709551615 := by decide
      rw [e64] at q1
      refine ⟨by omega, ?_⟩
      have := dec_pow (r.size - 1) v (by rw [show r.size - 1 + 1 = r.size by omega, ← e]; exact q2)
      omega
    | _ => rw [hp] at h; cases h
theorem num_lt {s : ByteArray} {v : Nat} (h : numS s = some v) : v < 18446744073709551616 ∧ (Lib.decDigits v).length ≤ 2 * s.size := by
  unfold numS at h
  obtain ⟨h1, h2⟩ := numV_lt h
  refine ⟨h1, Nat.le_trans h2 ?_⟩
  unfold cutN
  split
  · show 2 * (s.extract 2 s.size).size ≤ _
    rw [ByteArray.size_extract]; omega
  · exact Nat.le_refl _
/-- What a number token is read as: a number of 64 bits, printed in at most twice the room. -/
theorem numR_ok (s : ByteArray) (h0 : 1 ≤ s.size) : 0 ≤ (numR (numS s)).1 ∧ (numR (numS s)).1 < 18446744073709551616 ∧ (numT (numR (numS s)).1).size ≤ 2 * s.size := by
  have hT : ∀ n : Int, (numT n).size = (Lib.decDigits n.toNat).length := fun n => by rw [← numT_bts]; exact Lib.size_eq _
  cases h : numS s with
  | none =>
    refine ⟨by decide, by decide, ?_⟩
    rw [hT]
    have : (Lib.decDigits (numR none).1.toNat).length = 1 := by show (Lib.decDigits 0).length = 1; rw [Lib.decDigits]; rfl
    omega
  | some v =>
    obtain ⟨h1, h2⟩ := num_lt h
    have e : (numR (some v)).1 = (v : Int) := rfl
    rw [e]
    refine ⟨by omega, by omega, ?_⟩
    rw [hT, Int.toNat_natCast]; exact h2
theorem lines_some : ∀ (rs : List RN) (long : Nat) (acc : List ByteArray), (∀ r ∈ rs, (ruleS r).2 = true) → long + sumZ (rs.map (fun r => (ruleS r).1)) ≤ 2000 → linesS long rs acc = some (acc ++ rs.map (fun r => (ruleS r).1))
  | [], long, acc, _, _ => by rw [linesS]; simp
  | r :: t, long, acc, h, hs => by
    rw [List.map_cons, sumZ_cons] at hs
    rw [linesS, if_pos ⟨h r List.mem_cons_self, by omega⟩, lines_some t _ _ (fun q hq => h q (List.mem_cons_of_mem _ hq)) (by omega)]
    simp
theorem source_of {a d : ByteArray} {n : Int} {rs : List RN} (hw : wordS a = true ∧ wordS d = true) (hl : rs.length ≤ 2000) (hr : ∀ r ∈ rs, (ruleS r).2 = true) (hs : rs ≠ [] → sumZ (rs.map (fun r => (ruleS r).1)) ≤ 2000) (ht : (T10 ([headA a, headD d n] ++ rs.map (fun r => (ruleS r).1))).size ≤ 2000) : sourceS a d n rs = (T10 ([headA a, headD d n] ++ rs.map (fun r => (ruleS r).1)), true) := by
  unfold sourceS
  rw [if_pos ⟨hw.1, hw.2, hl⟩, lines_some rs 0 _ hr (by
    cases rs with
    | nil => simp [sumZ_nil]
    | cons r t => have := hs (by simp); omega)]
  show (T10 _, decide ((T10 _).size ≤ 2000)) = _
  rw [decide_eq_true ht]
/-! ### what is parsed can be printed: conditions -/
abbrev Tok := S74
/-- Tokens as the lexer makes them. -/
def Gd (l : List Tok) : Prop := ∀ t ∈ l, (t.f0 ≠ 0 → 1 ≤ t.f1.size) ∧ (t.f0 = 1 → stepB (bts t.f1) = some (t.f1.size, some 1) ∧ t.f1.size ≤ 2000)
def wt : List Tok → Nat
  | [] => 0
  | t :: r => t.f1.size + wt r
theorem Gd.tail {t : Tok} {r : List Tok} (h : Gd (t :: r)) : Gd r := fun x hx => h x (List.mem_cons_of_mem _ hx)
theorem take_inv {k : Int} {xs : List ByteArray} {l l' : List Tok} {x : ByteArray} (hk : k ≠ 0) (h : takeP k xs l = .ok (x, l')) : ∃ t, l = t :: l' ∧ t.f0 = k ∧ t.f1 = x ∧ anyT xs x = true := by
  unfold takeP at h
  split at h
  · rename_i hc
    rw [Bool.and_eq_true, beq_iff_eq] at hc
    cases l with
    | nil => exact absurd hc.1.symm hk
    | cons t r =>
      obtain ⟨rfl, rfl⟩ := Prod.mk.inj (Except.ok.inj h)
      exact ⟨t, rfl, hc.1, rfl, hc.2⟩
  · cases h
theorem word_good {l l' : List Tok} {x : ByteArray} (hg : Gd l) (h : wordP l = .ok (x, l')) : wordS x = true ∧ Gd l' ∧ wt l = x.size + wt l' ∧ 1 ≤ x.size := by
  unfold wordP at h
  split at h
  · cases h
  · rename_i hr
    obtain ⟨t, rfl, h1, rfl, _⟩ := take_inv (by decide) h
    obtain ⟨g1, g2⟩ := hg t List.mem_cons_self
    obtain ⟨g3, g4⟩ := g2 h1
    have g5 := g1 (by rw [h1]; decide)
    refine ⟨?_, hg.tail, rfl, g5⟩
    have hst : stepL t.f1 0 = some (t.f1.size, some 1) := by rw [stepL_B t.f1 0 (by omega), List.drop_zero]; exact g3
    have hr : ¬ resS t.f1 = true := hr
    have hrv : rsvB t.f1 = false := by rw [← res_rsv]; simpa using hr
    rw [word_step, decide_eq_true g4, decide_eq_true (show t.f1.size ≠ 0 by omega), decide_eq_true hst, hrv]; rfl
theorem num_good {l l' : List Tok} {v : Int} (hg : Gd l) (h : numP l = .ok (v, l')) : ∃ m : Nat, 1 ≤ m ∧ wt l = m + wt l' ∧ Gd l' ∧ 0 ≤ v ∧ v < 18446744073709551616 ∧ (numT v).size ≤ 2 * m := by
  obtain ⟨⟨x, l1⟩, h1, h2⟩ := bnd_inv h
  obtain ⟨t, rfl, k1, rfl, _⟩ := take_inv (by decide) h1
  obtain ⟨rfl, rfl⟩ := Prod.mk.inj (Except.ok.inj h2)
  have g5 := (hg t List.mem_cons_self).1 (by rw [k1]; decide)
  obtain ⟨n1, n2, n3⟩ := numR_ok t.f1 g5
  exact ⟨t.f1.size, g5, rfl, hg.tail, n1, n2, n3⟩
theorem isP_good {k : Int} {x : ByteArray} {l : List Tok} (hk : k ≠ 0) (hx : x.toList.isEmpty = false) (h : isP k x l = true) : wt l = x.size + wt l.tail ∧ (Gd l → Gd l.tail) := by
  unfold isP at h
  rw [hx, Bool.false_or, Bool.and_eq_true, beq_iff_eq, beq_iff_eq] at h
  cases l with
  | nil => exact absurd h.1.symm hk
  | cons t r =>
    have e : t.f1 = x := by have := h.2; rw [Lib.toList_data, Lib.toList_data] at this; exact jt_ext this
    exact ⟨by rw [wt, ← e]; rfl, fun g => g.tail⟩
theorem sgn_of {s : ByteArray} (h : anyT signsT s = true) : sgnB s = true := by
  have h2 : Lib.containsS signsT s = true := h
  rw [Lib.containsS_iff] at h2
  simp only [signsT, List.mem_cons, List.not_mem_nil, or_false] at h2
  unfold sgnB
  rw [Lib.toList_data]
  rcases h2 with rfl | rfl | rfl | rfl | rfl | rfl <;> decide
structure Ok (D : Nat) (dm : CN → Nat) (f : CN → ByteArray) (c : CN) (k : Nat) : Prop where
  fits : fitsC c = true
  rng : rngC c = true
  dep : D + dm c ≤ 8
  nod : 3 * nodesC c + 3 ≤ k
  siz : (f c).size ≤ 3 * k
def PQ (p : Part) (D : Nat) (dm : CN → Nat) (f : CN → ByteArray) : Prop := ∀ m c l, Gd m → p m = .ok (c, l) → Gd l ∧ ∃ k, wt m = k + wt l ∧ Ok D dm f c k
theorem fitsL_of : ∀ {l : List CN}, (∀ c ∈ l, fitsC c = true) → fitsL l = true
  | [], _ => by rw [fitsL]
  | c :: r, h => by rw [fitsL, h c List.mem_cons_self, fitsL_of (fun x hx => h x (List.mem_cons_of_mem _ hx))]; rfl
theorem arg_size (n : Int) (h0 : 0 ≤ n) (h1 : n ≤ 5) : (argT n).size = 4 := by rw [argT_cases n h0 h1, mkB_size]; rfl
theorem test_good {D : Nat} (hD : D ≤ 8) : PQ testP D dF factC := by
  intro m c l hg h
  obtain ⟨⟨a, m1⟩, h1, h⟩ := bnd_inv h
  obtain ⟨⟨b, m2⟩, h2, h⟩ := bnd_inv h
  obtain ⟨⟨s, m3⟩, h3, h⟩ := bnd_inv h
  obtain ⟨⟨v, m4⟩, h4, h⟩ := bnd_inv h
  replace h : (Except.ok ((⟨4, [], bt a 3 - 48, b, s, v⟩ : CN), m4) : Except (Int × Int) (CN × List Tok)) = .ok (c, l) := h
  obtain ⟨rfl, rfl⟩ := Prod.mk.inj (Except.ok.inj h)
  replace h2 : maskP m1 = .ok (b, m2) := h2
  replace h3 : takeP 3 signsT m2 = .ok (s, m3) := h3
  replace h4 : numP m3 = .ok (v, m4) := h4
  obtain ⟨t, rfl, k1, rfl, x1⟩ := take_inv (by decide) h1
  obtain ⟨a1, a2, a3⟩ := arg_cases x1
  have g1 := hg.tail
  have hm : ∃ w : Nat, wt m1 = w + wt m2 ∧ Gd m2 ∧ 0 ≤ b ∧ b < 18446744073709551616 ∧ (b = 18446744073709551615 ∨ (numT b).size + 3 ≤ 3 * w) := by
    unfold maskP at h2
    split at h2
    · rename_i hp
      obtain ⟨⟨y, m5⟩, h5, h6⟩ := bnd_inv h2
      replace h6 : numP m5 = .ok (b, m2) := h6
      obtain ⟨t5, rfl, k5, rfl, _⟩ := take_inv (by decide) h5
      have g5 := (g1 t5 List.mem_cons_self).1 (by rw [k5]; decide)
      obtain ⟨w, w1, w2, w3, w4, w5, w6⟩ := num_good g1.tail h6
      exact ⟨t5.f1.size + w, by rw [wt]; omega, w3, w4, w5, Or.inr (by omega)⟩
    · obtain ⟨rfl, rfl⟩ := Prod.mk.inj (Except.ok.inj h2)
      exact ⟨0, by omega, g1, by decide, by decide, Or.inl rfl⟩
  obtain ⟨w, w1, g2, b0, b1, b2⟩ := hm
  obtain ⟨t3, rfl, k3, rfl, x3⟩ := take_inv (by decide) h3
  have g3 := (g2 t3 List.mem_cons_self).1 (by rw [k3]; decide)
  have hs := sgn_of x3
  obtain ⟨w4, q1, q2, q3, q4, q5, q6⟩ := num_good g2.tail h4
  refine ⟨q3, 4 + w + t3.f1.size + w4, ?_, ?_⟩
  · rw [wt, a1, w1, wt, q2]; omega
  · refine ⟨?_, ?_, ?_, ?_, ?_⟩
    · rw [fitsC_eq]
      unfold oneS
      show ((if (4 : Int) = 4 then _ else _) && fitsL []) = true
      rw [if_pos rfl, fitsL]
      simp only [Bool.and_true]
      rw [decide_eq_true (show 0 ≤ bt t.f1 3 - 48 by omega), decide_eq_true (show bt t.f1 3 - 48 < 6 by omega), hs]; rfl
    · rw [rngC_iff]
      exact ⟨⟨by show _ ≤ bt t.f1 3 - 48; omega, by show bt t.f1 3 - 48 ≤ _; omega, b0, b1, q4, q5⟩, by rw [rngL]⟩
    · have e : dF (⟨4, [], bt t.f1 3 - 48, b, t3.f1, v⟩ : CN) = 0 := by unfold dF grpN; rw [depthC_eq, depthL]; rfl
      rw [e]; omega
    · rw [nodesC_eq, nodesL]; omega
    · have e : factC (⟨4, [], bt t.f1 3 - 48, b, t3.f1, v⟩ : CN) = writeC (⟨4, [], bt t.f1 3 - 48, b, t3.f1, v⟩ : CN) := by unfold factC; rw [if_neg (by show ¬ ((4 : Int) = 1 ∨ (4 : Int) = 2); decide)]
      rw [e, writeC_test rfl]
      show (joinT ⟨#[32]⟩ [if b = 18446744073709551615 then argT (bt t.f1 3 - 48) else joinT ⟨#[32, 38, 32]⟩ [argT (bt t.f1 3 - 48), numT b], t3.f1, numT v]).size ≤ _
      rw [joinT_two ⟨#[32]⟩ _ t3.f1, joinT_two ⟨#[32]⟩ t3.f1, joinT_one]
      have e1 : (⟨#[32]⟩ : ByteArray).size = 1 := rfl
      have e3 : (⟨#[32, 38, 32]⟩ : ByteArray).size = 3 := rfl
      have ea := arg_size (bt t.f1 3 - 48) (by omega) (by omega)
      have es := sgnB_size hs
      simp only [sz_app, e1]
      split
      · rw [ea]; omega
      · rename_i hb
        rw [joinT_two, joinT_one, sz_app, sz_app, e3, ea]
        rcases b2 with q | q
        · exact absurd q hb
        · omega
structure LInv (D : Nat) (dm : CN → Nat) (f : CN → ByteArray) (s : Nat) (ys : List CN) (K : Nat) : Prop where
  all : ∀ c ∈ ys, fitsC c = true ∧ rngC c = true ∧ D + dm c ≤ 8
  nod : 3 * nodesL ys + (3 + s) * ys.length ≤ K + s
  siz : sumZ (ys.map f) + 3 * s * ys.length ≤ 3 * K + 3 * s
theorem LInv.snoc {D : Nat} {dm : CN → Nat} {f : CN → ByteArray} {s : Nat} {ys : List CN} {K k : Nat} {c : CN} (h : LInv D dm f s ys K) (hc : Ok D dm f c k) : LInv D dm f s (ys ++ [c]) (K + s + k) := by
  obtain ⟨a, b, d⟩ := h
  obtain ⟨c1, c2, c3, c4, c5⟩ := hc
  refine ⟨fun x hx => ?_, ?_, ?_⟩
  · rcases List.mem_append.1 hx with e | e
    · exact a x e
    · rw [List.mem_singleton.1 e]; exact ⟨c1, c2, c3⟩
  · rw [nodesL_app, nodesL, nodesL, List.length_append, List.length_singleton, Nat.mul_succ]; omega
  · rw [List.map_append, sumZ_app, List.map_singleton, sumZ_cons, sumZ_nil, List.length_append, List.length_singleton, Nat.mul_succ]; omega
theorem more_good {p : Part} {D : Nat} {dm : CN → Nat} {f : CN → ByteArray} (hp : PQ p D dm f) (wd : ByteArray) (hwd : wd.toList.isEmpty = false) : ∀ (n : Nat) (acc : List CN) (m : List Tok) (y : List CN) (l : List Tok) (K : Nat), Gd m → LInv D dm f wd.size acc K → moreP p wd n acc m = .ok (y, l) → Gd l ∧ acc.length ≤ y.length ∧ ∃ K', wt m + K = K' + wt l ∧ LInv D dm f wd.size y K'
  | 0, acc, m, y, l, K, hg, hi, h => by cases h; exact ⟨hg, Nat.le_refl _, K, by omega, hi⟩
  | n + 1, acc, m, y, l, K, hg, hi, h => by
    rw [moreP] at h
    split at h
    · rename_i hc
      obtain ⟨⟨c, m1⟩, h1, h2⟩ := bnd_inv h
      obtain ⟨e1, e2⟩ := isP_good (by decide) hwd hc
      obtain ⟨g1, k, e3, o⟩ := hp _ _ _ (e2 hg) h1
      obtain ⟨g2, hl, K', e4, hi'⟩ := more_good hp wd hwd n (acc ++ [c]) m1 y l (K + wd.size + k) g1 (hi.snoc o) h2
      refine ⟨g2, ?_, K', by omega, hi'⟩
      rw [List.length_append, List.length_singleton] at hl; omega
    · cases h; exact ⟨hg, Nat.le_refl _, K, by omega, hi⟩
theorem list_good {p : Part} {D : Nat} {dm dm' : CN → Nat} {f f' : CN → ByteArray} (hp : PQ p D dm f) (wd : ByteArray) (hwd : wd.toList.isEmpty = false) (kind : Int)
    (one : ∀ c k, Ok D dm f c k → Ok D dm' f' c k) (many : ∀ ys K, 2 ≤ ys.length → LInv D dm f wd.size ys K → Ok D dm' f' ⟨kind, ys, 0, 0, ⟨#[]⟩, 0⟩ K) : PQ (listP p wd kind) D dm' f' := by
  intro m x l hg h
  obtain ⟨⟨c, m1⟩, h1, h⟩ := bnd_inv h
  obtain ⟨⟨y, m2⟩, h2, h⟩ := bnd_inv h
  replace h2 : moreP p wd m.length [c] m1 = .ok (y, m2) := h2
  obtain ⟨g1, k, e1, o⟩ := hp _ _ _ hg h1
  have hi : LInv D dm f wd.size [c] k := by
    obtain ⟨c1, c2, c3, c4, c5⟩ := o
    refine ⟨fun z hz => by rw [List.mem_singleton.1 hz]; exact ⟨c1, c2, c3⟩, ?_, ?_⟩
    · rw [nodesL, nodesL, List.length_singleton, Nat.mul_one]; omega
    · rw [List.map_singleton, sumZ_cons, sumZ_nil, List.length_singleton, Nat.mul_one]; omega
  obtain ⟨g2, hl, K', e2, hi'⟩ := more_good hp wd hwd _ _ _ _ _ k g1 hi h2
  replace h : (Except.ok ((if y.length = 1 then y.headD z28 else ⟨kind, y, 0, 0, ⟨#[]⟩, 0⟩ : CN), m2) : Except (Int × Int) (CN × List Tok)) = .ok (x, l) := h
  obtain ⟨rfl, rfl⟩ := Prod.mk.inj (Except.ok.inj h)
  refine ⟨g2, K', by omega, ?_⟩
  split
  · rename_i hy
    cases y with
    | nil => cases hy
    | cons z r =>
      obtain rfl : r = [] := by simpa using hy
      obtain ⟨a, b, d⟩ := hi'
      obtain ⟨c1, c2, c3⟩ := a z List.mem_cons_self
      rw [nodesL, nodesL, List.length_singleton, Nat.mul_one] at b
      rw [List.map_singleton, sumZ_cons, sumZ_nil, List.length_singleton, Nat.mul_one] at d
      exact one z K' ⟨c1, c2, c3, by omega, by omega⟩
  · rename_i hy
    exact many y K' (by rw [List.length_singleton] at hl; omega) hi'
theorem bare_of (kind : Int) (ys : List CN) : bareS (⟨kind, ys, 0, 0, ⟨#[]⟩, 0⟩ : CN) = true := by
  unfold bareS
  show (decide ((0 : Int) = 0) && (decide ((0 : Int) = 0) && ((⟨#[]⟩ : ByteArray).toList.isEmpty && decide ((0 : Int) = 0)))) = true
  rw [Lib.toList_data]; rfl
theorem fact_le (c : CN) : (writeC c).size ≤ (factC c).size := by
  unfold factC
  split
  · rw [sz_app, sz_app]; omega
  · exact Nat.le_refl _
theorem part_good {n D : Nat} (hp : PQ (factorP n D) D dF factC) : PQ (partP (factorP n D)) D dP orC := by
  refine list_good hp andT and_ne 1 (fun c k o => ?_) (fun ys K hl hi => ?_)
  · obtain ⟨c1, c2, c3, c4, c5⟩ := o
    refine ⟨c1, c2, ?_, c4, ?_⟩
    · have : dP c ≤ dF c := by unfold dP; split; unfold dF; omega; exact Nat.le_refl _
      omega
    · have : (orC c).size ≤ (factC c).size := by unfold orC; split; exact fact_le c; exact Nat.le_refl _
      omega
  · obtain ⟨a, b, d⟩ := hi
    have e3 : andT.size = 3 := rfl
    rw [e3] at b d
    have hf : fitsC (⟨1, ys, 0, 0, ⟨#[]⟩, 0⟩ : CN) = true := by
      rw [fitsC_eq, fitsL_of (fun c hc => (a c hc).1), Bool.and_true]
      unfold oneS
      rw [bare_of]
      show (if (1 : Int) = 4 then _ else _) = true
      rw [if_neg (by decide)]
      simp; omega
    refine ⟨hf, ?_, ?_, ?_, ?_⟩
    · rw [rngC_iff]
      exact ⟨by unfold rngB; simp, rngL_of fun c hc => (a c hc).2.1⟩
    · have e : dP (⟨1, ys, 0, 0, ⟨#[]⟩, 0⟩ : CN) = depthL 1 ys := by unfold dP; rw [if_pos rfl, depthC_eq]
      have hle : depthL 1 ys ≤ 8 - D := depthL_le ys fun k hk => by
        have h1 := (a k hk).2.2
        unfold dF grpN at h1
        rw [if_neg (by decide)]
        by_cases hg : k.f0 = 1 ∨ k.f0 = 2
        · rw [if_pos hg] at h1
          split <;> omega
        · rw [if_neg (fun q => hg q.1)]; omega
      have hD : D ≤ 8 := by
        cases ys with
        | nil => simp at hl
        | cons x r => have := (a x List.mem_cons_self).2.2; omega
      rw [e]; omega
    · rw [nodesC_eq]; show 3 * (1 + nodesL ys) + 3 ≤ K; omega
    · have e : orC (⟨1, ys, 0, 0, ⟨#[]⟩, 0⟩ : CN) = joinT ⟨#[32, 97, 110, 100, 32]⟩ (ys.map factC) := by unfold orC; rw [if_pos rfl, writeC_and rfl]
      have e5 : (⟨#[32, 97, 110, 100, 32]⟩ : ByteArray).size = 5 := rfl
      rw [e]
      cases ys with
      | nil => simp at hl
      | cons x r =>
        rw [List.map_cons, joinT_size, e5, List.length_map]
        rw [List.map_cons, List.length_cons] at d
        omega
theorem cond_good {n D : Nat} (hp : PQ (factorP n D) D dF factC) : PQ (condP (factorP n D)) D depthC writeC := by
  refine list_good (part_good hp) orT or_ne 2 (fun c k o => ?_) (fun ys K hl hi => ?_)
  · obtain ⟨c1, c2, c3, c4, c5⟩ := o
    refine ⟨c1, c2, ?_, c4, ?_⟩
    · have : depthC c ≤ dP c := by unfold dP dF; split <;> omega
      omega
    · have : (writeC c).size ≤ (orC c).size := by unfold orC; split; exact Nat.le_refl _; exact fact_le c
      omega
  · obtain ⟨a, b, d⟩ := hi
    have e3 : orT.size = 2 := rfl
    rw [e3] at b d
    have hf : fitsC (⟨2, ys, 0, 0, ⟨#[]⟩, 0⟩ : CN) = true := by
      rw [fitsC_eq, fitsL_of (fun c hc => (a c hc).1), Bool.and_true]
      unfold oneS
      rw [bare_of]
      show (if (2 : Int) = 4 then _ else _) = true
      rw [if_neg (by decide)]
      simp; omega
    refine ⟨hf, ?_, ?_, ?_, ?_⟩
    · rw [rngC_iff]
      exact ⟨by unfold rngB; simp, rngL_of fun c hc => (a c hc).2.1⟩
    · have e : depthC (⟨2, ys, 0, 0, ⟨#[]⟩, 0⟩ : CN) = depthL 2 ys := by rw [depthC_eq]
      have hle : depthL 2 ys ≤ 8 - D := depthL_le ys fun k hk => by
        have h1 := (a k hk).2.2
        unfold dP dF grpN at h1
        rw [if_neg (by decide)]
        by_cases hk1 : k.f0 = 1
        · rw [if_pos hk1] at h1
          rw [if_neg (fun q => q.2 ⟨rfl, hk1⟩)]; omega
        · rw [if_neg hk1] at h1
          by_cases hg : k.f0 = 1 ∨ k.f0 = 2
          · rw [if_pos hg] at h1
            split <;> omega
          · rw [if_neg (fun q => hg q.1)]; omega
      have hD : D ≤ 8 := by
        cases ys with
        | nil => simp at hl
        | cons x r => have := (a x List.mem_cons_self).2.2; omega
      rw [e]; omega
    · rw [nodesC_eq]; show 3 * (1 + nodesL ys) + 3 ≤ K; omega
    · have e5 : (⟨#[32, 111, 114, 32]⟩ : ByteArray).size = 4 := rfl
      rw [writeC_or rfl]
      cases ys with
      | nil => simp at hl
      | cons x r =>
        show (joinT ⟨#[32, 111, 114, 32]⟩ ((x :: r).map orC)).size ≤ _
        rw [List.map_cons, joinT_size, e5, List.length_map]
        rw [List.map_cons, List.length_cons] at d
        omega
theorem factor_good : ∀ n D, PQ (factorP n D) D dF factC
  | 0, D => fun m c l _ h => by cases h
  | n + 1, D => fun m c l hg h => by
    rw [factorP] at h
    split at h
    · cases h
    rename_i hD
    split at h
    · rename_i hp
      obtain ⟨e1, e2⟩ := isP_good (by decide) (by rw [Lib.toList_data]; rfl) hp
      obtain ⟨⟨c1, m1⟩, h1, h⟩ := bnd_inv h
      replace h : (Except.ok ((⟨3, [c1], 0, 0, ⟨#[]⟩, 0⟩ : CN), m1) : Except (Int × Int) (CN × List Tok)) = .ok (c, l) := h
      obtain ⟨rfl, rfl⟩ := Prod.mk.inj (Except.ok.inj h)
      obtain ⟨g1, k, e3, o1, o2, o3, o4, o5⟩ := factor_good n (D + 1) _ _ _ (e2 hg) h1
      have e4 : notT.size = 3 := rfl
      refine ⟨g1, 3 + k, by omega, ?_⟩
      refine ⟨?_, ?_, ?_, ?_, ?_⟩
      · rw [fitsC_eq, show fitsL [c1] = true from fitsL_of (fun x hx => by rw [List.mem_singleton.1 hx]; exact o1), Bool.and_true]
        unfold oneS
        rw [bare_of]
        show (if (3 : Int) = 4 then _ else _) = true
        rw [if_neg (by decide)]
        simp
      · rw [rngC_iff]
        exact ⟨by unfold rngB; simp, rngL_of fun x hx => by rw [List.mem_singleton.1 hx]; exact o2⟩
      · have e : dF (⟨3, [c1], 0, 0, ⟨#[]⟩, 0⟩ : CN) ≤ dF c1 + 1 := by
          have : depthL 3 [c1] ≤ dF c1 + 1 := depthL_le _ fun x hx => by
            rw [List.mem_singleton.1 hx, if_pos rfl]
            unfold dF grpN
            by_cases hq : c1.f0 = 1 ∨ c1.f0 = 2
            · rw [if_pos hq]; split <;> omega
            · rw [if_neg hq, if_neg (fun q => hq q.1)]; omega
          unfold dF grpN at this ⊢
          rw [depthC_eq, if_neg (by show ¬ ((3 : Int) = 1 ∨ (3 : Int) = 2); decide)]
          exact this
        omega
      · rw [nodesC_eq, nodesL, nodesL]; omega
      · have e : factC (⟨3, [c1], 0, 0, ⟨#[]⟩, 0⟩ : CN) = writeC ⟨3, [c1], 0, 0, ⟨#[]⟩, 0⟩ := by unfold factC; rw [if_neg (by show ¬ ((3 : Int) = 1 ∨ (3 : Int) = 2); decide)]
        have e5 : (⟨#[110, 111, 116]⟩ : ByteArray).size = 3 := rfl
        have e6 : (⟨#[32]⟩ : ByteArray).size = 1 := rfl
        rw [e, writeC_not rfl rfl, joinT_two, joinT_one, sz_app, sz_app, e5, e6]; omega
    split at h
    · rename_i hp
      obtain ⟨e1, e2⟩ := isP_good (by decide) (by rw [Lib.toList_data]; rfl) hp
      obtain ⟨⟨c1, m1⟩, h1, h⟩ := bnd_inv h
      obtain ⟨⟨s, m2⟩, h2, h⟩ := bnd_inv h
      replace h : (Except.ok (c1, m2) : Except (Int × Int) (CN × List Tok)) = .ok (c, l) := h
      replace h2 : takeP 3 [clT] m1 = .ok (s, m2) := h2
      obtain ⟨rfl, rfl⟩ := Prod.mk.inj (Except.ok.inj h)
      obtain ⟨g1, k, e3, o1, o2, o3, o4, o5⟩ := cond_good (factor_good n (D + 1)) _ _ _ (e2 hg) h1
      obtain ⟨t, rfl, k2, rfl, _⟩ := take_inv (by decide) h2
      have g5 := (g1 t List.mem_cons_self).1 (by rw [k2]; decide)
      have e4 : opT.size = 1 := rfl
      rw [wt] at e3
      refine ⟨g1.tail, 1 + k + t.f1.size, by omega, o1, o2, ?_, by omega, ?_⟩
      · have : dF c1 ≤ depthC c1 + 1 := by unfold dF grpN; split <;> omega
        omega
      · have := factC_size c1
        omega
    · exact test_good (by omega) m c l hg h

end Go.Proofs.YtdfjjimmnbijmaaGreatDoor.ZQ

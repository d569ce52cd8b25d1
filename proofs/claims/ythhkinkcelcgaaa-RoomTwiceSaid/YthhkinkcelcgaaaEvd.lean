/- Bytes as a row, as plain laws on lists. -/
import Derived.Test.YthhkinkcelcgaaaEvc
namespace Go.Proofs.Ythhkinkcelcgaaa.Pure
open Go.RowKit Go.Proofs.Ythhkinkcelcgaaa.R Go.Proofs.YthhkinkcelcgaaaW.PrintWords Go.Proofs.YthhkinkcelcgaaaW.PrintLast Go.Proofs.YthhkinkcelcgaaaW.PrintMore
set_option linter.unusedVariables false

def byteAt (s : ByteArray) (j : Nat) : Nat := (bt s (j : Int)).toNat
theorem byteAt_lt (s : ByteArray) (j : Nat) : byteAt s j < 256 := by have := bt_range s (j : Int); unfold byteAt; omega
theorem bt_byteAt (s : ByteArray) (j : Nat) : bt s (j : Int) = (byteAt s j : Int) := by have := bt_range s (j : Int); unfold byteAt; omega
def bitAt (s : ByteArray) (i : Nat) : Bool := decide (byteAt s (i / 8) / 2 ^ (i % 8) % 2 = 1)
def ub (s : ByteArray) (n : Nat) : List Bool := (List.range n).map (bitAt s)
theorem ub_len (s : ByteArray) (n : Nat) : (ub s n).length = n := by simp [ub]
theorem shr_nat (b t : Nat) (ht : t < 8) : shr .u8 (b : Int) (t : Int) = ((b / 2 ^ t : Nat) : Int) := by
  have e : min (t : Int).toNat IntKind.u8.bits = t := by rw [Int.toNat_natCast]; exact Nat.min_eq_left (by simp [IntKind.bits]; omega)
  unfold shr
  rw [e]; simp
theorem and_one (b t : Nat) (hb : b < 256) (ht : t < 8) : (Go.bits .and .u8 (shr .u8 (b : Int) (t : Int)) 1 == 1) = decide (b / 2 ^ t % 2 = 1) := by
  rw [shr_nat b t ht]
  have hd : b / 2 ^ t ≤ b := Nat.div_le_self _ _
  generalize b / 2 ^ t = q at hd ⊢
  have hq : q < 256 := by omega
  have h := Go.bits_mask .u8 8 (by decide) Go.wraps_u8 1 (by decide) (q : Int) (by omega) (by omega)
  have h1 : Go.bits .and .u8 (q : Int) 1 = (q : Int) % 2 := h
  rw [h1, Bool.eq_iff_iff]
  simp only [beq_iff_eq, decide_eq_true_eq]
  omega
theorem ub_set (s : ByteArray) (n i : Nat) (hi : i < n) : (ub s i ++ List.replicate (n - i) false).set i (bitAt s i) = ub s (i + 1) ++ List.replicate (n - (i + 1)) false := by
  rw [List.set_append_right _ _ (by simp [ub]), show n - i = (n - (i + 1)) + 1 by omega]
  simp only [ub_len, Nat.sub_self, List.replicate_succ, List.set_cons_zero]
  simp [ub, List.range_succ]
def unS (s : ByteArray) (n : Int) : List Bool × Int :=
  if n < 0 ∨ n > 8 * (s.size : Int) then ([], 4) else if strOfNums (pk (ub s n.toNat)) = s then (ub s n.toNat, 0) else ([], 4)
theorem str_eq (a b : ByteArray) : a.toList = b.toList ↔ a = b := by
  rw [ByteArray.toList_eq, ByteArray.toList_eq]
  constructor
  · intro h
    cases a; cases b
    simp at h
    rw [h]
  · intro h; rw [h]
theorem unpack_l0 (s : ByteArray) (hs : s.size ≤ 100) (n : Nat) (hn : n ≤ 8 * s.size) : ∀ (d i : Nat), i + d = n →
    Ev (fun k => room_Unpack.l0 k s (ub s i ++ List.replicate (n - i) false) (n : Int) (i : Int)) (if strOfNums (pk (ub s n)) = s then (ub s n, 0) else ([], 4)) := by
  intro d
  induction d with
  | zero =>
    intro i hi
    obtain rfl : i = n := by omega
    apply succ
    have h : ¬ (i : Int) < (i : Int) := by omega
    simp only [room_Unpack.l0, if_neg h]
    rw [Nat.sub_self, List.replicate_zero, List.append_nil]
    refine Ev.bind (pack_ev (ub s i) (by rw [ub_len]; omega)) ?_
    by_cases e : strOfNums (pk (ub s i)) = s
    · simp only [if_pos ((str_eq _ _).2 e), if_pos e]
      exact Ev.now _
    · simp only [if_neg (fun z => e ((str_eq _ _).1 z)), if_neg e]
      exact Ev.now _
  | succ d ih =>
    intro i hi
    apply succ
    have h : (i : Int) < (n : Int) := by omega
    have h1 : 0 ≤ ((i / 8 : Nat) : Int) := by omega
    have h2 : ((i / 8 : Nat) : Int) < (s.size : Int) := by omega
    have h3 : 0 ≤ ((i % 8 : Nat) : Int) := by omega
    have h4 : 0 ≤ (i : Int) := by omega
    have h5 : (i : Int) < ((ub s i ++ List.replicate (n - i) false).length : Int) := by simp [ub]; omega
    have hb : (Go.bits .and .u8 (shr .u8 (bt s ((i / 8 : Nat) : Int)) ((i % 8 : Nat) : Int)) 1 == 1) = bitAt s i := by
      rw [bt_byteAt, and_one _ _ (byteAt_lt s _) (by omega)]; rfl
    simp only [room_Unpack.l0, if_pos h, div8 i (by omega), mod8, if_pos h1, if_pos h2, if_pos h3, if_pos h4, if_pos h5, hb, w1 (show i < 9223372036854775807 by omega)]
    simp only [Int.toNat_natCast]
    rw [ub_set s n i (by omega)]
    exact ih (i + 1) (by omega)
theorem unpack_ev (s : ByteArray) (hs : s.size ≤ 100) (n : Int) : Ev (fun k => room_Unpack.f k s n) (unS s n) := by
  unfold room_Unpack.f
  have hw : wrap64 (8 * (s.size : Int)) = 8 * (s.size : Int) := wr (by omega) (by omega)
  rw [hw]
  by_cases h1 : n < 0
  · simp only [if_pos h1]
    apply succ
    simp only [room_Unpack.j0, if_true]
    exact now (by simp [unS, h1])
  · simp only [if_neg h1]
    apply succ
    by_cases h2 : n > 8 * (s.size : Int)
    · simp only [room_Unpack.j0, decide_eq_true h2, if_true]
      refine now ?_
      rw [unS, if_pos (.inr h2)]
    · obtain ⟨m, rfl⟩ := Int.eq_ofNat_of_zero_le (show 0 ≤ n by omega)
      have h3 : 0 ≤ (m : Int) := by omega
      have h4 : (m : Int).toNat ≤ 281474976710656 := by omega
      simp only [room_Unpack.j0, decide_eq_false h2, if_neg (show ¬ (false = true) by decide), if_pos h3, if_pos h4]
      simp only [Option.bind_some, Int.toNat_natCast, List.length_replicate]
      have := unpack_l0 s hs m (by omega) m 0 (by omega)
      rw [unS, if_neg (by omega), Int.toNat_natCast]
      simpa [ub] using this
/-! the reference's way -/
def bad (s : ByteArray) (n i : Nat) : Bool := decide (n ≤ i) && bitAt s i
def runS (s : ByteArray) (n : Int) : List Bool × Int :=
  if n < 0 ∨ n > 8 * (s.size : Int) ∨ n ≤ 8 * (s.size : Int) - 8 then ([], 4) else if (List.range (8 * s.size)).any (bad s n.toNat) then ([], 4) else (ub s n.toNat, 0)
theorem rbit (b t : Nat) (ht : t < 8) : (Int.tmod (shr .u8 (b : Int) (t : Int)) 2 == 1) = decide (b / 2 ^ t % 2 = 1) := by
  rw [shr_nat b t ht]
  generalize b / 2 ^ t = q
  rw [Int.tmod_eq_emod_of_nonneg (by omega), Bool.eq_iff_iff]
  simp only [beq_iff_eq, decide_eq_true_eq]
  omega
theorem range_drop (m i : Nat) (h : i < m) : (List.range m).drop i = i :: (List.range m).drop (i + 1) := by
  rw [List.drop_eq_getElem_cons (by simpa using h)]; simp
theorem runpack_l0 (s : ByteArray) (hs : s.size ≤ 100) (n : Nat) (hn : n ≤ 8 * s.size) : ∀ (d i : Nat), i + d = 8 * s.size →
    Ev (fun k => doorwardref06_Unpack.l0 k s (n : Int) (ub s (min i n)) (i : Int)) (if ((List.range (8 * s.size)).drop i).any (bad s n) then ([], 4) else (ub s n, 0)) := by
  have hw : wrap64 (8 * (s.size : Int)) = 8 * (s.size : Int) := wr (by omega) (by omega)
  intro d
  induction d with
  | zero =>
    intro i hi
    apply succ
    have h : ¬ (i : Int) < 8 * (s.size : Int) := by omega
    simp only [doorwardref06_Unpack.l0, hw, if_neg h]
    refine now ?_
    rw [List.drop_of_length_le (by simp; omega), Nat.min_eq_right (by omega)]; simp
  | succ d ih =>
    intro i hi
    apply succ
    have h : (i : Int) < 8 * (s.size : Int) := by omega
    have h1 : 0 ≤ ((i / 8 : Nat) : Int) := by omega
    have h2 : ((i / 8 : Nat) : Int) < (s.size : Int) := by omega
    have hu : IntKind.u64.wrap ((i % 8 : Nat) : Int) = ((i % 8 : Nat) : Int) := by simp [IntKind.wrap, IntKind.bits, IntKind.signed]; omega
    have h3 : 0 ≤ ((i % 8 : Nat) : Int) := by omega
    have hb : (Int.tmod (shr .u8 (bt s ((i / 8 : Nat) : Int)) ((i % 8 : Nat) : Int)) 2 == 1) = bitAt s i := by
      rw [bt_byteAt, rbit _ _ (by omega)]; rfl
    have hl : (ub s (min i n)).length < 140737488355328 := by rw [ub_len]; omega
    rw [range_drop _ _ (by omega)]
    simp only [doorwardref06_Unpack.l0, hw, if_pos h, div8 i (by omega), mod8, hu, if_pos h1, if_pos h2, if_pos h3, hb]
    have ih' := ih (i + 1) (by omega)
    by_cases hge : (i : Int) ≥ (n : Int)
    · simp only [if_pos hge]
      apply succ
      have hnlt : ¬ (i : Int) < (n : Int) := by omega
      cases hbit : bitAt s i
      · simp only [doorwardref06_Unpack.j2, if_neg (show ¬ (false = true) by decide), if_neg hnlt, w1 (show i < 9223372036854775807 by omega)]
        have e : bad s n i = false := by simp [bad, hbit]
        rw [List.any_cons, e, Bool.false_or, Nat.min_eq_right (by omega)]
        rwa [Nat.min_eq_right (by omega)] at ih'
      · simp only [doorwardref06_Unpack.j2, if_true]
        have e : bad s n i = true := by simp [bad, hbit]; omega
        exact now (by simp [e])
    · simp only [if_neg hge]
      apply succ
      have hlt : (i : Int) < (n : Int) := by omega
      simp only [doorwardref06_Unpack.j2, if_neg (show ¬ (false = true) by decide), if_pos hlt, if_pos hl, w1 (show i < 9223372036854775807 by omega)]
      have e : bad s n i = false := by simp [bad]; omega
      rw [List.any_cons, e, Bool.false_or, Nat.min_eq_left (by omega)]
      rw [Nat.min_eq_left (by omega)] at ih'
      rw [show ub s i ++ [bitAt s i] = ub s (i + 1) by simp [ub, List.range_succ]]
      exact ih'
theorem runpack_ev (s : ByteArray) (hs : s.size ≤ 100) (n : Int) : Ev (fun k => doorwardref06_Unpack.f k s n) (runS s n) := by
  unfold doorwardref06_Unpack.f
  have hw : wrap64 (8 * (s.size : Int)) = 8 * (s.size : Int) := wr (by omega) (by omega)
  have hw2 : wrap64 (8 * (s.size : Int) - 8) = 8 * (s.size : Int) - 8 := wr (by omega) (by omega)
  rw [hw, hw2]
  by_cases h1 : n < 0
  · simp only [if_pos h1]
    apply succ
    simp only [doorwardref06_Unpack.j0, if_true]
    refine now ?_
    rw [runS, if_pos (.inl h1)]
  · by_cases h2 : n > 8 * (s.size : Int)
    · simp only [if_neg h1, if_pos h2]
      apply succ
      simp only [doorwardref06_Unpack.j0, if_true]
      refine now ?_
      rw [runS, if_pos (.inr (.inl h2))]
    · simp only [if_neg h1, if_neg h2]
      apply succ
      by_cases h3 : n ≤ 8 * (s.size : Int) - 8
      · simp only [doorwardref06_Unpack.j0, decide_eq_true h3, if_true]
        refine now ?_
        rw [runS, if_pos (.inr (.inr h3))]
      · simp only [doorwardref06_Unpack.j0, decide_eq_false h3, if_neg (show ¬ (false = true) by decide)]
        obtain ⟨m, rfl⟩ := Int.eq_ofNat_of_zero_le (show 0 ≤ n by omega)
        have := runpack_l0 s hs m (by omega) (8 * s.size) 0 (by omega)
        rw [runS, if_neg (by omega), Int.toNat_natCast]
        simpa [ub] using this
/-! the two ways agree -/
theorem val_bits (b : Nat) : ∀ m, val ((List.range m).map fun t => decide (b / 2 ^ t % 2 = 1)) = b % 2 ^ m
  | 0 => by simp [val, Nat.mod_one]
  | m + 1 => by
    rw [List.range_succ, List.map_append, List.map_singleton, val_snoc, val_bits b m, List.length_map, List.length_range, Nat.mod_pow_succ]
    by_cases h : b / 2 ^ m % 2 = 1
    · simp [h]
    · have : b / 2 ^ m % 2 = 0 := by omega
      simp [this]
theorem chunk_ub (s : ByteArray) (n j : Nat) (h : 8 * j ≤ n) : chunk (ub s n) j = (List.range (min 8 (n - 8 * j))).map fun t => decide (byteAt s j / 2 ^ t % 2 = 1) := by
  apply List.ext_getElem
  · simp [chunk, ub]
  · intro t h1 h2
    have ht : t < 8 := by simp [chunk, ub] at h1; omega
    simp only [chunk, ub, List.getElem_take, List.getElem_drop, List.getElem_map, List.getElem_range, bitAt]
    rw [show (8 * j + t) / 8 = j by omega, show (8 * j + t) % 8 = t by omega]
theorem byteOf_ub (s : ByteArray) (n j : Nat) (h : 8 * j ≤ n) : byteOf (ub s n) j = byteAt s j % 2 ^ (min 8 (n - 8 * j)) := by
  unfold byteOf
  rw [chunk_ub s n j h, val_bits]
theorem str_pk (s : ByteArray) (l : List Bool) : strOfNums (pk l) = s ↔ (nb l.length = s.size ∧ ∀ j, j < s.size → byteOf l j = byteAt s j) := by
  have hget : ∀ j (h : j < s.size), byteAt s j = (s.data[j]'h).toNat := by
    intro j h
    unfold byteAt bt
    rw [dif_pos (by simpa using h)]
    simp; rfl
  constructor
  · intro h
    have hs : nb l.length = s.size := by rw [← h, strOfNums_size]; simp [pk]
    refine ⟨hs, fun j hj => ?_⟩
    rw [hget j hj]
    have : s.data[j]? = some (UInt8.ofNat (byteOf l j)) := by
      rw [← h]
      simp [strOfNums, pk, hs, hj]
    rw [Array.getElem?_eq_getElem hj] at this
    rw [Option.some.inj this]
    have := byteOf_lt l j
    simp; omega
  · rintro ⟨h1, h2⟩
    cases s with
    | mk d =>
      simp only [strOfNums, ByteArray.mk.injEq]
      apply Array.ext
      · have h1' : nb l.length = d.size := h1
        simpa [pk] using h1'
      · intro j ha hb
        have hj : j < (ByteArray.mk d).size := hb
        have e := h2 j hj
        rw [hget j hj] at e
        have e' : byteOf l j = (d[j]).toNat := e
        simp [pk, e']
theorem mod_keep (b m : Nat) : ∀ k, m ≤ k → (∀ t, m ≤ t → t < k → ¬ b / 2 ^ t % 2 = 1) → b % 2 ^ k = b % 2 ^ m
  | 0, h, _ => by rw [show m = 0 by omega]
  | k + 1, h, hb => by
    by_cases e : m = k + 1
    · rw [e]
    · rw [Nat.mod_pow_succ, mod_keep b m k (by omega) (fun t h1 h2 => hb t h1 (by omega))]
      have := hb k (by omega) (by omega)
      have : b / 2 ^ k % 2 = 0 := by omega
      simp [this]
theorem un_run (s : ByteArray) (n : Int) : unS s n = runS s n := by
  unfold unS runS
  by_cases h1 : n < 0 ∨ n > 8 * (s.size : Int)
  · rw [if_pos h1, if_pos (by omega)]
  · rw [if_neg h1]
    obtain ⟨m, rfl⟩ := Int.eq_ofNat_of_zero_le (show 0 ≤ n by omega)
    simp only [Int.toNat_natCast]
    have hm : m ≤ 8 * s.size := by omega
    by_cases h2 : (m : Int) ≤ 8 * (s.size : Int) - 8
    · have hne : ¬ strOfNums (pk (ub s m)) = s := by
        intro e
        have := ((str_pk s _).1 e).1
        rw [ub_len] at this
        unfold nb at this
        omega
      rw [if_neg hne, if_pos (.inr (.inr h2))]
    · rw [if_neg (show ¬ ((m : Int) < 0 ∨ (m : Int) > 8 * (s.size : Int) ∨ (m : Int) ≤ 8 * (s.size : Int) - 8) by omega)]
      by_cases h3 : (List.range (8 * s.size)).any (bad s m) = true
      · suffices hne : ¬ strOfNums (pk (ub s m)) = s by rw [if_neg hne, if_pos h3]
        intro e
        obtain ⟨i, hi, hb⟩ := List.any_eq_true.1 h3
        have hi' := List.mem_range.1 hi
        simp only [bad, Bool.and_eq_true, decide_eq_true_eq, bitAt] at hb
        have hj : i / 8 < s.size := by omega
        have := ((str_pk s _).1 e).2 (i / 8) hj
        rw [byteOf_ub s m (i / 8) (by omega)] at this
        have hlt : byteAt s (i / 8) < 2 ^ (min 8 (m - 8 * (i / 8))) := by rw [← this]; exact Nat.mod_lt _ (Nat.two_pow_pos _)
        have hle : 2 ^ (min 8 (m - 8 * (i / 8))) ≤ 2 ^ (i % 8) := Nat.pow_le_pow_right (by decide) (by omega)
        have h0 : byteAt s (i / 8) / 2 ^ (i % 8) = 0 := Nat.div_eq_of_lt (Nat.lt_of_lt_of_le hlt hle)
        rw [h0] at hb
        exact absurd hb.2 (by decide)
      · suffices hy : strOfNums (pk (ub s m)) = s by rw [if_pos hy, if_neg h3]
        refine (str_pk s _).2 ⟨by rw [ub_len]; unfold nb; omega, fun j hj => ?_⟩
        rw [byteOf_ub s m j (by omega)]
        have hk := mod_keep (byteAt s j) (min 8 (m - 8 * j)) 8 (by omega) (fun t ht1 ht2 hbit => h3 (List.any_eq_true.2 ⟨8 * j + t, List.mem_range.2 (by omega), by
          simp only [bad, Bool.and_eq_true, decide_eq_true_eq, bitAt]
          rw [show (8 * j + t) / 8 = j by omega, show (8 * j + t) % 8 = t by omega]
          exact ⟨by omega, hbit⟩⟩))
        rw [← hk]
        exact Nat.mod_eq_of_lt (byteAt_lt s j)
/-- What is packed is unpacked again. -/
theorem un_pk (l : List Bool) (hl : l.length ≤ 1000) : unS (strOfNums (pk l)) (l.length : Int) = (l, 0) := by
  have h := (str_pk (strOfNums (pk l)) l).1 rfl
  have hsz : (strOfNums (pk l)).size = nb l.length := h.1.symm
  have hub : ub (strOfNums (pk l)) l.length = l := by
    apply List.ext_getElem
    · simp [ub]
    · intro i h1 h2
      have hj : i / 8 < (strOfNums (pk l)).size := by rw [hsz]; unfold nb; omega
      simp only [ub, List.getElem_map, List.getElem_range, bitAt]
      rw [← h.2 (i / 8) hj]
      unfold byteOf
      have hv := val_bit (chunk l (i / 8)) (i % 8)
      have hc : (chunk l (i / 8)).getD (i % 8) false = l[i] := by
        simp only [chunk, List.getD_eq_getElem?_getD]
        rw [List.getElem?_take, if_pos (by omega), List.getElem?_drop, show 8 * (i / 8) + i % 8 = i by omega, List.getElem?_eq_getElem h2]; rfl
      rw [hc] at hv
      rw [Bool.eq_iff_iff, decide_eq_true_eq]
      exact hv
  unfold unS
  rw [if_neg (by rw [hsz]; unfold nb; omega), Int.toNat_natCast, hub, if_pos rfl]
theorem pk_size (l : List Bool) : (strOfNums (pk l)).size = nb l.length := by rw [strOfNums_size]; simp [pk]
end Go.Proofs.Ythhkinkcelcgaaa.Pure

/- A row as bytes and back, as plain laws on lists. -/
import Derived.Test.YthhkinkcelcgaaaEvb
import Derived.Test.YthhkinkcelcgaaaR7
import Derived.Test.YthhkinkcelcgaaaR8
namespace Go.Proofs.Ythhkinkcelcgaaa.Pure
open Go.RowKit Go.Proofs.Ythhkinkcelcgaaa.R Go.Proofs.YthhkinkcelcgaaaW.PrintWords Go.Proofs.YthhkinkcelcgaaaW.PrintLast Go.Proofs.YthhkinkcelcgaaaW.PrintMore
set_option linter.unusedVariables false

/-- The number of some bits, the least one first. -/
def val : List Bool → Nat
  | [] => 0
  | b :: l => (if b then 1 else 0) + 2 * val l
theorem val_lt : ∀ l : List Bool, val l < 2 ^ l.length
  | [] => by simp [val]
  | b :: l => by
    have := val_lt l
    simp only [val, List.length_cons, Nat.pow_succ]
    cases b <;> simp <;> omega
theorem val_snoc : ∀ (l : List Bool) (b : Bool), val (l ++ [b]) = val l + (if b then 2 ^ l.length else 0)
  | [], b => by simp [val]
  | c :: l, b => by
    have := val_snoc l b
    simp only [List.cons_append, val, this, List.length_cons, Nat.pow_succ]
    cases b <;> simp <;> omega
theorem val_bit : ∀ (l : List Bool) (u : Nat), (val l / 2 ^ u % 2 = 1) ↔ l.getD u false = true
  | [], u => by simp [val]
  | b :: l, 0 => by cases b <;> simp [val] <;> omega
  | b :: l, u + 1 => by
    have := val_bit l u
    rw [Nat.pow_succ, Nat.mul_comm, ← Nat.div_div_eq_div_mul]
    have e : val (b :: l) / 2 = val l := by cases b <;> simp [val] <;> omega
    rw [e, this]; simp
/-- Byte j of a row. -/
def chunk (l : List Bool) (j : Nat) : List Bool := (l.drop (8 * j)).take 8
def byteOf (l : List Bool) (j : Nat) : Nat := val (chunk l j)
theorem chunk_len (l : List Bool) (j : Nat) : (chunk l j).length ≤ 8 := by simp [chunk]; omega
theorem byteOf_lt (l : List Bool) (j : Nat) : byteOf l j < 256 := by
  have h := val_lt (chunk l j)
  have h2 : 2 ^ (chunk l j).length ≤ 2 ^ 8 := Nat.pow_le_pow_right (by decide) (chunk_len l j)
  unfold byteOf
  omega
def nb (n : Nat) : Nat := (n + 7) / 8
/-- The bytes of the first i places, in a row of n bytes. -/
def pkTo (n : Nat) (l : List Bool) (i : Nat) : List Int := (List.range n).map fun j => (byteOf (l.take i) j : Int)
def pk (l : List Bool) : List Int := (List.range (nb l.length)).map fun j => (byteOf l j : Int)
theorem chunk_take_low (l : List Bool) (i j : Nat) (h : 8 * j + 8 ≤ i) : chunk (l.take i) j = chunk (l.take (i + 1)) j := by
  unfold chunk
  rw [List.drop_take, List.drop_take, List.take_take, List.take_take, Nat.min_eq_left (by omega), Nat.min_eq_left (by omega)]
theorem chunk_take_high (l : List Bool) (i j : Nat) (h : i ≤ 8 * j) : chunk (l.take i) j = [] := by
  unfold chunk
  rw [List.drop_of_length_le (by simp; omega)]; rfl
theorem chunk_take_at (l : List Bool) (i j : Nat) (h1 : 8 * j ≤ i) (h2 : i < 8 * j + 8) (hi : i < l.length) :
    chunk (l.take (i + 1)) j = chunk (l.take i) j ++ [l[i]] ∧ (chunk (l.take i) j).length = i - 8 * j := by
  unfold chunk
  have e : l.take (i + 1) = l.take i ++ [l[i]] := List.take_succ_eq_append_getElem hi
  have hl : (l.take i).length = i := by simp; omega
  have hd : ((l.take i).drop (8 * j)).length = i - 8 * j := by simp; omega
  have a1 : (l.take (i + 1)).drop (8 * j) = (l.take i).drop (8 * j) ++ [l[i]] := by rw [e, List.drop_append_of_le_length (by omega)]
  have a2 : ((l.take i).drop (8 * j)).take 8 = (l.take i).drop (8 * j) := List.take_of_length_le (by omega)
  have a3 : ((l.take i).drop (8 * j) ++ [l[i]]).take 8 = (l.take i).drop (8 * j) ++ [l[i]] := List.take_of_length_le (by rw [List.length_append, hd, List.length_singleton]; omega)
  rw [a1, a2, a3]
  exact ⟨rfl, hd⟩
theorem byte_step (l : List Bool) (i j : Nat) (hi : i < l.length) :
    byteOf (l.take (i + 1)) j = byteOf (l.take i) j + (if l[i] = true ∧ i / 8 = j then 2 ^ (i % 8) else 0) := by
  unfold byteOf
  by_cases h1 : 8 * j + 8 ≤ i
  · rw [← chunk_take_low l i j h1, if_neg (by omega)]; rfl
  · by_cases h2 : i < 8 * j
    · rw [chunk_take_high l i j (by omega), chunk_take_high l (i + 1) j (by omega), if_neg (by omega)]; rfl
    · obtain ⟨e1, e2⟩ := chunk_take_at l i j (by omega) (by omega) hi
      rw [e1, val_snoc, e2, show i - 8 * j = i % 8 by omega]
      have : i / 8 = j := by omega
      cases hb : l[i] <;> simp [this]
theorem byte_room (l : List Bool) (i : Nat) (hi : i < l.length) : byteOf (l.take i) (i / 8) < 2 ^ (i % 8) := by
  obtain ⟨_, e2⟩ := chunk_take_at l i (i / 8) (by omega) (by omega) hi
  have := val_lt (chunk (l.take i) (i / 8))
  rw [e2, show i - 8 * (i / 8) = i % 8 by omega] at this
  exact this
theorem pkTo_len (n : Nat) (l : List Bool) (i : Nat) : (pkTo n l i).length = n := by simp [pkTo]
theorem pkTo_get (n : Nat) (l : List Bool) (i j : Nat) (h : j < n) : (pkTo n l i).getD j 0 = (byteOf (l.take i) j : Int) := by simp [pkTo, List.getD_eq_getElem?_getD, h]
theorem pkTo_zero (n : Nat) (l : List Bool) : pkTo n l 0 = List.replicate n 0 := by
  apply List.ext_getElem
  · simp [pkTo]
  · intro j h1 h2; simp [pkTo, byteOf, chunk, val]
theorem pkTo_false (n : Nat) (l : List Bool) (i : Nat) (hi : i < l.length) (hb : l[i] = false) : pkTo n l (i + 1) = pkTo n l i := by
  unfold pkTo
  apply List.map_congr_left
  intro j _
  rw [byte_step l i j hi, hb]; simp
theorem pkTo_true (n : Nat) (l : List Bool) (i : Nat) (hi : i < l.length) (hb : l[i] = true) (hn : i / 8 < n) :
    (pkTo n l i).set (i / 8) (((byteOf (l.take i) (i / 8) : Nat) : Int) + ((2 ^ (i % 8) : Nat) : Int)) = pkTo n l (i + 1) := by
  apply List.ext_getElem
  · simp [pkTo]
  · intro j h1 h2
    have hj : j < n := by simpa [pkTo] using h2
    rw [List.getElem_set]
    simp only [pkTo, List.getElem_map, List.getElem_range]
    rw [byte_step l i j hi, hb]
    by_cases e : i / 8 = j
    · subst e; simp
    · simp [e]
theorem or_add (x y : Int) (t : Nat) (ht : t < 8) (h0 : 0 ≤ y) (h1 : y < 2 ^ t) : Go.bits .or .u8 y (2 ^ t) = y + 2 ^ t := by
  have hc : ∀ a b : Int, Go.bits .or .u8 a b = Go.bits .or .u8 b a := by
    intro a b; simp only [Go.bits, BitVec.or_comm]
  rw [hc, Go.bits_join .u8 8 (by decide) Go.wraps_u8 t (2 ^ t) y (by have : (0 : Int) < 2 ^ t := Int.pow_pos (by decide); omega) (Int.emod_self) ?_ h0 h1 ?_]
  · omega
  · have : (2 : Nat) ^ t < 2 ^ 8 := Nat.pow_lt_pow_right (by decide) ht
    exact_mod_cast this
  · have : (2 : Nat) ^ t < 2 ^ 8 := Nat.pow_lt_pow_right (by decide) ht
    have h2 : (2 : Int) ^ t < 2 ^ 8 := by exact_mod_cast this
    omega
theorem shl_one (t : Nat) (ht : t < 8) : shl .u8 1 (t : Int) = 2 ^ t := by
  match t, ht with
  | 0, _ => rfl
  | 1, _ => rfl
  | 2, _ => rfl
  | 3, _ => rfl
  | 4, _ => rfl
  | 5, _ => rfl
  | 6, _ => rfl
  | 7, _ => rfl
theorem div8 (i : Nat) (h : i < 1000000) : wrap64 (Int.tdiv (i : Int) 8) = ((i / 8 : Nat) : Int) := by
  rw [Int.tdiv_eq_ediv_of_nonneg (by omega)]; unfold wrap64; omega
theorem mod8 (i : Nat) : Int.tmod (i : Int) 8 = ((i % 8 : Nat) : Int) := by
  rw [Int.tmod_eq_emod_of_nonneg (by omega)]; omega
theorem pack_l0 (l : List Bool) (hl : l.length ≤ 1000) : ∀ (d i : Nat), i + d = l.length →
    Ev (fun k => room_Pack.l0 k (pkTo (nb l.length) l i) l (l.length : Int) (i : Int)) (strOfNums (pk l)) := by
  intro d
  induction d with
  | zero =>
    intro i hi
    apply succ
    have h : ¬ (i : Int) < (l.length : Int) := by omega
    simp only [room_Pack.l0, if_neg h]
    refine now ?_
    unfold pkTo pk
    rw [List.take_of_length_le (by omega)]
  | succ d ih =>
    intro i hi
    apply succ
    have h : (i : Int) < (l.length : Int) := by omega
    have h0 : 0 ≤ (i : Int) := by omega
    have hin : i < l.length := by omega
    have hnb : i / 8 < nb l.length := by unfold nb; omega
    have h1 : 0 ≤ ((i / 8 : Nat) : Int) := by omega
    have h2 : ((i / 8 : Nat) : Int) < ((pkTo (nb l.length) l i).length : Int) := by rw [pkTo_len]; omega
    have h3 : 0 ≤ ((i % 8 : Nat) : Int) := by omega
    have hv : Go.bits .or .u8 (rd (pkTo (nb l.length) l i) ((i / 8 : Nat) : Int)) (shl .u8 1 ((i % 8 : Nat) : Int)) = ((byteOf (l.take i) (i / 8) : Nat) : Int) + ((2 ^ (i % 8) : Nat) : Int) := by
      unfold rd
      rw [Int.toNat_natCast, pkTo_get _ _ _ _ hnb, shl_one (i % 8) (by omega), or_add 0 _ (i % 8) (by omega) (by omega) (by have := byte_room l i hin; exact_mod_cast this)]
      simp
    simp only [room_Pack.l0, if_pos h, if_pos h0, rdo, getD_of hin, w1 (show i < 9223372036854775807 by omega), div8 i (by omega), mod8, if_pos h1, if_pos h2, if_pos h3, hv]
    cases hb : l[i]
    · simp only [if_neg (show ¬ (false = true) by decide)]
      have := ih (i + 1) (by omega)
      rwa [pkTo_false _ l i hin hb] at this
    · simp only [if_true]
      simp only [Int.toNat_natCast]
      rw [pkTo_true _ l i hin hb hnb]
      exact ih (i + 1) (by omega)
theorem pack_ev (l : List Bool) (hl : l.length ≤ 1000) : Ev (fun k => room_Pack.f k l) (strOfNums (pk l)) := by
  unfold room_Pack.f
  have e : wrap64 (Int.tdiv (wrap64 ((wrap64 ((l.length : Int) + 8)) - 1)) 8) = ((nb l.length : Nat) : Int) := by
    have e1 : wrap64 ((l.length : Int) + 8) = (l.length : Int) + 8 := wr (by omega) (by omega)
    have e2 : wrap64 ((l.length : Int) + 8 - 1) = ((l.length + 7 : Nat) : Int) := by unfold wrap64; omega
    rw [e1, e2, div8 _ (by omega)]
    rfl
  rw [e]
  have h0 : 0 ≤ ((nb l.length : Nat) : Int) := by omega
  have h1 : ((nb l.length : Nat) : Int).toNat ≤ 281474976710656 := by unfold nb; omega
  simp only [if_pos h0, if_pos h1]
  simp only [Int.toNat_natCast]
  have := pack_l0 l hl l.length 0 (by omega)
  rw [pkTo_zero] at this
  exact this
/-! the reference's way -/
theorem pk_take (l : List Bool) (j : Nat) (h : 8 * j < l.length) : (List.range (j + 1)).map (fun j => (byteOf l j : Int)) = (List.range j).map (fun j => (byteOf l j : Int)) ++ [(byteOf l j : Int)] := by
  rw [List.range_succ, List.map_append]; rfl
theorem rpack_l1 (l : List Bool) (hl : l.length ≤ 1000) (out : List Int) (ho : out.length < 1000) (j : Nat) (hj : 8 * j < l.length) (r : ByteArray)
    (hr : Ev (fun k => doorwardref06_Pack.l0 k l (out ++ [(byteOf l j : Int)]) ((8 * (j + 1) : Nat) : Int)) r) :
    ∀ (d t : Nat), t + d = 8 → 8 * j + t ≤ l.length → Ev (fun k => doorwardref06_Pack.l1 k l out ((8 * j : Nat) : Int) ((val ((chunk l j).take t) : Nat) : Int) ((2 ^ t : Nat) : Int) ((8 * j + t : Nat) : Int)) r := by
  have hfin : ∀ (t : Nat), (chunk l j).length ≤ t → t ≤ 8 → Ev (fun k => doorwardref06_Pack.j2 k l out ((8 * j : Nat) : Int) ((val ((chunk l j).take t) : Nat) : Int) ((2 ^ t : Nat) : Int) ((8 * j + t : Nat) : Int) false) r := by
    intro t ht ht8
    apply succ
    have h2 : out.length < 140737488355328 := by omega
    have hv : ((val ((chunk l j).take t) : Nat) : Int) % 256 = (byteOf l j : Int) := by
      rw [List.take_of_length_le ht]
      have := byteOf_lt l j
      unfold byteOf at this ⊢
      omega
    have hw : wrap64 (((8 * j : Nat) : Int) + 8) = ((8 * (j + 1) : Nat) : Int) := by unfold wrap64; omega
    simp only [doorwardref06_Pack.j2, if_neg (show ¬ (false = true) by decide), if_pos h2, hv, hw]
    exact hr
  intro d
  induction d with
  | zero =>
    intro t ht htl
    obtain rfl : t = 8 := by omega
    apply succ
    have h : ¬ ((8 * j + 8 : Nat) : Int) < wrap64 (((8 * j : Nat) : Int) + 8) := by unfold wrap64; omega
    simp only [doorwardref06_Pack.l1, if_neg h]
    exact hfin 8 (chunk_len l j) (by omega)
  | succ d ih =>
    intro t ht htl
    apply succ
    have h : ((8 * j + t : Nat) : Int) < wrap64 (((8 * j : Nat) : Int) + 8) := by unfold wrap64; omega
    simp only [doorwardref06_Pack.l1, if_pos h]
    by_cases hlt : 8 * j + t < l.length
    · have hlt' : ((8 * j + t : Nat) : Int) < (l.length : Int) := by omega
      simp only [decide_eq_true hlt']
      apply succ
      have ih' := ih (t + 1) (by omega) (by omega)
      have h0 : 0 ≤ ((8 * j + t : Nat) : Int) := by omega
      have hct : t < (chunk l j).length := by simp [chunk]; omega
      have hcg : (chunk l j)[t] = l[8 * j + t] := by simp [chunk]
      have hs : (chunk l j).take (t + 1) = (chunk l j).take t ++ [l[8 * j + t]] := by rw [List.take_succ_eq_append_getElem hct, hcg]
      have hlen : ((chunk l j).take t).length = t := by simp; omega
      have hp8 : 2 ^ t ≤ 128 := (Nat.pow_le_pow_right (by decide) (show t ≤ 7 by omega) : 2 ^ t ≤ 2 ^ 7)
      have hvl : val ((chunk l j).take t) < 2 ^ t := by have := val_lt ((chunk l j).take t); rwa [hlen] at this
      have hp : wrap64 (2 * ((2 ^ t : Nat) : Int)) = ((2 ^ (t + 1) : Nat) : Int) := by
        rw [Nat.pow_succ]; clear hvl; generalize 2 ^ t = p at hp8 ⊢; unfold wrap64; omega
      have hk : wrap64 (((8 * j + t : Nat) : Int) + 1) = ((8 * j + (t + 1) : Nat) : Int) := by unfold wrap64; omega
      have ha : wrap64 (((val ((chunk l j).take t) : Nat) : Int) + ((2 ^ t : Nat) : Int)) = ((val ((chunk l j).take t) + 2 ^ t : Nat) : Int) := by
        clear hp; generalize 2 ^ t = p at hp8 hvl ⊢; generalize val ((chunk l j).take t) = v at hvl ⊢; unfold wrap64; omega
      simp only [doorwardref06_Pack.j2, if_true, if_pos h0, if_pos hlt', rdo, getD_of hlt, hp, hk, ha]
      have := ih'
      rw [hs, val_snoc, hlen] at this
      cases hb : l[8 * j + t]
      · rw [hb] at this
        simpa using this
      · rw [hb] at this
        simpa using this
    · have hlt' : ¬ ((8 * j + t : Nat) : Int) < (l.length : Int) := by omega
      simp only [decide_eq_false hlt']
      refine hfin t ?_ (by omega)
      simp [chunk]; omega
theorem rpack_l0 (l : List Bool) (hl : l.length ≤ 1000) : ∀ (d j : Nat), j + d = nb l.length →
    Ev (fun k => doorwardref06_Pack.l0 k l ((List.range j).map fun j => (byteOf l j : Int)) ((8 * j : Nat) : Int)) (strOfNums (pk l)) := by
  intro d
  induction d with
  | zero =>
    intro j hj
    apply succ
    have h : ¬ ((8 * j : Nat) : Int) < (l.length : Int) := by unfold nb at hj; omega
    simp only [doorwardref06_Pack.l0, if_neg h]
    refine now ?_
    rw [show j = nb l.length by omega]; rfl
  | succ d ih =>
    intro j hj
    apply succ
    have hlt : 8 * j < l.length := by unfold nb at hj; omega
    have h : ((8 * j : Nat) : Int) < (l.length : Int) := by omega
    simp only [doorwardref06_Pack.l0, if_pos h]
    have h1 := ih (j + 1) (by omega)
    rw [pk_take l j hlt] at h1
    have := rpack_l1 l hl _ (by simp; unfold nb at hj; omega) j hlt _ h1 8 0 (by omega) (by omega)
    simpa [val] using this
theorem rpack_ev (l : List Bool) (hl : l.length ≤ 1000) : Ev (fun k => doorwardref06_Pack.f k l) (strOfNums (pk l)) := by
  unfold doorwardref06_Pack.f
  have := rpack_l0 l hl (nb l.length) 0 (by omega)
  simpa using this
end Go.Proofs.Ythhkinkcelcgaaa.Pure

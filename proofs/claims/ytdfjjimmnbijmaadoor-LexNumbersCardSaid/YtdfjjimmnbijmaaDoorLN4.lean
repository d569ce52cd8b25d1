-- Written for this claim by myprint.py over the kit's print (functions of this session supplied)
import Derived.Test.YtdfjjimmnbijmaaDoorLN0
import Derived.Test.YtdfjjimmnbijmaaDoorLN2
import Derived.Test.YtdfjjimmnbijmaaDoorLN3
namespace Go.Proofs.YtdfjjimmnbijmaaDoor.LN
open Go.RowKit Go.Proofs.YtdfjjimmnbijmaaDoorW.PrintWords Go.Proofs.YtdfjjimmnbijmaaDoorW.PrintLast Go.Proofs.YtdfjjimmnbijmaaDoorW.PrintMore Go.Proofs.YtdfjjimmnbijmaaDoor.Base
attribute [local go_sem] max2_int min2_int max_two min_two max_three min_three max_four min_four   -- for this text's walks alone
set_option linter.unusedVariables false
set_option linter.unusedSimpArgs false

/-! ### strconv_FormatUint: function 21 -/
theorem tab_alloc {w : World} {o : Obj} (h : LaidAt w) : Lib.TabIs Tryd.prog (w.alloc o) "internal/strconv.uint64pow10" .u64 Lib.pow10Tab := by
  obtain ⟨g, h1, h2, h3⟩ := (LaidAt.alloc (o := o) h).pow
  exact h3
set_option maxHeartbeats 6400000 in
set_option maxRecDepth 100000 in
open Go.Sort Go.Lib in
theorem fu10_any (u : Nat) (hu64 : u < 18446744073709551616) (w : World) (hLd : LaidAt w) :
    Calls Tryd.prog 47 #[.int .u64 u, .int .i64 10] w fun e w' => e = .returned (.string ⟨(Lib.decDigits u).toArray⟩) ∧ Below w.heap.size w w' := by
  by_cases hs : u < 100
  · have c0 : decide ((u : Int) < 100) = true := decide_eq_true (by omega)
    have cw : IntKind.i64.wrap (u : Int) = (u : Int) := by rw [IntKind.wrap_i64]; omega
    clear hLd
    go_enter Tryd.func47, Tryd.ntmps47
    go_wp2_with (go_at_call 71; (try rw [cw]); refine (Tryd.internal_strconv_small u hs _).mono ?_; rintro e w' ⟨rfl, rfl⟩)
    go_ret
    exact ⟨rfl, Below.refl _ _⟩
  · have hu1 : 1 ≤ u := by omega
    have c0 : decide ((u : Int) < 100) = false := decide_eq_false (by omega)
    have hnd20 : Lib.nDigits u ≤ 20 := by have := Lib.numDigits_eq u hu1 hu64; split at this <;> omega
    have hal : Tryd.prog.arrayLen 102 = 24 := by kernel_rfl
    have hsl : ∀ W, (Instr.sliceAt 102 (.pointer (some ⟨w.heap.size, 0, none⟩)) none (some (.int .i64 (Lib.nDigits u : Int))) none).run Tryd.prog W = .ok (.slice (some ⟨w.heap.size, 0, none⟩) (Lib.nDigits u) 24) W := fun W => by
      rw [run_sliceAt_array_h W 102 ⟨w.heap.size, 0, none⟩ (by kernel_rfl) .i64 (Lib.nDigits u : Int) (by omega) (by rw [hal]; omega)]
      rw [hal]
      go_simp
    have hH0 := Lib.holds_zero0 w 102 (Lib.nDigits u) (by omega)
    have hfmt := Tryd.internal_strconv_formatBase10 w.heap.size 0 24 u (Array.replicate (Lib.nDigits u) 0) (w.alloc (.cells Lib.zeros24 102)) hH0 (by rw [Array.size_replicate]; exact Lib.lt_pow_nDigits u) hu64 (by rw [Array.size_replicate]; omega)
    rw [Array.size_replicate] at hfmt
    have HH0 := Lib.hid hH0
    have htab := tab_alloc (o := .cells Lib.zeros24 102) hLd
    clear hH0 hal hLd
    go_enter Tryd.func47, Tryd.ntmps47
    go_wp2_with (first
      | (go_at_call 72; refine (Tryd.internal_strconv_numDigits u hu1 hu64 _ htab).mono ?_; rintro e w' ⟨rfl, rfl⟩))
    go_at_call 73
    refine hfmt.mono ?_
    rintro e w' ⟨rfl, k, v', dk, rfl, hF⟩
    have hcv : (convert 88 9 (.slice (some ⟨w.heap.size, 0, none⟩) (Lib.nDigits u) 24)).run Tryd.prog ((putRow (fun (b : UInt8) => Value.int .u8 (b.toNat : Int)) (w.alloc (.cells Lib.zeros24 102)) w.heap.size 0 dk).drewN k) = .ok (.string ⟨(Lib.decDigits u).toArray⟩) ((putRow (fun (b : UInt8) => Value.int .u8 (b.toNat : Int)) (w.alloc (.cells Lib.zeros24 102)) w.heap.size 0 dk).drewN k) := by
      have h := run_convert_bytes_back (P := Tryd.prog) ((putRow (fun (b : UInt8) => Value.int .u8 (b.toNat : Int)) (w.alloc (.cells Lib.zeros24 102)) w.heap.size 0 dk).drewN k) 88 9 5 ⟨w.heap.size, 0, none⟩ 24 (Lib.decDigits u) Tryd.underlying88 Tryd.underlying5 Tryd.underlying9 (fun j hj => by
        rw [Lib.row_is_numeral hF j hj, Lib.add_plain, World.cell?_drewN]
        exact cell?_putRow (fun (b : UInt8) => Value.int .u8 (b.toNat : Int)) _ w.heap.size 0 _ dk HH0.out (by rw [hF.size, Array.size_replicate]) j (by rw [hF.size]; rw [Lib.decDigits_length] at hj; exact hj))
      rw [Lib.decDigits_length] at h
      exact h
    obtain ⟨os, eo⟩ := Lib.fin_at w (.cells Lib.zeros24 102) dk k 0
    have hnx2 : Below w.heap.size w ((putRow (fun (b : UInt8) => Value.int .u8 (b.toNat : Int)) (w.alloc (.cells Lib.zeros24 102)) w.heap.size 0 dk).drewN k) := by rw [eo]; exact Lib.below_grow w.heap.size w (Nat.le_refl _) k os
    generalize (putRow (fun (b : UInt8) => Value.int .u8 (b.toNat : Int)) (w.alloc (.cells Lib.zeros24 102)) w.heap.size 0 dk).drewN k = W2 at hcv hnx2 ⊢
    clear eo HH0 hfmt hF
    go_wp2
    go_ret
    exact ⟨rfl, hnx2⟩
def hxH (d : Nat) : UInt8 := if d < 10 then UInt8.ofNat (48 + d) else UInt8.ofNat (87 + d)
def hexH (u : Nat) : List UInt8 := if h : u < 16 then [hxH u] else hexH (u / 16) ++ [hxH (u % 16)]
  termination_by u
  decreasing_by omega
def mkH (l : List UInt8) : ByteArray := ⟨l.toArray⟩
set_option maxHeartbeats 3200000 in
set_option maxRecDepth 100000 in
theorem pow2_16 (w : World) : Calls Tryd.prog 111 #[.int .i64 16] w fun e w' => e = .returned (.bool true) ∧ w' = w := by
  have hb : bits .and .i64 16 15 = 0 := by decide
  go_enter Tryd.func111, Tryd.ntmps111
  go_wp2
  go_ret
  exact ⟨rfl, rfl⟩
set_option maxHeartbeats 3200000 in
set_option maxRecDepth 100000 in
theorem tz64_16 (w : World) (hLd : LaidAt w) : Calls Tryd.prog 135 #[.int .u64 16] w fun e w' => e = .returned (.int .i64 4) ∧ w' = w := by
  obtain ⟨g, hg, _, htab⟩ := hLd.db
  obtain rfl : g = 8 := Option.some.inj (hg.symm.trans (by kernel_rfl))
  have hcell : w.cell? ⟨8, 15, none⟩ = some (.int .u8 4) := by
    rw [htab.cell hg 15 (by decide)]; rfl
  have hb : bits .and .u64 16 18446744073709551600 = 16 := by decide
  have hn : IntKind.u64.wrap (-16) = 18446744073709551600 := by rw [IntKind.wrap_u64]; decide
  have hm : IntKind.u64.wrap 4573923408821661840 = 4573923408821661840 := by rw [IntKind.wrap_u64]; decide
  clear htab hg hLd
  go_enter Tryd.func135, Tryd.ntmps135
  go_wp2
  go_ret
  exact ⟨rfl, rfl⟩
set_option maxHeartbeats 3200000 in
set_option maxRecDepth 100000 in
theorem tz_16 (w : World) (hLd : LaidAt w) : Calls Tryd.prog 112 #[.int .u64 16] w fun e w' => e = .returned (.int .i64 4) ∧ w' = w := by
  go_enter Tryd.func112, Tryd.ntmps112
  go_wp2_with (go_at_call 135; refine (tz64_16 _ hLd).mono ?_; rintro e w' ⟨rfl, rfl⟩)
  go_ret
  exact ⟨rfl, rfl⟩
theorem and15 (u : Nat) (h : u < 18446744073709551616) : bits .and .u64 (u : Int) 15 = (u : Int) % 16 := by
  have h := bits_and_u64_nat u 15 h (by omega)
  have e : u &&& 15 = u % 16 := Nat.and_two_pow_sub_one_eq_mod u 4
  rw [e, Int.natCast_emod] at h
  exact h
theorem hx_dig : ∀ d : Fin 16, (⟨#[48, 49, 50, 51, 52, 53, 54, 55, 56, 57, 97, 98, 99, 100, 101, 102, 103, 104, 105, 106, 107, 108, 109, 110, 111, 112, 113, 114, 115, 116, 117, 118, 119, 120, 121, 122]⟩ : ByteArray)[d.val]'(Nat.lt_of_lt_of_le d.isLt (by decide)) = hxH d.val := by decide
/-- The row's cells from a place on are a text. -/
def SufH (w : World) (b : Nat) (l : List UInt8) : Prop := ∃ cs : Array Value, w.heap[b]? = some (.cells cs 137 (0, 0)) ∧ cs.size = 65 ∧ l.length ≤ 65 ∧ ∀ (j : Nat) (c : UInt8), l[j]? = some c → cs[65 - l.length + j]? = some (.int .u8 c.toNat)
theorem sufH_start (w : World) : SufH (w.alloc (.cells Tryd.zeroCells137 137)) w.heap.size [] :=
  ⟨_, heap_alloc_new w _, by kernel_rfl, by simp, fun j c h => by simp at h⟩
theorem sufH_cell {w : World} {b : Nat} {l : List UInt8} (h : SufH w b l) (i : Nat) (hi : i < 65) : ∃ v, w.cell? ⟨b, i, none⟩ = some v := by
  obtain ⟨cs, h1, h2, h3, h4⟩ := h
  exact ⟨cs[i]'(by omega), by rw [blk_cell h1 i]; exact Array.getElem?_eq_getElem _⟩
theorem sufH_frozen {w : World} {b : Nat} {l : List UInt8} (h : SufH w b l) (i : Nat) : w.frozen? ⟨b, i, none⟩ = false := by
  obtain ⟨cs, h1, _⟩ := h
  exact blk_frozen h1 i
theorem sufH_put {w : World} {b : Nat} {l : List UInt8} (h : SufH w b l) (c : UInt8) (hl : l.length < 65) : SufH (w.setCell ⟨b, 64 - l.length, none⟩ (.int .u8 c.toNat)) b (c :: l) := by
  obtain ⟨cs, h1, h2, h3, h4⟩ := h
  refine ⟨cs.set! (64 - l.length) (.int .u8 c.toNat), heap_setCell_same _ _ _ _ _ _ h1, by simp [h2], by simp only [List.length_cons]; omega, ?_⟩
  intro j d hj
  have e : 65 - (c :: l).length = 64 - l.length := by simp only [List.length_cons]; omega
  rw [e]
  cases j with
  | zero =>
    simp only [List.getElem?_cons_zero, Option.some.injEq] at hj
    subst hj
    simp only [Array.set!_eq_setIfInBounds, Nat.add_zero]
    rw [Array.getElem?_setIfInBounds_self_of_lt (by omega)]
  | succ j =>
    simp only [List.getElem?_cons_succ] at hj
    have h5 := h4 j d hj
    rw [show 65 - l.length + j = 64 - l.length + (j + 1) by omega] at h5
    simp only [Array.set!_eq_setIfInBounds]
    rw [Array.getElem?_setIfInBounds_ne (by omega)]
    exact h5
theorem hexH_len : ∀ (k u : Nat), u < 16 ^ (k + 1) → (hexH u).length ≤ k + 1
  | 0, u, h => by
    rw [hexH, dif_pos (by simpa using h)]; simp
  | k + 1, u, h => by
    by_cases h1 : u < 16
    · rw [hexH, dif_pos h1]; simp
    · rw [hexH, dif_neg h1]
      have := hexH_len k (u / 16) (by rw [Nat.pow_succ] at h; omega)
      simp; omega
set_option maxHeartbeats 6400000 in
set_option maxRecDepth 100000 in
theorem fb16_any (u0 : Nat) (hu64 : u0 < 18446744073709551616) (w : World) (hLd : LaidAt w) :
    Calls Tryd.prog 74 #[.slice none 0 0, .int .u64 u0, .int .i64 16, .bool false, .bool false] w fun e w' => e = .returned (.tuple #[.slice none 0 0, .string (mkH (hexH u0))]) ∧ Below w.heap.size w w' := by
  have HLD := Aside0.mk hLd
  clear hLd
  have hlen0 := hexH_len 15 u0 (by rw [show 16 ^ (15 + 1) = 18446744073709551616 by decide]; exact hu64)
  obtain ⟨R, hR⟩ : ∃ R, R = hexH u0 := ⟨_, rfl⟩
  rw [← hR] at hlen0 ⊢
  have HR := Aside0.mk hR
  clear hR
  go_enter Tryd.func74, Tryd.ntmps74
  go_name_bytes_deep 40 PM hPM
  clear hPM
  go_name_bytes_deep 30 DG hDG
  have hidx : ∀ (d : Nat), d < 16 → ∀ W : World, (Instr.index 9 (.string DG) (.int .u64 (d : Int))).run Tryd.prog W = .ok (.int .u8 ((hxH d).toNat : Int)) W := by
    intro d hd W
    have hsz : DG.size = 36 := by rw [← hDG]; rfl
    have hg : ∀ h : d < DG.size, DG[d]'h = hxH d := by
      intro h
      subst hDG
      exact hx_dig ⟨d, hd⟩
    clear hDG
    go_simp
    intro h
    omega
  have HIDX := Aside0.mk hidx
  clear hidx hDG
  go_wp2_with (first | (go_at_call 111; refine (pow2_16 _).mono ?_; rintro e w' ⟨rfl, rfl⟩) | (go_at_call 112; refine (tz_16 _ ?hl).mono ?_; (case hl => exact LaidAt.alloc HLD.out); rintro e w' ⟨rfl, rfl⟩))
  go_loopw [1, 13] (fun v1 v13 wr => ∃ (u i : Nat) (l : List UInt8), v1 = .int .u64 u ∧ v13 = .int .i64 i ∧ Aside0 (SufH wr w.heap.size l) ∧ Aside0 (i = 65 - l.length) ∧ Aside0 (u < 18446744073709551616) ∧ Aside0 (R = hexH u ++ l) ∧ Aside0 (Below w.heap.size w wr)) (fun v1 _ _ => (intOf v1).toNat)
  case atStart => exact ⟨u0, 65, [], rfl, rfl, ⟨sufH_start w⟩, ⟨rfl⟩, ⟨hu64⟩, ⟨by rw [HR.out, List.append_nil]⟩, ⟨(Below.refl _ _).alloc (Nat.le_refl _) _⟩⟩
  case round =>
    obtain ⟨u, i, l, rfl, rfl, hS, hi, hu, hR, hB⟩ := hrel
    have hi' := hi.out
    have hu' := hu.out
    have hRl := congrArg List.length hR.out
    rw [List.length_append] at hRl
    have hlp : 1 ≤ (hexH u).length := by rw [hexH]; split <;> simp
    have hi49 : 1 ≤ i ∧ i ≤ 65 ∧ l.length < 65 := by omega
    clear hRl hlp
    by_cases hlt : 16 ≤ u
    · have c1 : decide ((u : Int) ≥ 16) = true := decide_eq_true (by omega)
      have hx : ∀ W : World, (Instr.index 9 (.string DG) (.int .u64 ((u : Int) % 16))).run Tryd.prog W = .ok (.int .u8 ((hxH (u % 16)).toNat : Int)) W := by have h_ := HIDX.out (u % 16) (by omega); rw [Int.natCast_emod] at h_; exact h_
      have ha := and15 u hu'
      obtain ⟨v, hv⟩ := sufH_cell hS.out (i - 1) (by omega)
      have hz := sufH_frozen hS.out (i - 1)
      have hlt' := Aside0.mk hlt
      obtain ⟨n, rfl⟩ : ∃ n, i = n + 1 := ⟨i - 1, by omega⟩
      simp only [Nat.add_sub_cancel] at hv hz
      have hn : n < 65 := by omega
      have b1 : (0 ≤ (n : Int)) = True := eq_true (by omega)
      have b2 : ((n : Int) < 65) = True := eq_true (by omega)
      have hsh : (u : Int) / 16 = ((u / 16 : Nat) : Int) := by omega
      have hsr : ∀ W : World, (binOp .shr 27 (.int .u64 (u : Int)) (.int .u64 4)).run Tryd.prog W = .ok (.int .u64 ((u / 16 : Nat) : Int)) W := fun W => by
        rw [binOp_shr, shift_shr_u64 (x := (u : Int)) (yk := .u64) (y := 4) (by decide) (by decide)]
        have e : (u : Int) / 2 ^ (4 : Int).toNat = ((u / 16 : Nat) : Int) := by rw [show (2 : Int) ^ (4 : Int).toNat = 16 from rfl]; omega
        rw [e]; rfl
      clear hlen0 hu64 hi49 hi' hu' hlt hsh
      go_wp2_with fail
      go_roundw
      case measure => simp only [intOf]; have := hlt'.out; omega
      case rel =>
        refine ⟨u / 16, n, hxH (u % 16) :: l, by rw [Int.natCast_ediv]; rfl, rfl, ?_, ⟨by have := hi.out; simp only [List.length_cons]; omega⟩, ⟨by have := hu.out; omega⟩, ⟨?_⟩, ⟨hB.out.setCell (Nat.le_refl _) _⟩⟩
        · have h1 := sufH_put hS.out (hxH (u % 16)) (by have := hi.out; omega)
          rw [show 64 - l.length = n by have := hi.out; omega] at h1
          exact ⟨h1⟩
        · have h1 := hR.out
          rw [hexH, dif_neg (by have := hlt'.out; omega)] at h1
          rw [h1, List.append_assoc]; rfl
    · have c1 : decide ((u : Int) ≥ 16) = false := decide_eq_false (by omega)
      have hx := HIDX.out u (by omega)
      obtain ⟨n, rfl⟩ : ∃ n, i = n + 1 := ⟨i - 1, by omega⟩
      obtain ⟨v, hv⟩ := sufH_cell hS.out n (by omega)
      have hz := sufH_frozen hS.out n
      have hn : n < 65 := by omega
      have b1 : (0 ≤ (n : Int)) = True := eq_true (by omega)
      have b2 : ((n : Int) < 65) = True := eq_true (by omega)
      have hRR : R = hxH u :: l := by
        have h1 := hR.out
        rw [hexH, dif_pos (by omega)] at h1
        exact h1
      have h1 := sufH_put hS.out (hxH u) (by omega)
      rw [show 64 - l.length = n by omega] at h1
      have hln : l.length + 1 = 65 - n := by omega
      have hal : Tryd.prog.arrayLen 137 = 65 := by kernel_rfl
      have hsl : ∀ W, (Instr.sliceAt 137 (.pointer (some ⟨w.heap.size, 0, none⟩)) (some (.int .i64 (n : Int))) none none).run Tryd.prog W = .ok (.slice (some ⟨w.heap.size, n, none⟩) (65 - n) (65 - n)) W := fun W => by
        rw [run_sliceAt_array_l W 137 ⟨w.heap.size, 0, none⟩ (by kernel_rfl) .i64 (n : Int) (by omega) (by rw [hal]; omega)]
        rw [hal]
        go_simp
        omega
      have hcv : (convert 88 9 (.slice (some ⟨w.heap.size, n, none⟩) (65 - n) (65 - n))).run Tryd.prog (wr.setCell ⟨w.heap.size, n, none⟩ (.int .u8 (hxH u).toNat)) = .ok (.string (mkH R)) (wr.setCell ⟨w.heap.size, n, none⟩ (.int .u8 (hxH u).toNat)) := by
        have h := run_convert_bytes_back (P := Tryd.prog) (World.setCell wr ⟨w.heap.size, n, none⟩ (.int .u8 (hxH u).toNat)) 88 9 5 ⟨w.heap.size, n, none⟩ (65 - n) (hxH u :: l) Tryd.underlying88 Tryd.underlying5 Tryd.underlying9 (fun j hj => by
          obtain ⟨cs, k1, k2, k3, k4⟩ := h1
          rw [Lib.add_plain, blk_cell k1, ← k4 j _ (List.getElem?_eq_getElem hj)]
          simp only [List.length_cons]
          rw [show 65 - (l.length + 1) = n by omega])
        rw [List.length_cons, hln, ← hRR] at h
        exact h
      have HB := Aside0.mk (hB.out.setCell (hp := Nat.le_refl _) (.int .u8 (hxH u).toNat) : Below w.heap.size w (wr.setCell ⟨w.heap.size, n, none⟩ (.int .u8 (hxH u).toNat)))
      clear hlen0 hu64 hi49 hi' hu' hlt h1 hRR hal hln
      go_wp2_with fail
      go_ret2
      exact ⟨rfl, HB.out⟩
set_option maxHeartbeats 3200000 in
set_option maxRecDepth 100000 in
theorem fu16_any (u : Nat) (hu64 : u < 18446744073709551616) (w : World) (hLd : LaidAt w) :
    Calls Tryd.prog 47 #[.int .u64 u, .int .i64 16] w fun e w' => e = .returned (.string (mkH (hexH u))) ∧ Below w.heap.size w w' := by
  have HLD := Aside0.mk hLd
  clear hLd
  go_enter Tryd.func47, Tryd.ntmps47
  go_wp2_with (go_at_call 74; refine (fb16_any u hu64 _ HLD.out).mono ?_; rintro e w' ⟨rfl, hb⟩)
  go_ret
  exact ⟨rfl, hb⟩
def fuS (b : Int) (u : Nat) : ByteArray := if b = 10 then ⟨(Lib.decDigits u).toArray⟩ else mkH (hexH u)
set_option maxHeartbeats 3200000 in
set_option maxRecDepth 100000 in
theorem fup_any (b : Int) (hb : b = 10 ∨ b = 16) (u : Nat) (hu64 : u < 18446744073709551616) (w : World) (hLd : LaidAt w) :
    Calls Tryd.prog 21 #[.int .u64 u, .int .i64 b] w fun e w' => e = .returned (.string (fuS b u)) ∧ Below w.heap.size w w' := by
  have h : Calls Tryd.prog 47 #[.int .u64 u, .int .i64 b] w fun e w' => e = .returned (.string (fuS b u)) ∧ Below w.heap.size w w' := by
    rcases hb with rfl | rfl
    · exact fu10_any u hu64 w hLd
    · exact fu16_any u hu64 w hLd
  generalize fuS b u = r at h
  have H := Aside0.mk h
  clear h hLd
  go_enter Tryd.func21, Tryd.ntmps21
  go_wp2_with (go_at_call 47; refine H.out.mono ?_; rintro e w' ⟨rfl, hb⟩)
  go_ret
  exact ⟨rfl, hb⟩

def strconv_FormatUint.f (a0 a1 : Int) : Option ByteArray := if (0 ≤ a0 ∧ a0 < 18446744073709551616) ∧ (a1 = 10 ∨ a1 = 16) then some (fuS a1 a0.toNat) else none
theorem strconv_FormatUint.calls (a0 : Int) (a1 : Int) (r : ByteArray) (w : World) (hLd : LaidAt w) (h : strconv_FormatUint.f a0 a1 = some r) :
    Calls Tryd.prog 21 #[.int .u64 a0, .int .i64 a1] w fun e w' => e = .returned (.string r) ∧ Below w.heap.size w w' := by
  unfold strconv_FormatUint.f at h
  split at h
  · rename_i hs
    have e := Option.some.inj h
    obtain ⟨u, rfl⟩ : ∃ u : Nat, a0 = u := ⟨a0.toNat, by omega⟩
    rw [← e, Int.toNat_natCast]
    exact fup_any a1 hs.2 u (by omega) w hLd
  · cases h

/-! ### doorwardlaw14_LexNumbers: function 7 -/
def doorwardlaw14_LexNumbers.f (a0 : Int) : Option (Bool) := (strconv_FormatUint.f a0 10).bind fun t113 => ((strconv_FormatUint.f a0 16).bind fun t114 => ((lex_Number.f t113).bind fun bt115 => (if 2 + t114.size ≤ 9223372036854775807 then ((lex_Number.f ((⟨#[48, 120]⟩ : ByteArray) ++ t114)).bind fun bt117 => (if 1 + t113.size ≤ 9223372036854775807 then ((lex_Number.f ((⟨#[48]⟩ : ByteArray) ++ t113)).bind fun bt119 => ((lex_Number.f ((⟨#[45]⟩ : ByteArray) ++ t113)).bind fun bt121 => ((lex_Number.f (⟨#[48, 120]⟩ : ByteArray)).bind fun bt123 => ((doorwardlaw14_alive.f).bind fun t125 => (if t125 = true then (if bt115.2 = true then (if bt117.2 = true then (if bt115.1 = a0 then (if bt117.1 = a0 then (if bt119.2 = true then (some false) else (if bt121.2 = true then (some false) else (some (!bt123.2)))) else (some false)) else (some false)) else (some false)) else (some false)) else (some false)))))) else (none))) else (none))))
set_option maxHeartbeats 8000000 in
set_option maxRecDepth 100000 in
theorem doorwardlaw14_LexNumbers.calls (a0 : Int) (r : Bool) (w : World) (hLd : LaidAt w) (h : doorwardlaw14_LexNumbers.f a0 = some r) :
    Calls Tryd.prog 7 #[.int .u64 a0] w fun e w' => e = .returned (.bool r) ∧ Below w.heap.size w w' := by
  have HLD := Aside0.mk hLd
  clear hLd
  have HB := Aside0.mk (Below.refl w.heap.size w)
  have H : ((strconv_FormatUint.f a0 10).bind fun t113 => ((strconv_FormatUint.f a0 16).bind fun t114 => ((lex_Number.f t113).bind fun bt115 => (if 2 + t114.size ≤ 9223372036854775807 then ((lex_Number.f ((⟨#[48, 120]⟩ : ByteArray) ++ t114)).bind fun bt117 => (if 1 + t113.size ≤ 9223372036854775807 then ((lex_Number.f ((⟨#[48]⟩ : ByteArray) ++ t113)).bind fun bt119 => ((lex_Number.f ((⟨#[45]⟩ : ByteArray) ++ t113)).bind fun bt121 => ((lex_Number.f (⟨#[48, 120]⟩ : ByteArray)).bind fun bt123 => ((doorwardlaw14_alive.f).bind fun t125 => (if t125 = true then (if bt115.2 = true then (if bt117.2 = true then (if bt115.1 = a0 then (if bt117.1 = a0 then (if bt119.2 = true then (some false) else (if bt121.2 = true then (some false) else (some (!bt123.2)))) else (some false)) else (some false)) else (some false)) else (some false)) else (some false)))))) else (none))) else (none))))) = some r := h
  clear h
  replace H := Option.bind_eq_some_iff.mp H
  obtain ⟨t113, A20, H⟩ := H
  replace H : ((strconv_FormatUint.f a0 16).bind fun t114 => ((lex_Number.f t113).bind fun bt115 => (if 2 + t114.size ≤ 9223372036854775807 then ((lex_Number.f ((⟨#[48, 120]⟩ : ByteArray) ++ t114)).bind fun bt117 => (if 1 + t113.size ≤ 9223372036854775807 then ((lex_Number.f ((⟨#[48]⟩ : ByteArray) ++ t113)).bind fun bt119 => ((lex_Number.f ((⟨#[45]⟩ : ByteArray) ++ t113)).bind fun bt121 => ((lex_Number.f (⟨#[48, 120]⟩ : ByteArray)).bind fun bt123 => ((doorwardlaw14_alive.f).bind fun t125 => (if t125 = true then (if bt115.2 = true then (if bt117.2 = true then (if bt115.1 = a0 then (if bt117.1 = a0 then (if bt119.2 = true then (some false) else (if bt121.2 = true then (some false) else (some (!bt123.2)))) else (some false)) else (some false)) else (some false)) else (some false)) else (some false)))))) else (none))) else (none)))) = some r := H
  have A2 := Aside0.mk A20
  clear A20
  replace H := Option.bind_eq_some_iff.mp H
  obtain ⟨t114, A30, H⟩ := H
  replace H : ((lex_Number.f t113).bind fun bt115 => (if 2 + t114.size ≤ 9223372036854775807 then ((lex_Number.f ((⟨#[48, 120]⟩ : ByteArray) ++ t114)).bind fun bt117 => (if 1 + t113.size ≤ 9223372036854775807 then ((lex_Number.f ((⟨#[48]⟩ : ByteArray) ++ t113)).bind fun bt119 => ((lex_Number.f ((⟨#[45]⟩ : ByteArray) ++ t113)).bind fun bt121 => ((lex_Number.f (⟨#[48, 120]⟩ : ByteArray)).bind fun bt123 => ((doorwardlaw14_alive.f).bind fun t125 => (if t125 = true then (if bt115.2 = true then (if bt117.2 = true then (if bt115.1 = a0 then (if bt117.1 = a0 then (if bt119.2 = true then (some false) else (if bt121.2 = true then (some false) else (some (!bt123.2)))) else (some false)) else (some false)) else (some false)) else (some false)) else (some false)))))) else (none))) else (none))) = some r := H
  have A3 := Aside0.mk A30
  clear A30
  replace H := Option.bind_eq_some_iff.mp H
  obtain ⟨⟨t115, t116⟩, A40, H⟩ := H
  replace H : (if 2 + t114.size ≤ 9223372036854775807 then ((lex_Number.f ((⟨#[48, 120]⟩ : ByteArray) ++ t114)).bind fun bt117 => (if 1 + t113.size ≤ 9223372036854775807 then ((lex_Number.f ((⟨#[48]⟩ : ByteArray) ++ t113)).bind fun bt119 => ((lex_Number.f ((⟨#[45]⟩ : ByteArray) ++ t113)).bind fun bt121 => ((lex_Number.f (⟨#[48, 120]⟩ : ByteArray)).bind fun bt123 => ((doorwardlaw14_alive.f).bind fun t125 => (if t125 = true then (if t116 = true then (if bt117.2 = true then (if t115 = a0 then (if bt117.1 = a0 then (if bt119.2 = true then (some false) else (if bt121.2 = true then (some false) else (some (!bt123.2)))) else (some false)) else (some false)) else (some false)) else (some false)) else (some false)))))) else (none))) else (none)) = some r := H
  have A4 := Aside0.mk A40
  clear A40
  by_cases c5 : 2 + t114.size ≤ 9223372036854775807
  · rw [if_pos c5] at H
    have c5b0 := eq_true c5
    have c5b1 : decide (2 + t114.size ≤ 9223372036854775807) = true := decide_eq_true c5
    try have c5b2 : (9223372036854775807 < 2 + t114.size) = False := eq_false (Nat.not_lt.2 c5)
    replace H := Option.bind_eq_some_iff.mp H
    obtain ⟨⟨t117, t118⟩, A60, H⟩ := H
    replace H : (if 1 + t113.size ≤ 9223372036854775807 then ((lex_Number.f ((⟨#[48]⟩ : ByteArray) ++ t113)).bind fun bt119 => ((lex_Number.f ((⟨#[45]⟩ : ByteArray) ++ t113)).bind fun bt121 => ((lex_Number.f (⟨#[48, 120]⟩ : ByteArray)).bind fun bt123 => ((doorwardlaw14_alive.f).bind fun t125 => (if t125 = true then (if t116 = true then (if t118 = true then (if t115 = a0 then (if t117 = a0 then (if bt119.2 = true then (some false) else (if bt121.2 = true then (some false) else (some (!bt123.2)))) else (some false)) else (some false)) else (some false)) else (some false)) else (some false)))))) else (none)) = some r := H
    have A6 := Aside0.mk A60
    clear A60
    by_cases c7 : 1 + t113.size ≤ 9223372036854775807
    · rw [if_pos c7] at H
      have c7b0 := eq_true c7
      have c7b1 : decide (1 + t113.size ≤ 9223372036854775807) = true := decide_eq_true c7
      try have c7b2 : (9223372036854775807 < 1 + t113.size) = False := eq_false (Nat.not_lt.2 c7)
      replace H := Option.bind_eq_some_iff.mp H
      obtain ⟨⟨t119, t120⟩, A80, H⟩ := H
      replace H : ((lex_Number.f ((⟨#[45]⟩ : ByteArray) ++ t113)).bind fun bt121 => ((lex_Number.f (⟨#[48, 120]⟩ : ByteArray)).bind fun bt123 => ((doorwardlaw14_alive.f).bind fun t125 => (if t125 = true then (if t116 = true then (if t118 = true then (if t115 = a0 then (if t117 = a0 then (if t120 = true then (some false) else (if bt121.2 = true then (some false) else (some (!bt123.2)))) else (some false)) else (some false)) else (some false)) else (some false)) else (some false))))) = some r := H
      have A8 := Aside0.mk A80
      clear A80
      replace H := Option.bind_eq_some_iff.mp H
      obtain ⟨⟨t121, t122⟩, A90, H⟩ := H
      replace H : ((lex_Number.f (⟨#[48, 120]⟩ : ByteArray)).bind fun bt123 => ((doorwardlaw14_alive.f).bind fun t125 => (if t125 = true then (if t116 = true then (if t118 = true then (if t115 = a0 then (if t117 = a0 then (if t120 = true then (some false) else (if t122 = true then (some false) else (some (!bt123.2)))) else (some false)) else (some false)) else (some false)) else (some false)) else (some false)))) = some r := H
      have A9 := Aside0.mk A90
      clear A90
      replace H := Option.bind_eq_some_iff.mp H
      obtain ⟨⟨t123, t124⟩, A100, H⟩ := H
      replace H : ((doorwardlaw14_alive.f).bind fun t125 => (if t125 = true then (if t116 = true then (if t118 = true then (if t115 = a0 then (if t117 = a0 then (if t120 = true then (some false) else (if t122 = true then (some false) else (some (!t124)))) else (some false)) else (some false)) else (some false)) else (some false)) else (some false))) = some r := H
      have A10 := Aside0.mk A100
      clear A100
      replace H := Option.bind_eq_some_iff.mp H
      obtain ⟨t125, A110, H⟩ := H
      replace H : (if t125 = true then (if t116 = true then (if t118 = true then (if t115 = a0 then (if t117 = a0 then (if t120 = true then (some false) else (if t122 = true then (some false) else (some (!t124)))) else (some false)) else (some false)) else (some false)) else (some false)) else (some false)) = some r := H
      have A11 := Aside0.mk A110
      clear A110
      by_cases c12 : t125 = true
      · subst c12
        have H1 : (if t116 = true then (if t118 = true then (if t115 = a0 then (if t117 = a0 then (if t120 = true then (some false) else (if t122 = true then (some false) else (some (!t124)))) else (some false)) else (some false)) else (some false)) else (some false)) = some r := by rw [if_pos rfl] at H; exact H
        clear H
        have H := H1
        clear H1
        by_cases c13 : t116 = true
        · subst c13
          have H1 : (if t118 = true then (if t115 = a0 then (if t117 = a0 then (if t120 = true then (some false) else (if t122 = true then (some false) else (some (!t124)))) else (some false)) else (some false)) else (some false)) = some r := by rw [if_pos rfl] at H; exact H
          clear H
          have H := H1
          clear H1
          by_cases c14 : t118 = true
          · subst c14
            have H1 : (if t115 = a0 then (if t117 = a0 then (if t120 = true then (some false) else (if t122 = true then (some false) else (some (!t124)))) else (some false)) else (some false)) = some r := by rw [if_pos rfl] at H; exact H
            clear H
            have H := H1
            clear H1
            by_cases c15 : t115 = a0
            · rw [if_pos c15] at H
              have c15b0 : (t115 == a0) = true := beq_iff_eq.mpr c15
              have c15b1 : (t115 != a0) = false := bne_eq_false_iff_eq.mpr c15
              clear c15
              by_cases c16 : t117 = a0
              · rw [if_pos c16] at H
                have c16b0 : (t117 == a0) = true := beq_iff_eq.mpr c16
                have c16b1 : (t117 != a0) = false := bne_eq_false_iff_eq.mpr c16
                clear c16
                by_cases c17 : t120 = true
                · subst c17
                  have H1 : (some false) = some r := by rw [if_pos rfl] at H; exact H
                  clear H
                  have H := H1
                  clear H1
                  obtain rfl := Option.some.inj H
                  go_enter Tryd.func7, Tryd.ntmps7
                  go_wp2_with (first | ((with_reducible refine gate_callee (f := 21) rfl ?_); refine goesL_ (some 16) rfl rfl Tryd.func21 (by kernel_rfl) rfl #[.int .u64 a0, .int .i64 10] rfl (by (try simp only [List.map_toArray, List.map_cons, List.map_nil]); first | done | rfl | (simp only [List.length_drop, List.length_take]; rfl)) ?_; (with_reducible refine (strconv_FormatUint.calls a0 10 t113 _ ?side1 A2.out).mono ?_); (case side1 => exact LaidAt.of HLD.out (by repeat (first | (with_reducible first | exact HB.out | apply below_alloc | apply pw_below_drewN | apply below_drew1) | exact HB.out))); rintro e w18 ⟨rfl, hb⟩; refine ⟨_, rfl, ?_⟩; have n0_ := Aside0.mk (below_step (by repeat (first | (with_reducible first | exact HB.out | apply below_alloc | apply pw_below_drewN | apply below_drew1) | exact HB.out)) hb); clear HB; have HB := n0_; clear n0_; (try clear hb); (try clear hb2); (try clear hk); (try clear hi)) | ((with_reducible refine gate_callee (f := 21) rfl ?_); refine goesL_ (some 18) rfl rfl Tryd.func21 (by kernel_rfl) rfl #[.int .u64 a0, .int .i64 16] rfl (by (try simp only [List.map_toArray, List.map_cons, List.map_nil]); first | done | rfl | (simp only [List.length_drop, List.length_take]; rfl)) ?_; (with_reducible refine (strconv_FormatUint.calls a0 16 t114 _ ?side1 A3.out).mono ?_); (case side1 => exact LaidAt.of HLD.out (by repeat (first | (with_reducible first | exact HB.out | apply below_alloc | apply pw_below_drewN | apply below_drew1) | exact HB.out))); rintro e w19 ⟨rfl, hb⟩; refine ⟨_, rfl, ?_⟩; have n0_ := Aside0.mk (below_step (by repeat (first | (with_reducible first | exact HB.out | apply below_alloc | apply pw_below_drewN | apply below_drew1) | exact HB.out)) hb); clear HB; have HB := n0_; clear n0_; (try clear hb); (try clear hb2); (try clear hk); (try clear hi)) | ((with_reducible refine gate_callee (f := 17) rfl ?_); refine goesL_ (some 21) rfl rfl Tryd.func17 (by kernel_rfl) rfl #[.string t113] rfl (by (try simp only [List.map_toArray, List.map_cons, List.map_nil]); first | done | rfl | (simp only [List.length_drop, List.length_take]; rfl)) ?_; (with_reducible refine (lex_Number.calls t113 t115 true _ ?side1 A4.out).mono ?_); (case side1 => exact LaidAt.of HLD.out (by repeat (first | (with_reducible first | exact HB.out | apply below_alloc | apply pw_below_drewN | apply below_drew1) | exact HB.out))); rintro e w20 ⟨rfl, hb⟩; refine ⟨_, rfl, ?_⟩; have n0_ := Aside0.mk (below_step (by repeat (first | (with_reducible first | exact HB.out | apply below_alloc | apply pw_below_drewN | apply below_drew1) | exact HB.out)) hb); clear HB; have HB := n0_; clear n0_; (try clear hb); (try clear hb2); (try clear hk); (try clear hi)) | ((with_reducible refine gate_callee (f := 17) rfl ?_); refine goesL_ (some 27) rfl rfl Tryd.func17 (by kernel_rfl) rfl #[.string ((⟨#[48, 120]⟩ : ByteArray) ++ t114)] rfl (by (try simp only [List.map_toArray, List.map_cons, List.map_nil]); first | done | rfl | (simp only [List.length_drop, List.length_take]; rfl)) ?_; (with_reducible refine (lex_Number.calls ((⟨#[48, 120]⟩ : ByteArray) ++ t114) t117 true _ ?side1 A6.out).mono ?_); (case side1 => exact LaidAt.of HLD.out (by repeat (first | (with_reducible first | exact HB.out | apply below_alloc | apply pw_below_drewN | apply below_drew1) | exact HB.out))); rintro e w21 ⟨rfl, hb⟩; refine ⟨_, rfl, ?_⟩; have n0_ := Aside0.mk (below_step (by repeat (first | (with_reducible first | exact HB.out | apply below_alloc | apply pw_below_drewN | apply below_drew1) | exact HB.out)) hb); clear HB; have HB := n0_; clear n0_; (try clear hb); (try clear hb2); (try clear hk); (try clear hi)) | ((with_reducible refine gate_callee (f := 17) rfl ?_); refine goesL_ (some 33) rfl rfl Tryd.func17 (by kernel_rfl) rfl #[.string ((⟨#[48]⟩ : ByteArray) ++ t113)] rfl (by (try simp only [List.map_toArray, List.map_cons, List.map_nil]); first | done | rfl | (simp only [List.length_drop, List.length_take]; rfl)) ?_; (with_reducible refine (lex_Number.calls ((⟨#[48]⟩ : ByteArray) ++ t113) t119 true _ ?side1 A8.out).mono ?_); (case side1 => exact LaidAt.of HLD.out (by repeat (first | (with_reducible first | exact HB.out | apply below_alloc | apply pw_below_drewN | apply below_drew1) | exact HB.out))); rintro e w22 ⟨rfl, hb⟩; refine ⟨_, rfl, ?_⟩; have n0_ := Aside0.mk (below_step (by repeat (first | (with_reducible first | exact HB.out | apply below_alloc | apply pw_below_drewN | apply below_drew1) | exact HB.out)) hb); clear HB; have HB := n0_; clear n0_; (try clear hb); (try clear hb2); (try clear hk); (try clear hi)) | ((with_reducible refine gate_callee (f := 17) rfl ?_); refine goesL_ (some 39) rfl rfl Tryd.func17 (by kernel_rfl) rfl #[.string ((⟨#[45]⟩ : ByteArray) ++ t113)] rfl (by (try simp only [List.map_toArray, List.map_cons, List.map_nil]); first | done | rfl | (simp only [List.length_drop, List.length_take]; rfl)) ?_; (with_reducible refine (lex_Number.calls ((⟨#[45]⟩ : ByteArray) ++ t113) t121 t122 _ ?side1 A9.out).mono ?_); (case side1 => exact LaidAt.of HLD.out (by repeat (first | (with_reducible first | exact HB.out | apply below_alloc | apply pw_below_drewN | apply below_drew1) | exact HB.out))); rintro e w23 ⟨rfl, hb⟩; refine ⟨_, rfl, ?_⟩; have n0_ := Aside0.mk (below_step (by repeat (first | (with_reducible first | exact HB.out | apply below_alloc | apply pw_below_drewN | apply below_drew1) | exact HB.out)) hb); clear HB; have HB := n0_; clear n0_; (try clear hb); (try clear hb2); (try clear hk); (try clear hi)) | ((with_reducible refine gate_callee (f := 17) rfl ?_); refine goesL_ (some 43) rfl rfl Tryd.func17 (by kernel_rfl) rfl #[.string (⟨#[48, 120]⟩ : ByteArray)] rfl (by (try simp only [List.map_toArray, List.map_cons, List.map_nil]); first | done | rfl | (simp only [List.length_drop, List.length_take]; rfl)) ?_; (with_reducible refine (lex_Number.calls (⟨#[48, 120]⟩ : ByteArray) t123 t124 _ ?side1 A10.out).mono ?_); (case side1 => exact LaidAt.of HLD.out (by repeat (first | (with_reducible first | exact HB.out | apply below_alloc | apply pw_below_drewN | apply below_drew1) | exact HB.out))); rintro e w24 ⟨rfl, hb⟩; refine ⟨_, rfl, ?_⟩; have n0_ := Aside0.mk (below_step (by repeat (first | (with_reducible first | exact HB.out | apply below_alloc | apply pw_below_drewN | apply below_drew1) | exact HB.out)) hb); clear HB; have HB := n0_; clear n0_; (try clear hb); (try clear hb2); (try clear hk); (try clear hi)) | ((with_reducible refine gate_callee (f := 19) rfl ?_); refine goesL_ (some 46) rfl rfl Tryd.func19 (by kernel_rfl) rfl #[] rfl (by (try simp only [List.map_toArray, List.map_cons, List.map_nil]); first | done | rfl | (simp only [List.length_drop, List.length_take]; rfl)) ?_; (with_reducible refine (doorwardlaw14_alive.calls  true _ ?side1 A11.out).mono ?_); (case side1 => exact LaidAt.of HLD.out (by repeat (first | (with_reducible first | exact HB.out | apply below_alloc | apply pw_below_drewN | apply below_drew1) | exact HB.out))); rintro e w25 ⟨rfl, hb⟩; refine ⟨_, rfl, ?_⟩; have n0_ := Aside0.mk (below_step (by repeat (first | (with_reducible first | exact HB.out | apply below_alloc | apply pw_below_drewN | apply below_drew1) | exact HB.out)) hb); clear HB; have HB := n0_; clear n0_; (try clear hb); (try clear hb2); (try clear hk); (try clear hi)))
                  go_ret
                  exact ⟨by first | rfl | (simp [errW_none, errW_some] <;> rfl) | (simp [*, errW_none, errW_some] <;> rfl), by repeat (first | (with_reducible first | exact HB.out | apply below_alloc | apply pw_below_drewN | apply below_drew1) | exact HB.out)⟩
                · replace c17 := Bool.eq_false_iff.mpr c17
                  subst c17
                  have H1 : (if t122 = true then (some false) else (some (!t124))) = some r := by rw [if_neg (show ¬ (false = true) by decide)] at H; exact H
                  clear H
                  have H := H1
                  clear H1
                  by_cases c26 : t122 = true
                  · subst c26
                    have H1 : (some false) = some r := by rw [if_pos rfl] at H; exact H
                    clear H
                    have H := H1
                    clear H1
                    obtain rfl := Option.some.inj H
                    go_enter Tryd.func7, Tryd.ntmps7
                    go_wp2_with (first | ((with_reducible refine gate_callee (f := 21) rfl ?_); refine goesL_ (some 16) rfl rfl Tryd.func21 (by kernel_rfl) rfl #[.int .u64 a0, .int .i64 10] rfl (by (try simp only [List.map_toArray, List.map_cons, List.map_nil]); first | done | rfl | (simp only [List.length_drop, List.length_take]; rfl)) ?_; (with_reducible refine (strconv_FormatUint.calls a0 10 t113 _ ?side1 A2.out).mono ?_); (case side1 => exact LaidAt.of HLD.out (by repeat (first | (with_reducible first | exact HB.out | apply below_alloc | apply pw_below_drewN | apply below_drew1) | exact HB.out))); rintro e w27 ⟨rfl, hb⟩; refine ⟨_, rfl, ?_⟩; have n0_ := Aside0.mk (below_step (by repeat (first | (with_reducible first | exact HB.out | apply below_alloc | apply pw_below_drewN | apply below_drew1) | exact HB.out)) hb); clear HB; have HB := n0_; clear n0_; (try clear hb); (try clear hb2); (try clear hk); (try clear hi)) | ((with_reducible refine gate_callee (f := 21) rfl ?_); refine goesL_ (some 18) rfl rfl Tryd.func21 (by kernel_rfl) rfl #[.int .u64 a0, .int .i64 16] rfl (by (try simp only [List.map_toArray, List.map_cons, List.map_nil]); first | done | rfl | (simp only [List.length_drop, List.length_take]; rfl)) ?_; (with_reducible refine (strconv_FormatUint.calls a0 16 t114 _ ?side1 A3.out).mono ?_); (case side1 => exact LaidAt.of HLD.out (by repeat (first | (with_reducible first | exact HB.out | apply below_alloc | apply pw_below_drewN | apply below_drew1) | exact HB.out))); rintro e w28 ⟨rfl, hb⟩; refine ⟨_, rfl, ?_⟩; have n0_ := Aside0.mk (below_step (by repeat (first | (with_reducible first | exact HB.out | apply below_alloc | apply pw_below_drewN | apply below_drew1) | exact HB.out)) hb); clear HB; have HB := n0_; clear n0_; (try clear hb); (try clear hb2); (try clear hk); (try clear hi)) | ((with_reducible refine gate_callee (f := 17) rfl ?_); refine goesL_ (some 21) rfl rfl Tryd.func17 (by kernel_rfl) rfl #[.string t113] rfl (by (try simp only [List.map_toArray, List.map_cons, List.map_nil]); first | done | rfl | (simp only [List.length_drop, List.length_take]; rfl)) ?_; (with_reducible refine (lex_Number.calls t113 t115 true _ ?side1 A4.out).mono ?_); (case side1 => exact LaidAt.of HLD.out (by repeat (first | (with_reducible first | exact HB.out | apply below_alloc | apply pw_below_drewN | apply below_drew1) | exact HB.out))); rintro e w29 ⟨rfl, hb⟩; refine ⟨_, rfl, ?_⟩; have n0_ := Aside0.mk (below_step (by repeat (first | (with_reducible first | exact HB.out | apply below_alloc | apply pw_below_drewN | apply below_drew1) | exact HB.out)) hb); clear HB; have HB := n0_; clear n0_; (try clear hb); (try clear hb2); (try clear hk); (try clear hi)) | ((with_reducible refine gate_callee (f := 17) rfl ?_); refine goesL_ (some 27) rfl rfl Tryd.func17 (by kernel_rfl) rfl #[.string ((⟨#[48, 120]⟩ : ByteArray) ++ t114)] rfl (by (try simp only [List.map_toArray, List.map_cons, List.map_nil]); first | done | rfl | (simp only [List.length_drop, List.length_take]; rfl)) ?_; (with_reducible refine (lex_Number.calls ((⟨#[48, 120]⟩ : ByteArray) ++ t114) t117 true _ ?side1 A6.out).mono ?_); (case side1 => exact LaidAt.of HLD.out (by repeat (first | (with_reducible first | exact HB.out | apply below_alloc | apply pw_below_drewN | apply below_drew1) | exact HB.out))); rintro e w30 ⟨rfl, hb⟩; refine ⟨_, rfl, ?_⟩; have n0_ := Aside0.mk (below_step (by repeat (first | (with_reducible first | exact HB.out | apply below_alloc | apply pw_below_drewN | apply below_drew1) | exact HB.out)) hb); clear HB; have HB := n0_; clear n0_; (try clear hb); (try clear hb2); (try clear hk); (try clear hi)) | ((with_reducible refine gate_callee (f := 17) rfl ?_); refine goesL_ (some 33) rfl rfl Tryd.func17 (by kernel_rfl) rfl #[.string ((⟨#[48]⟩ : ByteArray) ++ t113)] rfl (by (try simp only [List.map_toArray, List.map_cons, List.map_nil]); first | done | rfl | (simp only [List.length_drop, List.length_take]; rfl)) ?_; (with_reducible refine (lex_Number.calls ((⟨#[48]⟩ : ByteArray) ++ t113) t119 false _ ?side1 A8.out).mono ?_); (case side1 => exact LaidAt.of HLD.out (by repeat (first | (with_reducible first | exact HB.out | apply below_alloc | apply pw_below_drewN | apply below_drew1) | exact HB.out))); rintro e w31 ⟨rfl, hb⟩; refine ⟨_, rfl, ?_⟩; have n0_ := Aside0.mk (below_step (by repeat (first | (with_reducible first | exact HB.out | apply below_alloc | apply pw_below_drewN | apply below_drew1) | exact HB.out)) hb); clear HB; have HB := n0_; clear n0_; (try clear hb); (try clear hb2); (try clear hk); (try clear hi)) | ((with_reducible refine gate_callee (f := 17) rfl ?_); refine goesL_ (some 39) rfl rfl Tryd.func17 (by kernel_rfl) rfl #[.string ((⟨#[45]⟩ : ByteArray) ++ t113)] rfl (by (try simp only [List.map_toArray, List.map_cons, List.map_nil]); first | done | rfl | (simp only [List.length_drop, List.length_take]; rfl)) ?_; (with_reducible refine (lex_Number.calls ((⟨#[45]⟩ : ByteArray) ++ t113) t121 true _ ?side1 A9.out).mono ?_); (case side1 => exact LaidAt.of HLD.out (by repeat (first | (with_reducible first | exact HB.out | apply below_alloc | apply pw_below_drewN | apply below_drew1) | exact HB.out))); rintro e w32 ⟨rfl, hb⟩; refine ⟨_, rfl, ?_⟩; have n0_ := Aside0.mk (below_step (by repeat (first | (with_reducible first | exact HB.out | apply below_alloc | apply pw_below_drewN | apply below_drew1) | exact HB.out)) hb); clear HB; have HB := n0_; clear n0_; (try clear hb); (try clear hb2); (try clear hk); (try clear hi)) | ((with_reducible refine gate_callee (f := 17) rfl ?_); refine goesL_ (some 43) rfl rfl Tryd.func17 (by kernel_rfl) rfl #[.string (⟨#[48, 120]⟩ : ByteArray)] rfl (by (try simp only [List.map_toArray, List.map_cons, List.map_nil]); first | done | rfl | (simp only [List.length_drop, List.length_take]; rfl)) ?_; (with_reducible refine (lex_Number.calls (⟨#[48, 120]⟩ : ByteArray) t123 t124 _ ?side1 A10.out).mono ?_); (case side1 => exact LaidAt.of HLD.out (by repeat (first | (with_reducible first | exact HB.out | apply below_alloc | apply pw_below_drewN | apply below_drew1) | exact HB.out))); rintro e w33 ⟨rfl, hb⟩; refine ⟨_, rfl, ?_⟩; have n0_ := Aside0.mk (below_step (by repeat (first | (with_reducible first | exact HB.out | apply below_alloc | apply pw_below_drewN | apply below_drew1) | exact HB.out)) hb); clear HB; have HB := n0_; clear n0_; (try clear hb); (try clear hb2); (try clear hk); (try clear hi)) | ((with_reducible refine gate_callee (f := 19) rfl ?_); refine goesL_ (some 46) rfl rfl Tryd.func19 (by kernel_rfl) rfl #[] rfl (by (try simp only [List.map_toArray, List.map_cons, List.map_nil]); first | done | rfl | (simp only [List.length_drop, List.length_take]; rfl)) ?_; (with_reducible refine (doorwardlaw14_alive.calls  true _ ?side1 A11.out).mono ?_); (case side1 => exact LaidAt.of HLD.out (by repeat (first | (with_reducible first | exact HB.out | apply below_alloc | apply pw_below_drewN | apply below_drew1) | exact HB.out))); rintro e w34 ⟨rfl, hb⟩; refine ⟨_, rfl, ?_⟩; have n0_ := Aside0.mk (below_step (by repeat (first | (with_reducible first | exact HB.out | apply below_alloc | apply pw_below_drewN | apply below_drew1) | exact HB.out)) hb); clear HB; have HB := n0_; clear n0_; (try clear hb); (try clear hb2); (try clear hk); (try clear hi)))
                    go_ret
                    exact ⟨by first | rfl | (simp [errW_none, errW_some] <;> rfl) | (simp [*, errW_none, errW_some] <;> rfl), by repeat (first | (with_reducible first | exact HB.out | apply below_alloc | apply pw_below_drewN | apply below_drew1) | exact HB.out)⟩
                  · replace c26 := Bool.eq_false_iff.mpr c26
                    subst c26
                    have H1 : (some (!t124)) = some r := by rw [if_neg (show ¬ (false = true) by decide)] at H; exact H
                    clear H
                    have H := H1
                    clear H1
                    obtain rfl := Option.some.inj H
                    go_enter Tryd.func7, Tryd.ntmps7
                    go_wp2_with (first | ((with_reducible refine gate_callee (f := 21) rfl ?_); refine goesL_ (some 16) rfl rfl Tryd.func21 (by kernel_rfl) rfl #[.int .u64 a0, .int .i64 10] rfl (by (try simp only [List.map_toArray, List.map_cons, List.map_nil]); first | done | rfl | (simp only [List.length_drop, List.length_take]; rfl)) ?_; (with_reducible refine (strconv_FormatUint.calls a0 10 t113 _ ?side1 A2.out).mono ?_); (case side1 => exact LaidAt.of HLD.out (by repeat (first | (with_reducible first | exact HB.out | apply below_alloc | apply pw_below_drewN | apply below_drew1) | exact HB.out))); rintro e w35 ⟨rfl, hb⟩; refine ⟨_, rfl, ?_⟩; have n0_ := Aside0.mk (below_step (by repeat (first | (with_reducible first | exact HB.out | apply below_alloc | apply pw_below_drewN | apply below_drew1) | exact HB.out)) hb); clear HB; have HB := n0_; clear n0_; (try clear hb); (try clear hb2); (try clear hk); (try clear hi)) | ((with_reducible refine gate_callee (f := 21) rfl ?_); refine goesL_ (some 18) rfl rfl Tryd.func21 (by kernel_rfl) rfl #[.int .u64 a0, .int .i64 16] rfl (by (try simp only [List.map_toArray, List.map_cons, List.map_nil]); first | done | rfl | (simp only [List.length_drop, List.length_take]; rfl)) ?_; (with_reducible refine (strconv_FormatUint.calls a0 16 t114 _ ?side1 A3.out).mono ?_); (case side1 => exact LaidAt.of HLD.out (by repeat (first | (with_reducible first | exact HB.out | apply below_alloc | apply pw_below_drewN | apply below_drew1) | exact HB.out))); rintro e w36 ⟨rfl, hb⟩; refine ⟨_, rfl, ?_⟩; have n0_ := Aside0.mk (below_step (by repeat (first | (with_reducible first | exact HB.out | apply below_alloc | apply pw_below_drewN | apply below_drew1) | exact HB.out)) hb); clear HB; have HB := n0_; clear n0_; (try clear hb); (try clear hb2); (try clear hk); (try clear hi)) | ((with_reducible refine gate_callee (f := 17) rfl ?_); refine goesL_ (some 21) rfl rfl Tryd.func17 (by kernel_rfl) rfl #[.string t113] rfl (by (try simp only [List.map_toArray, List.map_cons, List.map_nil]); first | done | rfl | (simp only [List.length_drop, List.length_take]; rfl)) ?_; (with_reducible refine (lex_Number.calls t113 t115 true _ ?side1 A4.out).mono ?_); (case side1 => exact LaidAt.of HLD.out (by repeat (first | (with_reducible first | exact HB.out | apply below_alloc | apply pw_below_drewN | apply below_drew1) | exact HB.out))); rintro e w37 ⟨rfl, hb⟩; refine ⟨_, rfl, ?_⟩; have n0_ := Aside0.mk (below_step (by repeat (first | (with_reducible first | exact HB.out | apply below_alloc | apply pw_below_drewN | apply below_drew1) | exact HB.out)) hb); clear HB; have HB := n0_; clear n0_; (try clear hb); (try clear hb2); (try clear hk); (try clear hi)) | ((with_reducible refine gate_callee (f := 17) rfl ?_); refine goesL_ (some 27) rfl rfl Tryd.func17 (by kernel_rfl) rfl #[.string ((⟨#[48, 120]⟩ : ByteArray) ++ t114)] rfl (by (try simp only [List.map_toArray, List.map_cons, List.map_nil]); first | done | rfl | (simp only [List.length_drop, List.length_take]; rfl)) ?_; (with_reducible refine (lex_Number.calls ((⟨#[48, 120]⟩ : ByteArray) ++ t114) t117 true _ ?side1 A6.out).mono ?_); (case side1 => exact LaidAt.of HLD.out (by repeat (first | (with_reducible first | exact HB.out | apply below_alloc | apply pw_below_drewN | apply below_drew1) | exact HB.out))); rintro e w38 ⟨rfl, hb⟩; refine ⟨_, rfl, ?_⟩; have n0_ := Aside0.mk (below_step (by repeat (first | (with_reducible first | exact HB.out | apply below_alloc | apply pw_below_drewN | apply below_drew1) | exact HB.out)) hb); clear HB; have HB := n0_; clear n0_; (try clear hb); (try clear hb2); (try clear hk); (try clear hi)) | ((with_reducible refine gate_callee (f := 17) rfl ?_); refine goesL_ (some 33) rfl rfl Tryd.func17 (by kernel_rfl) rfl #[.string ((⟨#[48]⟩ : ByteArray) ++ t113)] rfl (by (try simp only [List.map_toArray, List.map_cons, List.map_nil]); first | done | rfl | (simp only [List.length_drop, List.length_take]; rfl)) ?_; (with_reducible refine (lex_Number.calls ((⟨#[48]⟩ : ByteArray) ++ t113) t119 false _ ?side1 A8.out).mono ?_); (case side1 => exact LaidAt.of HLD.out (by repeat (first | (with_reducible first | exact HB.out | apply below_alloc | apply pw_below_drewN | apply below_drew1) | exact HB.out))); rintro e w39 ⟨rfl, hb⟩; refine ⟨_, rfl, ?_⟩; have n0_ := Aside0.mk (below_step (by repeat (first | (with_reducible first | exact HB.out | apply below_alloc | apply pw_below_drewN | apply below_drew1) | exact HB.out)) hb); clear HB; have HB := n0_; clear n0_; (try clear hb); (try clear hb2); (try clear hk); (try clear hi)) | ((with_reducible refine gate_callee (f := 17) rfl ?_); refine goesL_ (some 39) rfl rfl Tryd.func17 (by kernel_rfl) rfl #[.string ((⟨#[45]⟩ : ByteArray) ++ t113)] rfl (by (try simp only [List.map_toArray, List.map_cons, List.map_nil]); first | done | rfl | (simp only [List.length_drop, List.length_take]; rfl)) ?_; (with_reducible refine (lex_Number.calls ((⟨#[45]⟩ : ByteArray) ++ t113) t121 false _ ?side1 A9.out).mono ?_); (case side1 => exact LaidAt.of HLD.out (by repeat (first | (with_reducible first | exact HB.out | apply below_alloc | apply pw_below_drewN | apply below_drew1) | exact HB.out))); rintro e w40 ⟨rfl, hb⟩; refine ⟨_, rfl, ?_⟩; have n0_ := Aside0.mk (below_step (by repeat (first | (with_reducible first | exact HB.out | apply below_alloc | apply pw_below_drewN | apply below_drew1) | exact HB.out)) hb); clear HB; have HB := n0_; clear n0_; (try clear hb); (try clear hb2); (try clear hk); (try clear hi)) | ((with_reducible refine gate_callee (f := 17) rfl ?_); refine goesL_ (some 43) rfl rfl Tryd.func17 (by kernel_rfl) rfl #[.string (⟨#[48, 120]⟩ : ByteArray)] rfl (by (try simp only [List.map_toArray, List.map_cons, List.map_nil]); first | done | rfl | (simp only [List.length_drop, List.length_take]; rfl)) ?_; (with_reducible refine (lex_Number.calls (⟨#[48, 120]⟩ : ByteArray) t123 t124 _ ?side1 A10.out).mono ?_); (case side1 => exact LaidAt.of HLD.out (by repeat (first | (with_reducible first | exact HB.out | apply below_alloc | apply pw_below_drewN | apply below_drew1) | exact HB.out))); rintro e w41 ⟨rfl, hb⟩; refine ⟨_, rfl, ?_⟩; have n0_ := Aside0.mk (below_step (by repeat (first | (with_reducible first | exact HB.out | apply below_alloc | apply pw_below_drewN | apply below_drew1) | exact HB.out)) hb); clear HB; have HB := n0_; clear n0_; (try clear hb); (try clear hb2); (try clear hk); (try clear hi)) | ((with_reducible refine gate_callee (f := 19) rfl ?_); refine goesL_ (some 46) rfl rfl Tryd.func19 (by kernel_rfl) rfl #[] rfl (by (try simp only [List.map_toArray, List.map_cons, List.map_nil]); first | done | rfl | (simp only [List.length_drop, List.length_take]; rfl)) ?_; (with_reducible refine (doorwardlaw14_alive.calls  true _ ?side1 A11.out).mono ?_); (case side1 => exact LaidAt.of HLD.out (by repeat (first | (with_reducible first | exact HB.out | apply below_alloc | apply pw_below_drewN | apply below_drew1) | exact HB.out))); rintro e w42 ⟨rfl, hb⟩; refine ⟨_, rfl, ?_⟩; have n0_ := Aside0.mk (below_step (by repeat (first | (with_reducible first | exact HB.out | apply below_alloc | apply pw_below_drewN | apply below_drew1) | exact HB.out)) hb); clear HB; have HB := n0_; clear n0_; (try clear hb); (try clear hb2); (try clear hk); (try clear hi)))
                    go_ret
                    exact ⟨by first | rfl | (simp [errW_none, errW_some] <;> rfl) | (simp [*, errW_none, errW_some] <;> rfl), by repeat (first | (with_reducible first | exact HB.out | apply below_alloc | apply pw_below_drewN | apply below_drew1) | exact HB.out)⟩
              · rw [if_neg c16] at H
                have c16b0 : (t117 == a0) = false := beq_eq_false_iff_ne.mpr c16
                have c16b1 : (t117 != a0) = true := bne_iff_ne.mpr c16
                obtain rfl := Option.some.inj H
                go_enter Tryd.func7, Tryd.ntmps7
                go_wp2_with (first | ((with_reducible refine gate_callee (f := 21) rfl ?_); refine goesL_ (some 16) rfl rfl Tryd.func21 (by kernel_rfl) rfl #[.int .u64 a0, .int .i64 10] rfl (by (try simp only [List.map_toArray, List.map_cons, List.map_nil]); first | done | rfl | (simp only [List.length_drop, List.length_take]; rfl)) ?_; (with_reducible refine (strconv_FormatUint.calls a0 10 t113 _ ?side1 A2.out).mono ?_); (case side1 => exact LaidAt.of HLD.out (by repeat (first | (with_reducible first | exact HB.out | apply below_alloc | apply pw_below_drewN | apply below_drew1) | exact HB.out))); rintro e w43 ⟨rfl, hb⟩; refine ⟨_, rfl, ?_⟩; have n0_ := Aside0.mk (below_step (by repeat (first | (with_reducible first | exact HB.out | apply below_alloc | apply pw_below_drewN | apply below_drew1) | exact HB.out)) hb); clear HB; have HB := n0_; clear n0_; (try clear hb); (try clear hb2); (try clear hk); (try clear hi)) | ((with_reducible refine gate_callee (f := 21) rfl ?_); refine goesL_ (some 18) rfl rfl Tryd.func21 (by kernel_rfl) rfl #[.int .u64 a0, .int .i64 16] rfl (by (try simp only [List.map_toArray, List.map_cons, List.map_nil]); first | done | rfl | (simp only [List.length_drop, List.length_take]; rfl)) ?_; (with_reducible refine (strconv_FormatUint.calls a0 16 t114 _ ?side1 A3.out).mono ?_); (case side1 => exact LaidAt.of HLD.out (by repeat (first | (with_reducible first | exact HB.out | apply below_alloc | apply pw_below_drewN | apply below_drew1) | exact HB.out))); rintro e w44 ⟨rfl, hb⟩; refine ⟨_, rfl, ?_⟩; have n0_ := Aside0.mk (below_step (by repeat (first | (with_reducible first | exact HB.out | apply below_alloc | apply pw_below_drewN | apply below_drew1) | exact HB.out)) hb); clear HB; have HB := n0_; clear n0_; (try clear hb); (try clear hb2); (try clear hk); (try clear hi)) | ((with_reducible refine gate_callee (f := 17) rfl ?_); refine goesL_ (some 21) rfl rfl Tryd.func17 (by kernel_rfl) rfl #[.string t113] rfl (by (try simp only [List.map_toArray, List.map_cons, List.map_nil]); first | done | rfl | (simp only [List.length_drop, List.length_take]; rfl)) ?_; (with_reducible refine (lex_Number.calls t113 t115 true _ ?side1 A4.out).mono ?_); (case side1 => exact LaidAt.of HLD.out (by repeat (first | (with_reducible first | exact HB.out | apply below_alloc | apply pw_below_drewN | apply below_drew1) | exact HB.out))); rintro e w45 ⟨rfl, hb⟩; refine ⟨_, rfl, ?_⟩; have n0_ := Aside0.mk (below_step (by repeat (first | (with_reducible first | exact HB.out | apply below_alloc | apply pw_below_drewN | apply below_drew1) | exact HB.out)) hb); clear HB; have HB := n0_; clear n0_; (try clear hb); (try clear hb2); (try clear hk); (try clear hi)) | ((with_reducible refine gate_callee (f := 17) rfl ?_); refine goesL_ (some 27) rfl rfl Tryd.func17 (by kernel_rfl) rfl #[.string ((⟨#[48, 120]⟩ : ByteArray) ++ t114)] rfl (by (try simp only [List.map_toArray, List.map_cons, List.map_nil]); first | done | rfl | (simp only [List.length_drop, List.length_take]; rfl)) ?_; (with_reducible refine (lex_Number.calls ((⟨#[48, 120]⟩ : ByteArray) ++ t114) t117 true _ ?side1 A6.out).mono ?_); (case side1 => exact LaidAt.of HLD.out (by repeat (first | (with_reducible first | exact HB.out | apply below_alloc | apply pw_below_drewN | apply below_drew1) | exact HB.out))); rintro e w46 ⟨rfl, hb⟩; refine ⟨_, rfl, ?_⟩; have n0_ := Aside0.mk (below_step (by repeat (first | (with_reducible first | exact HB.out | apply below_alloc | apply pw_below_drewN | apply below_drew1) | exact HB.out)) hb); clear HB; have HB := n0_; clear n0_; (try clear hb); (try clear hb2); (try clear hk); (try clear hi)) | ((with_reducible refine gate_callee (f := 17) rfl ?_); refine goesL_ (some 33) rfl rfl Tryd.func17 (by kernel_rfl) rfl #[.string ((⟨#[48]⟩ : ByteArray) ++ t113)] rfl (by (try simp only [List.map_toArray, List.map_cons, List.map_nil]); first | done | rfl | (simp only [List.length_drop, List.length_take]; rfl)) ?_; (with_reducible refine (lex_Number.calls ((⟨#[48]⟩ : ByteArray) ++ t113) t119 t120 _ ?side1 A8.out).mono ?_); (case side1 => exact LaidAt.of HLD.out (by repeat (first | (with_reducible first | exact HB.out | apply below_alloc | apply pw_below_drewN | apply below_drew1) | exact HB.out))); rintro e w47 ⟨rfl, hb⟩; refine ⟨_, rfl, ?_⟩; have n0_ := Aside0.mk (below_step (by repeat (first | (with_reducible first | exact HB.out | apply below_alloc | apply pw_below_drewN | apply below_drew1) | exact HB.out)) hb); clear HB; have HB := n0_; clear n0_; (try clear hb); (try clear hb2); (try clear hk); (try clear hi)) | ((with_reducible refine gate_callee (f := 17) rfl ?_); refine goesL_ (some 39) rfl rfl Tryd.func17 (by kernel_rfl) rfl #[.string ((⟨#[45]⟩ : ByteArray) ++ t113)] rfl (by (try simp only [List.map_toArray, List.map_cons, List.map_nil]); first | done | rfl | (simp only [List.length_drop, List.length_take]; rfl)) ?_; (with_reducible refine (lex_Number.calls ((⟨#[45]⟩ : ByteArray) ++ t113) t121 t122 _ ?side1 A9.out).mono ?_); (case side1 => exact LaidAt.of HLD.out (by repeat (first | (with_reducible first | exact HB.out | apply below_alloc | apply pw_below_drewN | apply below_drew1) | exact HB.out))); rintro e w48 ⟨rfl, hb⟩; refine ⟨_, rfl, ?_⟩; have n0_ := Aside0.mk (below_step (by repeat (first | (with_reducible first | exact HB.out | apply below_alloc | apply pw_below_drewN | apply below_drew1) | exact HB.out)) hb); clear HB; have HB := n0_; clear n0_; (try clear hb); (try clear hb2); (try clear hk); (try clear hi)) | ((with_reducible refine gate_callee (f := 17) rfl ?_); refine goesL_ (some 43) rfl rfl Tryd.func17 (by kernel_rfl) rfl #[.string (⟨#[48, 120]⟩ : ByteArray)] rfl (by (try simp only [List.map_toArray, List.map_cons, List.map_nil]); first | done | rfl | (simp only [List.length_drop, List.length_take]; rfl)) ?_; (with_reducible refine (lex_Number.calls (⟨#[48, 120]⟩ : ByteArray) t123 t124 _ ?side1 A10.out).mono ?_); (case side1 => exact LaidAt.of HLD.out (by repeat (first | (with_reducible first | exact HB.out | apply below_alloc | apply pw_below_drewN | apply below_drew1) | exact HB.out))); rintro e w49 ⟨rfl, hb⟩; refine ⟨_, rfl, ?_⟩; have n0_ := Aside0.mk (below_step (by repeat (first | (with_reducible first | exact HB.out | apply below_alloc | apply pw_below_drewN | apply below_drew1) | exact HB.out)) hb); clear HB; have HB := n0_; clear n0_; (try clear hb); (try clear hb2); (try clear hk); (try clear hi)) | ((with_reducible refine gate_callee (f := 19) rfl ?_); refine goesL_ (some 46) rfl rfl Tryd.func19 (by kernel_rfl) rfl #[] rfl (by (try simp only [List.map_toArray, List.map_cons, List.map_nil]); first | done | rfl | (simp only [List.length_drop, List.length_take]; rfl)) ?_; (with_reducible refine (doorwardlaw14_alive.calls  true _ ?side1 A11.out).mono ?_); (case side1 => exact LaidAt.of HLD.out (by repeat (first | (with_reducible first | exact HB.out | apply below_alloc | apply pw_below_drewN | apply below_drew1) | exact HB.out))); rintro e w50 ⟨rfl, hb⟩; refine ⟨_, rfl, ?_⟩; have n0_ := Aside0.mk (below_step (by repeat (first | (with_reducible first | exact HB.out | apply below_alloc | apply pw_below_drewN | apply below_drew1) | exact HB.out)) hb); clear HB; have HB := n0_; clear n0_; (try clear hb); (try clear hb2); (try clear hk); (try clear hi)))
                go_ret
                exact ⟨by first | rfl | (simp [errW_none, errW_some] <;> rfl) | (simp [*, errW_none, errW_some] <;> rfl), by repeat (first | (with_reducible first | exact HB.out | apply below_alloc | apply pw_below_drewN | apply below_drew1) | exact HB.out)⟩
            · rw [if_neg c15] at H
              have c15b0 : (t115 == a0) = false := beq_eq_false_iff_ne.mpr c15
              have c15b1 : (t115 != a0) = true := bne_iff_ne.mpr c15
              obtain rfl := Option.some.inj H
              go_enter Tryd.func7, Tryd.ntmps7
              go_wp2_with (first | ((with_reducible refine gate_callee (f := 21) rfl ?_); refine goesL_ (some 16) rfl rfl Tryd.func21 (by kernel_rfl) rfl #[.int .u64 a0, .int .i64 10] rfl (by (try simp only [List.map_toArray, List.map_cons, List.map_nil]); first | done | rfl | (simp only [List.length_drop, List.length_take]; rfl)) ?_; (with_reducible refine (strconv_FormatUint.calls a0 10 t113 _ ?side1 A2.out).mono ?_); (case side1 => exact LaidAt.of HLD.out (by repeat (first | (with_reducible first | exact HB.out | apply below_alloc | apply pw_below_drewN | apply below_drew1) | exact HB.out))); rintro e w51 ⟨rfl, hb⟩; refine ⟨_, rfl, ?_⟩; have n0_ := Aside0.mk (below_step (by repeat (first | (with_reducible first | exact HB.out | apply below_alloc | apply pw_below_drewN | apply below_drew1) | exact HB.out)) hb); clear HB; have HB := n0_; clear n0_; (try clear hb); (try clear hb2); (try clear hk); (try clear hi)) | ((with_reducible refine gate_callee (f := 21) rfl ?_); refine goesL_ (some 18) rfl rfl Tryd.func21 (by kernel_rfl) rfl #[.int .u64 a0, .int .i64 16] rfl (by (try simp only [List.map_toArray, List.map_cons, List.map_nil]); first | done | rfl | (simp only [List.length_drop, List.length_take]; rfl)) ?_; (with_reducible refine (strconv_FormatUint.calls a0 16 t114 _ ?side1 A3.out).mono ?_); (case side1 => exact LaidAt.of HLD.out (by repeat (first | (with_reducible first | exact HB.out | apply below_alloc | apply pw_below_drewN | apply below_drew1) | exact HB.out))); rintro e w52 ⟨rfl, hb⟩; refine ⟨_, rfl, ?_⟩; have n0_ := Aside0.mk (below_step (by repeat (first | (with_reducible first | exact HB.out | apply below_alloc | apply pw_below_drewN | apply below_drew1) | exact HB.out)) hb); clear HB; have HB := n0_; clear n0_; (try clear hb); (try clear hb2); (try clear hk); (try clear hi)) | ((with_reducible refine gate_callee (f := 17) rfl ?_); refine goesL_ (some 21) rfl rfl Tryd.func17 (by kernel_rfl) rfl #[.string t113] rfl (by (try simp only [List.map_toArray, List.map_cons, List.map_nil]); first | done | rfl | (simp only [List.length_drop, List.length_take]; rfl)) ?_; (with_reducible refine (lex_Number.calls t113 t115 true _ ?side1 A4.out).mono ?_); (case side1 => exact LaidAt.of HLD.out (by repeat (first | (with_reducible first | exact HB.out | apply below_alloc | apply pw_below_drewN | apply below_drew1) | exact HB.out))); rintro e w53 ⟨rfl, hb⟩; refine ⟨_, rfl, ?_⟩; have n0_ := Aside0.mk (below_step (by repeat (first | (with_reducible first | exact HB.out | apply below_alloc | apply pw_below_drewN | apply below_drew1) | exact HB.out)) hb); clear HB; have HB := n0_; clear n0_; (try clear hb); (try clear hb2); (try clear hk); (try clear hi)) | ((with_reducible refine gate_callee (f := 17) rfl ?_); refine goesL_ (some 27) rfl rfl Tryd.func17 (by kernel_rfl) rfl #[.string ((⟨#[48, 120]⟩ : ByteArray) ++ t114)] rfl (by (try simp only [List.map_toArray, List.map_cons, List.map_nil]); first | done | rfl | (simp only [List.length_drop, List.length_take]; rfl)) ?_; (with_reducible refine (lex_Number.calls ((⟨#[48, 120]⟩ : ByteArray) ++ t114) t117 true _ ?side1 A6.out).mono ?_); (case side1 => exact LaidAt.of HLD.out (by repeat (first | (with_reducible first | exact HB.out | apply below_alloc | apply pw_below_drewN | apply below_drew1) | exact HB.out))); rintro e w54 ⟨rfl, hb⟩; refine ⟨_, rfl, ?_⟩; have n0_ := Aside0.mk (below_step (by repeat (first | (with_reducible first | exact HB.out | apply below_alloc | apply pw_below_drewN | apply below_drew1) | exact HB.out)) hb); clear HB; have HB := n0_; clear n0_; (try clear hb); (try clear hb2); (try clear hk); (try clear hi)) | ((with_reducible refine gate_callee (f := 17) rfl ?_); refine goesL_ (some 33) rfl rfl Tryd.func17 (by kernel_rfl) rfl #[.string ((⟨#[48]⟩ : ByteArray) ++ t113)] rfl (by (try simp only [List.map_toArray, List.map_cons, List.map_nil]); first | done | rfl | (simp only [List.length_drop, List.length_take]; rfl)) ?_; (with_reducible refine (lex_Number.calls ((⟨#[48]⟩ : ByteArray) ++ t113) t119 t120 _ ?side1 A8.out).mono ?_); (case side1 => exact LaidAt.of HLD.out (by repeat (first | (with_reducible first | exact HB.out | apply below_alloc | apply pw_below_drewN | apply below_drew1) | exact HB.out))); rintro e w55 ⟨rfl, hb⟩; refine ⟨_, rfl, ?_⟩; have n0_ := Aside0.mk (below_step (by repeat (first | (with_reducible first | exact HB.out | apply below_alloc | apply pw_below_drewN | apply below_drew1) | exact HB.out)) hb); clear HB; have HB := n0_; clear n0_; (try clear hb); (try clear hb2); (try clear hk); (try clear hi)) | ((with_reducible refine gate_callee (f := 17) rfl ?_); refine goesL_ (some 39) rfl rfl Tryd.func17 (by kernel_rfl) rfl #[.string ((⟨#[45]⟩ : ByteArray) ++ t113)] rfl (by (try simp only [List.map_toArray, List.map_cons, List.map_nil]); first | done | rfl | (simp only [List.length_drop, List.length_take]; rfl)) ?_; (with_reducible refine (lex_Number.calls ((⟨#[45]⟩ : ByteArray) ++ t113) t121 t122 _ ?side1 A9.out).mono ?_); (case side1 => exact LaidAt.of HLD.out (by repeat (first | (with_reducible first | exact HB.out | apply below_alloc | apply pw_below_drewN | apply below_drew1) | exact HB.out))); rintro e w56 ⟨rfl, hb⟩; refine ⟨_, rfl, ?_⟩; have n0_ := Aside0.mk (below_step (by repeat (first | (with_reducible first | exact HB.out | apply below_alloc | apply pw_below_drewN | apply below_drew1) | exact HB.out)) hb); clear HB; have HB := n0_; clear n0_; (try clear hb); (try clear hb2); (try clear hk); (try clear hi)) | ((with_reducible refine gate_callee (f := 17) rfl ?_); refine goesL_ (some 43) rfl rfl Tryd.func17 (by kernel_rfl) rfl #[.string (⟨#[48, 120]⟩ : ByteArray)] rfl (by (try simp only [List.map_toArray, List.map_cons, List.map_nil]); first | done | rfl | (simp only [List.length_drop, List.length_take]; rfl)) ?_; (with_reducible refine (lex_Number.calls (⟨#[48, 120]⟩ : ByteArray) t123 t124 _ ?side1 A10.out).mono ?_); (case side1 => exact LaidAt.of HLD.out (by repeat (first | (with_reducible first | exact HB.out | apply below_alloc | apply pw_below_drewN | apply below_drew1) | exact HB.out))); rintro e w57 ⟨rfl, hb⟩; refine ⟨_, rfl, ?_⟩; have n0_ := Aside0.mk (below_step (by repeat (first | (with_reducible first | exact HB.out | apply below_alloc | apply pw_below_drewN | apply below_drew1) | exact HB.out)) hb); clear HB; have HB := n0_; clear n0_; (try clear hb); (try clear hb2); (try clear hk); (try clear hi)) | ((with_reducible refine gate_callee (f := 19) rfl ?_); refine goesL_ (some 46) rfl rfl Tryd.func19 (by kernel_rfl) rfl #[] rfl (by (try simp only [List.map_toArray, List.map_cons, List.map_nil]); first | done | rfl | (simp only [List.length_drop, List.length_take]; rfl)) ?_; (with_reducible refine (doorwardlaw14_alive.calls  true _ ?side1 A11.out).mono ?_); (case side1 => exact LaidAt.of HLD.out (by repeat (first | (with_reducible first | exact HB.out | apply below_alloc | apply pw_below_drewN | apply below_drew1) | exact HB.out))); rintro e w58 ⟨rfl, hb⟩; refine ⟨_, rfl, ?_⟩; have n0_ := Aside0.mk (below_step (by repeat (first | (with_reducible first | exact HB.out | apply below_alloc | apply pw_below_drewN | apply below_drew1) | exact HB.out)) hb); clear HB; have HB := n0_; clear n0_; (try clear hb); (try clear hb2); (try clear hk); (try clear hi)))
              go_ret
              exact ⟨by first | rfl | (simp [errW_none, errW_some] <;> rfl) | (simp [*, errW_none, errW_some] <;> rfl), by repeat (first | (with_reducible first | exact HB.out | apply below_alloc | apply pw_below_drewN | apply below_drew1) | exact HB.out)⟩
          · replace c14 := Bool.eq_false_iff.mpr c14
            subst c14
            have H1 : (some false) = some r := by rw [if_neg (show ¬ (false = true) by decide)] at H; exact H
            clear H
            have H := H1
            clear H1
            obtain rfl := Option.some.inj H
            go_enter Tryd.func7, Tryd.ntmps7
            go_wp2_with (first | ((with_reducible refine gate_callee (f := 21) rfl ?_); refine goesL_ (some 16) rfl rfl Tryd.func21 (by kernel_rfl) rfl #[.int .u64 a0, .int .i64 10] rfl (by (try simp only [List.map_toArray, List.map_cons, List.map_nil]); first | done | rfl | (simp only [List.length_drop, List.length_take]; rfl)) ?_; (with_reducible refine (strconv_FormatUint.calls a0 10 t113 _ ?side1 A2.out).mono ?_); (case side1 => exact LaidAt.of HLD.out (by repeat (first | (with_reducible first | exact HB.out | apply below_alloc | apply pw_below_drewN | apply below_drew1) | exact HB.out))); rintro e w59 ⟨rfl, hb⟩; refine ⟨_, rfl, ?_⟩; have n0_ := Aside0.mk (below_step (by repeat (first | (with_reducible first | exact HB.out | apply below_alloc | apply pw_below_drewN | apply below_drew1) | exact HB.out)) hb); clear HB; have HB := n0_; clear n0_; (try clear hb); (try clear hb2); (try clear hk); (try clear hi)) | ((with_reducible refine gate_callee (f := 21) rfl ?_); refine goesL_ (some 18) rfl rfl Tryd.func21 (by kernel_rfl) rfl #[.int .u64 a0, .int .i64 16] rfl (by (try simp only [List.map_toArray, List.map_cons, List.map_nil]); first | done | rfl | (simp only [List.length_drop, List.length_take]; rfl)) ?_; (with_reducible refine (strconv_FormatUint.calls a0 16 t114 _ ?side1 A3.out).mono ?_); (case side1 => exact LaidAt.of HLD.out (by repeat (first | (with_reducible first | exact HB.out | apply below_alloc | apply pw_below_drewN | apply below_drew1) | exact HB.out))); rintro e w60 ⟨rfl, hb⟩; refine ⟨_, rfl, ?_⟩; have n0_ := Aside0.mk (below_step (by repeat (first | (with_reducible first | exact HB.out | apply below_alloc | apply pw_below_drewN | apply below_drew1) | exact HB.out)) hb); clear HB; have HB := n0_; clear n0_; (try clear hb); (try clear hb2); (try clear hk); (try clear hi)) | ((with_reducible refine gate_callee (f := 17) rfl ?_); refine goesL_ (some 21) rfl rfl Tryd.func17 (by kernel_rfl) rfl #[.string t113] rfl (by (try simp only [List.map_toArray, List.map_cons, List.map_nil]); first | done | rfl | (simp only [List.length_drop, List.length_take]; rfl)) ?_; (with_reducible refine (lex_Number.calls t113 t115 true _ ?side1 A4.out).mono ?_); (case side1 => exact LaidAt.of HLD.out (by repeat (first | (with_reducible first | exact HB.out | apply below_alloc | apply pw_below_drewN | apply below_drew1) | exact HB.out))); rintro e w61 ⟨rfl, hb⟩; refine ⟨_, rfl, ?_⟩; have n0_ := Aside0.mk (below_step (by repeat (first | (with_reducible first | exact HB.out | apply below_alloc | apply pw_below_drewN | apply below_drew1) | exact HB.out)) hb); clear HB; have HB := n0_; clear n0_; (try clear hb); (try clear hb2); (try clear hk); (try clear hi)) | ((with_reducible refine gate_callee (f := 17) rfl ?_); refine goesL_ (some 27) rfl rfl Tryd.func17 (by kernel_rfl) rfl #[.string ((⟨#[48, 120]⟩ : ByteArray) ++ t114)] rfl (by (try simp only [List.map_toArray, List.map_cons, List.map_nil]); first | done | rfl | (simp only [List.length_drop, List.length_take]; rfl)) ?_; (with_reducible refine (lex_Number.calls ((⟨#[48, 120]⟩ : ByteArray) ++ t114) t117 false _ ?side1 A6.out).mono ?_); (case side1 => exact LaidAt.of HLD.out (by repeat (first | (with_reducible first | exact HB.out | apply below_alloc | apply pw_below_drewN | apply below_drew1) | exact HB.out))); rintro e w62 ⟨rfl, hb⟩; refine ⟨_, rfl, ?_⟩; have n0_ := Aside0.mk (below_step (by repeat (first | (with_reducible first | exact HB.out | apply below_alloc | apply pw_below_drewN | apply below_drew1) | exact HB.out)) hb); clear HB; have HB := n0_; clear n0_; (try clear hb); (try clear hb2); (try clear hk); (try clear hi)) | ((with_reducible refine gate_callee (f := 17) rfl ?_); refine goesL_ (some 33) rfl rfl Tryd.func17 (by kernel_rfl) rfl #[.string ((⟨#[48]⟩ : ByteArray) ++ t113)] rfl (by (try simp only [List.map_toArray, List.map_cons, List.map_nil]); first | done | rfl | (simp only [List.length_drop, List.length_take]; rfl)) ?_; (with_reducible refine (lex_Number.calls ((⟨#[48]⟩ : ByteArray) ++ t113) t119 t120 _ ?side1 A8.out).mono ?_); (case side1 => exact LaidAt.of HLD.out (by repeat (first | (with_reducible first | exact HB.out | apply below_alloc | apply pw_below_drewN | apply below_drew1) | exact HB.out))); rintro e w63 ⟨rfl, hb⟩; refine ⟨_, rfl, ?_⟩; have n0_ := Aside0.mk (below_step (by repeat (first | (with_reducible first | exact HB.out | apply below_alloc | apply pw_below_drewN | apply below_drew1) | exact HB.out)) hb); clear HB; have HB := n0_; clear n0_; (try clear hb); (try clear hb2); (try clear hk); (try clear hi)) | ((with_reducible refine gate_callee (f := 17) rfl ?_); refine goesL_ (some 39) rfl rfl Tryd.func17 (by kernel_rfl) rfl #[.string ((⟨#[45]⟩ : ByteArray) ++ t113)] rfl (by (try simp only [List.map_toArray, List.map_cons, List.map_nil]); first | done | rfl | (simp only [List.length_drop, List.length_take]; rfl)) ?_; (with_reducible refine (lex_Number.calls ((⟨#[45]⟩ : ByteArray) ++ t113) t121 t122 _ ?side1 A9.out).mono ?_); (case side1 => exact LaidAt.of HLD.out (by repeat (first | (with_reducible first | exact HB.out | apply below_alloc | apply pw_below_drewN | apply below_drew1) | exact HB.out))); rintro e w64 ⟨rfl, hb⟩; refine ⟨_, rfl, ?_⟩; have n0_ := Aside0.mk (below_step (by repeat (first | (with_reducible first | exact HB.out | apply below_alloc | apply pw_below_drewN | apply below_drew1) | exact HB.out)) hb); clear HB; have HB := n0_; clear n0_; (try clear hb); (try clear hb2); (try clear hk); (try clear hi)) | ((with_reducible refine gate_callee (f := 17) rfl ?_); refine goesL_ (some 43) rfl rfl Tryd.func17 (by kernel_rfl) rfl #[.string (⟨#[48, 120]⟩ : ByteArray)] rfl (by (try simp only [List.map_toArray, List.map_cons, List.map_nil]); first | done | rfl | (simp only [List.length_drop, List.length_take]; rfl)) ?_; (with_reducible refine (lex_Number.calls (⟨#[48, 120]⟩ : ByteArray) t123 t124 _ ?side1 A10.out).mono ?_); (case side1 => exact LaidAt.of HLD.out (by repeat (first | (with_reducible first | exact HB.out | apply below_alloc | apply pw_below_drewN | apply below_drew1) | exact HB.out))); rintro e w65 ⟨rfl, hb⟩; refine ⟨_, rfl, ?_⟩; have n0_ := Aside0.mk (below_step (by repeat (first | (with_reducible first | exact HB.out | apply below_alloc | apply pw_below_drewN | apply below_drew1) | exact HB.out)) hb); clear HB; have HB := n0_; clear n0_; (try clear hb); (try clear hb2); (try clear hk); (try clear hi)) | ((with_reducible refine gate_callee (f := 19) rfl ?_); refine goesL_ (some 46) rfl rfl Tryd.func19 (by kernel_rfl) rfl #[] rfl (by (try simp only [List.map_toArray, List.map_cons, List.map_nil]); first | done | rfl | (simp only [List.length_drop, List.length_take]; rfl)) ?_; (with_reducible refine (doorwardlaw14_alive.calls  true _ ?side1 A11.out).mono ?_); (case side1 => exact LaidAt.of HLD.out (by repeat (first | (with_reducible first | exact HB.out | apply below_alloc | apply pw_below_drewN | apply below_drew1) | exact HB.out))); rintro e w66 ⟨rfl, hb⟩; refine ⟨_, rfl, ?_⟩; have n0_ := Aside0.mk (below_step (by repeat (first | (with_reducible first | exact HB.out | apply below_alloc | apply pw_below_drewN | apply below_drew1) | exact HB.out)) hb); clear HB; have HB := n0_; clear n0_; (try clear hb); (try clear hb2); (try clear hk); (try clear hi)))
            go_ret
            exact ⟨by first | rfl | (simp [errW_none, errW_some] <;> rfl) | (simp [*, errW_none, errW_some] <;> rfl), by repeat (first | (with_reducible first | exact HB.out | apply below_alloc | apply pw_below_drewN | apply below_drew1) | exact HB.out)⟩
        · replace c13 := Bool.eq_false_iff.mpr c13
          subst c13
          have H1 : (some false) = some r := by rw [if_neg (show ¬ (false = true) by decide)] at H; exact H
          clear H
          have H := H1
          clear H1
          obtain rfl := Option.some.inj H
          go_enter Tryd.func7, Tryd.ntmps7
          go_wp2_with (first | ((with_reducible refine gate_callee (f := 21) rfl ?_); refine goesL_ (some 16) rfl rfl Tryd.func21 (by kernel_rfl) rfl #[.int .u64 a0, .int .i64 10] rfl (by (try simp only [List.map_toArray, List.map_cons, List.map_nil]); first | done | rfl | (simp only [List.length_drop, List.length_take]; rfl)) ?_; (with_reducible refine (strconv_FormatUint.calls a0 10 t113 _ ?side1 A2.out).mono ?_); (case side1 => exact LaidAt.of HLD.out (by repeat (first | (with_reducible first | exact HB.out | apply below_alloc | apply pw_below_drewN | apply below_drew1) | exact HB.out))); rintro e w67 ⟨rfl, hb⟩; refine ⟨_, rfl, ?_⟩; have n0_ := Aside0.mk (below_step (by repeat (first | (with_reducible first | exact HB.out | apply below_alloc | apply pw_below_drewN | apply below_drew1) | exact HB.out)) hb); clear HB; have HB := n0_; clear n0_; (try clear hb); (try clear hb2); (try clear hk); (try clear hi)) | ((with_reducible refine gate_callee (f := 21) rfl ?_); refine goesL_ (some 18) rfl rfl Tryd.func21 (by kernel_rfl) rfl #[.int .u64 a0, .int .i64 16] rfl (by (try simp only [List.map_toArray, List.map_cons, List.map_nil]); first | done | rfl | (simp only [List.length_drop, List.length_take]; rfl)) ?_; (with_reducible refine (strconv_FormatUint.calls a0 16 t114 _ ?side1 A3.out).mono ?_); (case side1 => exact LaidAt.of HLD.out (by repeat (first | (with_reducible first | exact HB.out | apply below_alloc | apply pw_below_drewN | apply below_drew1) | exact HB.out))); rintro e w68 ⟨rfl, hb⟩; refine ⟨_, rfl, ?_⟩; have n0_ := Aside0.mk (below_step (by repeat (first | (with_reducible first | exact HB.out | apply below_alloc | apply pw_below_drewN | apply below_drew1) | exact HB.out)) hb); clear HB; have HB := n0_; clear n0_; (try clear hb); (try clear hb2); (try clear hk); (try clear hi)) | ((with_reducible refine gate_callee (f := 17) rfl ?_); refine goesL_ (some 21) rfl rfl Tryd.func17 (by kernel_rfl) rfl #[.string t113] rfl (by (try simp only [List.map_toArray, List.map_cons, List.map_nil]); first | done | rfl | (simp only [List.length_drop, List.length_take]; rfl)) ?_; (with_reducible refine (lex_Number.calls t113 t115 false _ ?side1 A4.out).mono ?_); (case side1 => exact LaidAt.of HLD.out (by repeat (first | (with_reducible first | exact HB.out | apply below_alloc | apply pw_below_drewN | apply below_drew1) | exact HB.out))); rintro e w69 ⟨rfl, hb⟩; refine ⟨_, rfl, ?_⟩; have n0_ := Aside0.mk (below_step (by repeat (first | (with_reducible first | exact HB.out | apply below_alloc | apply pw_below_drewN | apply below_drew1) | exact HB.out)) hb); clear HB; have HB := n0_; clear n0_; (try clear hb); (try clear hb2); (try clear hk); (try clear hi)) | ((with_reducible refine gate_callee (f := 17) rfl ?_); refine goesL_ (some 27) rfl rfl Tryd.func17 (by kernel_rfl) rfl #[.string ((⟨#[48, 120]⟩ : ByteArray) ++ t114)] rfl (by (try simp only [List.map_toArray, List.map_cons, List.map_nil]); first | done | rfl | (simp only [List.length_drop, List.length_take]; rfl)) ?_; (with_reducible refine (lex_Number.calls ((⟨#[48, 120]⟩ : ByteArray) ++ t114) t117 t118 _ ?side1 A6.out).mono ?_); (case side1 => exact LaidAt.of HLD.out (by repeat (first | (with_reducible first | exact HB.out | apply below_alloc | apply pw_below_drewN | apply below_drew1) | exact HB.out))); rintro e w70 ⟨rfl, hb⟩; refine ⟨_, rfl, ?_⟩; have n0_ := Aside0.mk (below_step (by repeat (first | (with_reducible first | exact HB.out | apply below_alloc | apply pw_below_drewN | apply below_drew1) | exact HB.out)) hb); clear HB; have HB := n0_; clear n0_; (try clear hb); (try clear hb2); (try clear hk); (try clear hi)) | ((with_reducible refine gate_callee (f := 17) rfl ?_); refine goesL_ (some 33) rfl rfl Tryd.func17 (by kernel_rfl) rfl #[.string ((⟨#[48]⟩ : ByteArray) ++ t113)] rfl (by (try simp only [List.map_toArray, List.map_cons, List.map_nil]); first | done | rfl | (simp only [List.length_drop, List.length_take]; rfl)) ?_; (with_reducible refine (lex_Number.calls ((⟨#[48]⟩ : ByteArray) ++ t113) t119 t120 _ ?side1 A8.out).mono ?_); (case side1 => exact LaidAt.of HLD.out (by repeat (first | (with_reducible first | exact HB.out | apply below_alloc | apply pw_below_drewN | apply below_drew1) | exact HB.out))); rintro e w71 ⟨rfl, hb⟩; refine ⟨_, rfl, ?_⟩; have n0_ := Aside0.mk (below_step (by repeat (first | (with_reducible first | exact HB.out | apply below_alloc | apply pw_below_drewN | apply below_drew1) | exact HB.out)) hb); clear HB; have HB := n0_; clear n0_; (try clear hb); (try clear hb2); (try clear hk); (try clear hi)) | ((with_reducible refine gate_callee (f := 17) rfl ?_); refine goesL_ (some 39) rfl rfl Tryd.func17 (by kernel_rfl) rfl #[.string ((⟨#[45]⟩ : ByteArray) ++ t113)] rfl (by (try simp only [List.map_toArray, List.map_cons, List.map_nil]); first | done | rfl | (simp only [List.length_drop, List.length_take]; rfl)) ?_; (with_reducible refine (lex_Number.calls ((⟨#[45]⟩ : ByteArray) ++ t113) t121 t122 _ ?side1 A9.out).mono ?_); (case side1 => exact LaidAt.of HLD.out (by repeat (first | (with_reducible first | exact HB.out | apply below_alloc | apply pw_below_drewN | apply below_drew1) | exact HB.out))); rintro e w72 ⟨rfl, hb⟩; refine ⟨_, rfl, ?_⟩; have n0_ := Aside0.mk (below_step (by repeat (first | (with_reducible first | exact HB.out | apply below_alloc | apply pw_below_drewN | apply below_drew1) | exact HB.out)) hb); clear HB; have HB := n0_; clear n0_; (try clear hb); (try clear hb2); (try clear hk); (try clear hi)) | ((with_reducible refine gate_callee (f := 17) rfl ?_); refine goesL_ (some 43) rfl rfl Tryd.func17 (by kernel_rfl) rfl #[.string (⟨#[48, 120]⟩ : ByteArray)] rfl (by (try simp only [List.map_toArray, List.map_cons, List.map_nil]); first | done | rfl | (simp only [List.length_drop, List.length_take]; rfl)) ?_; (with_reducible refine (lex_Number.calls (⟨#[48, 120]⟩ : ByteArray) t123 t124 _ ?side1 A10.out).mono ?_); (case side1 => exact LaidAt.of HLD.out (by repeat (first | (with_reducible first | exact HB.out | apply below_alloc | apply pw_below_drewN | apply below_drew1) | exact HB.out))); rintro e w73 ⟨rfl, hb⟩; refine ⟨_, rfl, ?_⟩; have n0_ := Aside0.mk (below_step (by repeat (first | (with_reducible first | exact HB.out | apply below_alloc | apply pw_below_drewN | apply below_drew1) | exact HB.out)) hb); clear HB; have HB := n0_; clear n0_; (try clear hb); (try clear hb2); (try clear hk); (try clear hi)) | ((with_reducible refine gate_callee (f := 19) rfl ?_); refine goesL_ (some 46) rfl rfl Tryd.func19 (by kernel_rfl) rfl #[] rfl (by (try simp only [List.map_toArray, List.map_cons, List.map_nil]); first | done | rfl | (simp only [List.length_drop, List.length_take]; rfl)) ?_; (with_reducible refine (doorwardlaw14_alive.calls  true _ ?side1 A11.out).mono ?_); (case side1 => exact LaidAt.of HLD.out (by repeat (first | (with_reducible first | exact HB.out | apply below_alloc | apply pw_below_drewN | apply below_drew1) | exact HB.out))); rintro e w74 ⟨rfl, hb⟩; refine ⟨_, rfl, ?_⟩; have n0_ := Aside0.mk (below_step (by repeat (first | (with_reducible first | exact HB.out | apply below_alloc | apply pw_below_drewN | apply below_drew1) | exact HB.out)) hb); clear HB; have HB := n0_; clear n0_; (try clear hb); (try clear hb2); (try clear hk); (try clear hi)))
          go_ret
          exact ⟨by first | rfl | (simp [errW_none, errW_some] <;> rfl) | (simp [*, errW_none, errW_some] <;> rfl), by repeat (first | (with_reducible first | exact HB.out | apply below_alloc | apply pw_below_drewN | apply below_drew1) | exact HB.out)⟩
      · replace c12 := Bool.eq_false_iff.mpr c12
        subst c12
        have H1 : (some false) = some r := by rw [if_neg (show ¬ (false = true) by decide)] at H; exact H
        clear H
        have H := H1
        clear H1
        obtain rfl := Option.some.inj H
        go_enter Tryd.func7, Tryd.ntmps7
        go_wp2_with (first | ((with_reducible refine gate_callee (f := 21) rfl ?_); refine goesL_ (some 16) rfl rfl Tryd.func21 (by kernel_rfl) rfl #[.int .u64 a0, .int .i64 10] rfl (by (try simp only [List.map_toArray, List.map_cons, List.map_nil]); first | done | rfl | (simp only [List.length_drop, List.length_take]; rfl)) ?_; (with_reducible refine (strconv_FormatUint.calls a0 10 t113 _ ?side1 A2.out).mono ?_); (case side1 => exact LaidAt.of HLD.out (by repeat (first | (with_reducible first | exact HB.out | apply below_alloc | apply pw_below_drewN | apply below_drew1) | exact HB.out))); rintro e w75 ⟨rfl, hb⟩; refine ⟨_, rfl, ?_⟩; have n0_ := Aside0.mk (below_step (by repeat (first | (with_reducible first | exact HB.out | apply below_alloc | apply pw_below_drewN | apply below_drew1) | exact HB.out)) hb); clear HB; have HB := n0_; clear n0_; (try clear hb); (try clear hb2); (try clear hk); (try clear hi)) | ((with_reducible refine gate_callee (f := 21) rfl ?_); refine goesL_ (some 18) rfl rfl Tryd.func21 (by kernel_rfl) rfl #[.int .u64 a0, .int .i64 16] rfl (by (try simp only [List.map_toArray, List.map_cons, List.map_nil]); first | done | rfl | (simp only [List.length_drop, List.length_take]; rfl)) ?_; (with_reducible refine (strconv_FormatUint.calls a0 16 t114 _ ?side1 A3.out).mono ?_); (case side1 => exact LaidAt.of HLD.out (by repeat (first | (with_reducible first | exact HB.out | apply below_alloc | apply pw_below_drewN | apply below_drew1) | exact HB.out))); rintro e w76 ⟨rfl, hb⟩; refine ⟨_, rfl, ?_⟩; have n0_ := Aside0.mk (below_step (by repeat (first | (with_reducible first | exact HB.out | apply below_alloc | apply pw_below_drewN | apply below_drew1) | exact HB.out)) hb); clear HB; have HB := n0_; clear n0_; (try clear hb); (try clear hb2); (try clear hk); (try clear hi)) | ((with_reducible refine gate_callee (f := 17) rfl ?_); refine goesL_ (some 21) rfl rfl Tryd.func17 (by kernel_rfl) rfl #[.string t113] rfl (by (try simp only [List.map_toArray, List.map_cons, List.map_nil]); first | done | rfl | (simp only [List.length_drop, List.length_take]; rfl)) ?_; (with_reducible refine (lex_Number.calls t113 t115 t116 _ ?side1 A4.out).mono ?_); (case side1 => exact LaidAt.of HLD.out (by repeat (first | (with_reducible first | exact HB.out | apply below_alloc | apply pw_below_drewN | apply below_drew1) | exact HB.out))); rintro e w77 ⟨rfl, hb⟩; refine ⟨_, rfl, ?_⟩; have n0_ := Aside0.mk (below_step (by repeat (first | (with_reducible first | exact HB.out | apply below_alloc | apply pw_below_drewN | apply below_drew1) | exact HB.out)) hb); clear HB; have HB := n0_; clear n0_; (try clear hb); (try clear hb2); (try clear hk); (try clear hi)) | ((with_reducible refine gate_callee (f := 17) rfl ?_); refine goesL_ (some 27) rfl rfl Tryd.func17 (by kernel_rfl) rfl #[.string ((⟨#[48, 120]⟩ : ByteArray) ++ t114)] rfl (by (try simp only [List.map_toArray, List.map_cons, List.map_nil]); first | done | rfl | (simp only [List.length_drop, List.length_take]; rfl)) ?_; (with_reducible refine (lex_Number.calls ((⟨#[48, 120]⟩ : ByteArray) ++ t114) t117 t118 _ ?side1 A6.out).mono ?_); (case side1 => exact LaidAt.of HLD.out (by repeat (first | (with_reducible first | exact HB.out | apply below_alloc | apply pw_below_drewN | apply below_drew1) | exact HB.out))); rintro e w78 ⟨rfl, hb⟩; refine ⟨_, rfl, ?_⟩; have n0_ := Aside0.mk (below_step (by repeat (first | (with_reducible first | exact HB.out | apply below_alloc | apply pw_below_drewN | apply below_drew1) | exact HB.out)) hb); clear HB; have HB := n0_; clear n0_; (try clear hb); (try clear hb2); (try clear hk); (try clear hi)) | ((with_reducible refine gate_callee (f := 17) rfl ?_); refine goesL_ (some 33) rfl rfl Tryd.func17 (by kernel_rfl) rfl #[.string ((⟨#[48]⟩ : ByteArray) ++ t113)] rfl (by (try simp only [List.map_toArray, List.map_cons, List.map_nil]); first | done | rfl | (simp only [List.length_drop, List.length_take]; rfl)) ?_; (with_reducible refine (lex_Number.calls ((⟨#[48]⟩ : ByteArray) ++ t113) t119 t120 _ ?side1 A8.out).mono ?_); (case side1 => exact LaidAt.of HLD.out (by repeat (first | (with_reducible first | exact HB.out | apply below_alloc | apply pw_below_drewN | apply below_drew1) | exact HB.out))); rintro e w79 ⟨rfl, hb⟩; refine ⟨_, rfl, ?_⟩; have n0_ := Aside0.mk (below_step (by repeat (first | (with_reducible first | exact HB.out | apply below_alloc | apply pw_below_drewN | apply below_drew1) | exact HB.out)) hb); clear HB; have HB := n0_; clear n0_; (try clear hb); (try clear hb2); (try clear hk); (try clear hi)) | ((with_reducible refine gate_callee (f := 17) rfl ?_); refine goesL_ (some 39) rfl rfl Tryd.func17 (by kernel_rfl) rfl #[.string ((⟨#[45]⟩ : ByteArray) ++ t113)] rfl (by (try simp only [List.map_toArray, List.map_cons, List.map_nil]); first | done | rfl | (simp only [List.length_drop, List.length_take]; rfl)) ?_; (with_reducible refine (lex_Number.calls ((⟨#[45]⟩ : ByteArray) ++ t113) t121 t122 _ ?side1 A9.out).mono ?_); (case side1 => exact LaidAt.of HLD.out (by repeat (first | (with_reducible first | exact HB.out | apply below_alloc | apply pw_below_drewN | apply below_drew1) | exact HB.out))); rintro e w80 ⟨rfl, hb⟩; refine ⟨_, rfl, ?_⟩; have n0_ := Aside0.mk (below_step (by repeat (first | (with_reducible first | exact HB.out | apply below_alloc | apply pw_below_drewN | apply below_drew1) | exact HB.out)) hb); clear HB; have HB := n0_; clear n0_; (try clear hb); (try clear hb2); (try clear hk); (try clear hi)) | ((with_reducible refine gate_callee (f := 17) rfl ?_); refine goesL_ (some 43) rfl rfl Tryd.func17 (by kernel_rfl) rfl #[.string (⟨#[48, 120]⟩ : ByteArray)] rfl (by (try simp only [List.map_toArray, List.map_cons, List.map_nil]); first | done | rfl | (simp only [List.length_drop, List.length_take]; rfl)) ?_; (with_reducible refine (lex_Number.calls (⟨#[48, 120]⟩ : ByteArray) t123 t124 _ ?side1 A10.out).mono ?_); (case side1 => exact LaidAt.of HLD.out (by repeat (first | (with_reducible first | exact HB.out | apply below_alloc | apply pw_below_drewN | apply below_drew1) | exact HB.out))); rintro e w81 ⟨rfl, hb⟩; refine ⟨_, rfl, ?_⟩; have n0_ := Aside0.mk (below_step (by repeat (first | (with_reducible first | exact HB.out | apply below_alloc | apply pw_below_drewN | apply below_drew1) | exact HB.out)) hb); clear HB; have HB := n0_; clear n0_; (try clear hb); (try clear hb2); (try clear hk); (try clear hi)) | ((with_reducible refine gate_callee (f := 19) rfl ?_); refine goesL_ (some 46) rfl rfl Tryd.func19 (by kernel_rfl) rfl #[] rfl (by (try simp only [List.map_toArray, List.map_cons, List.map_nil]); first | done | rfl | (simp only [List.length_drop, List.length_take]; rfl)) ?_; (with_reducible refine (doorwardlaw14_alive.calls  false _ ?side1 A11.out).mono ?_); (case side1 => exact LaidAt.of HLD.out (by repeat (first | (with_reducible first | exact HB.out | apply below_alloc | apply pw_below_drewN | apply below_drew1) | exact HB.out))); rintro e w82 ⟨rfl, hb⟩; refine ⟨_, rfl, ?_⟩; have n0_ := Aside0.mk (below_step (by repeat (first | (with_reducible first | exact HB.out | apply below_alloc | apply pw_below_drewN | apply below_drew1) | exact HB.out)) hb); clear HB; have HB := n0_; clear n0_; (try clear hb); (try clear hb2); (try clear hk); (try clear hi)))
        go_ret
        exact ⟨by first | rfl | (simp [errW_none, errW_some] <;> rfl) | (simp [*, errW_none, errW_some] <;> rfl), by repeat (first | (with_reducible first | exact HB.out | apply below_alloc | apply pw_below_drewN | apply below_drew1) | exact HB.out)⟩
    · rw [if_neg c7] at H
      exact absurd H (by simp)
  · rw [if_neg c5] at H
    exact absurd H (by simp)

end Go.Proofs.YtdfjjimmnbijmaaDoor.LN

import Derived.Shelf.Pu.ParseUintPublic10
namespace Go.Proofs
open Go.Shelf Go.RowKit
variable {P : Program} {ρ : Ren}
/-- A small hexadecimal digit's value. -/
def hexD (c : Nat) : Nat := if c ≤ 57 then c - 48 else c - 87
def hexV (acc : Nat) : List UInt8 → Nat
  | [] => acc
  | c :: r => hexV (acc * 16 + hexD c.toNat) r
def hexOk (l : List UInt8) : Prop := ∀ c ∈ l, (48 ≤ c.toNat ∧ c.toNat ≤ 57) ∨ (97 ≤ c.toNat ∧ c.toNat ≤ 102)
theorem or32 : ∀ c : Nat, 97 ≤ c → c ≤ 102 → bits .or .u8 (c : Int) 32 = (c : Int) := by
  intro c h1 h2
  have : c = 97 ∨ c = 98 ∨ c = 99 ∨ c = 100 ∨ c = 101 ∨ c = 102 := by omega
  rcases this with rfl | rfl | rfl | rfl | rfl | rfl <;> decide
set_option maxHeartbeats 32000000 in
set_option maxRecDepth 100000 in
theorem AnyPu.internal_strconv_ParseUint_16_b64 (L : LaysPu.n16 P ρ) (t : ByteArray) (hne : t.size ≠ 0) (hmax : t.size ≤ 16) (hok : hexOk t.data.toList) (w : World) :
    Calls P (ρ.f 16) #[.string t, .int .i64 16, .int .i64 64] w fun e w' => e = .returned (.tuple #[.int .u64 (hexV 0 t.data.toList), .nilIface]) ∧ w' = Lib.bytesWorld w (ρ.t 5) t := by
  have mixed := L.mixed
  have t9 := L.t9; have a9 := L.a9; have z9 := L.z9; have v9 := L.v9
  have t3 := L.t3; have a3 := L.a3; have z3 := L.z3; have v3 := L.v3
  have t22 := L.t22; have a22 := L.a22; have z22 := L.z22; have v22 := L.v22
  have t24 := L.t24; have a24 := L.a24; have z24 := L.z24; have v24 := L.v24
  have t4 := L.t4; have a4 := L.a4; have z4 := L.z4; have v4 := L.v4
  have t34 := L.t34; have a34 := L.a34; have z34 := L.z34; have v34 := L.v34
  have t5 := L.t5; have a5 := L.a5; have z5 := L.z5; have v5 := L.v5
  have t36 := L.t36; have a36 := L.a36; have z36 := L.z36; have v36 := L.v36
  have t37 := L.t37; have a37 := L.a37; have z37 := L.z37; have v37 := L.v37
  have t0 := L.t0; have a0 := L.a0; have z0 := L.z0; have v0 := L.v0
  have e19 : ∀ args w, (callFunc (ρ.f 19) args).run P w = .ok (.enter (ρ.f 19) args) w := enters_of L.f19 (by kernel_rfl) rfl
  have hemp : t.toList.isEmpty = false := by
    rw [← decide_eq_emptyBytes]
    exact decide_eq_false (fun h => hne (by rw [h]; rfl))
  have hcv := Lib.run_convert_string_bytes (P := P) w (ρ.t 9) (ρ.t 37) (ρ.t 5) t (u := .string) L.t9 L.t37 L.t5
  have hB : ∀ j, j < t.size → (Lib.bytesWorld w (ρ.t 5) t).cell? ⟨w.heap.size, j, none⟩ = some (.int .u8 (t.data.toList.getD j 0).toNat) := fun j hj => Lib.bytesWorld_cell w (ρ.t 5) t j hj
  obtain ⟨W1, hW1⟩ : ∃ W1, W1 = Lib.bytesWorld w (ρ.t 5) t := ⟨_, rfl⟩
  rw [← hW1] at hcv hB ⊢
  clear hW1
  obtain ⟨bs, hL⟩ : ∃ bs, bs = t.data.toList := ⟨_, rfl⟩
  have hLn : bs.length = t.size := by rw [hL, Lib.size_eq]
  rw [← hL] at hB hok ⊢
  clear hL
  have hmv : IntKind.u64.wrap (IntKind.u64.wrap 18446744073709551616 - 1) = 18446744073709551615 := by
    rw [IntKind.wrap_u64, IntKind.wrap_u64]
    decide
  go_enter L.f16, BodyPu.n16_ntmps ρ
  go_wp2
  go_loop [12, 13, 101] (fun vu vn vi => ∃ (k acc : Nat) (a : Int), vu = .bool false ∧ vn = .int .u64 a ∧ vi = .int .i64 k ∧ k ≤ t.size ∧ Hid (a = (acc : Int) ∧ acc < 16 ^ k ∧ hexV 0 bs = hexV acc (bs.drop k)))
    (fun _ _ vi => t.size - (intOf vi).toNat)
  case atStart => exact ⟨0, 0, 0, rfl, rfl, rfl, by omega, rfl, by omega, rfl⟩
  case round =>
    obtain ⟨k, acc, a, rfl, rfl, rfl, hk, hh⟩ := hrel
    obtain ⟨ha, hacc, hdec⟩ := hh.out
    clear hh
    by_cases hkn : k < t.size
    · have hp15 : 16 ^ k ≤ 16 ^ 15 := Nat.pow_le_pow_right (by omega) (by omega)
      have hp1 : 16 ^ (k + 1) = 16 ^ k * 16 := Nat.pow_succ 16 k
      have e15 : 16 ^ 15 = 1152921504606846976 := by decide
      have a0 : 0 ≤ a := by omega
      have a1 : a < 1152921504606846976 := by omega
      have hc := hB k hkn
      have hdrop : bs.drop k = bs[k]'(by omega) :: bs.drop (k + 1) := List.drop_eq_getElem_cons (by omega)
      have hget : bs.getD k 0 = bs[k]'(by omega) := by simp [List.getD, List.getElem?_eq_getElem (show k < bs.length by omega)]
      have hcok := hok (bs[k]'(by omega)) (List.getElem_mem _)
      rw [hdrop] at hdec
      rw [hget] at hc
      generalize bs[k]'(by omega) = c at hc hdec hcok
      have hc256 : c.toNat < 256 := c.toNat_lt
      clear hB hdrop hget hok
      by_cases hdig : 48 ≤ c.toNat ∧ c.toNat ≤ 57
      · obtain ⟨hd0, hd1⟩ := hdig
        have hF : hexD c.toNat = c.toNat - 48 := by simp [hexD, hd1]
        have HN : Hid (a * 16 + ((c.toNat : Int) - 48) = ((acc * 16 + hexD c.toNat : Nat) : Int) ∧ acc * 16 + hexD c.toNat < 16 ^ (k + 1) ∧ hexV 0 bs = hexV (acc * 16 + hexD c.toNat) (bs.drop (k + 1))) := Lib.hid ⟨by rw [hF]; omega, by rw [hF]; omega, hdec⟩
        have iov : a * 16 + ((c.toNat : Int) - 48) < 18446744073709551616 := by omega
        clear hp15 hp1 e15 hacc hF hdec ha hcok
        go_wp2
        refine ⟨⟨k + 1, acc * 16 + hexD c.toNat, a * 16 + ((c.toNat : Int) - 48), rfl, (by first | rfl | (congr 1; omega)), (by first | rfl | (congr 1; omega)), by omega, HN⟩, by simp [intOf]; omega⟩
      · have hlet : 97 ≤ c.toNat ∧ c.toNat ≤ 102 := by omega
        obtain ⟨hd0, hd1⟩ := hlet
        have hF : hexD c.toNat = c.toNat - 87 := by rw [hexD, if_neg (by omega)]
        have HN : Hid (a * 16 + ((c.toNat : Int) - 87) = ((acc * 16 + hexD c.toNat : Nat) : Int) ∧ acc * 16 + hexD c.toNat < 16 ^ (k + 1) ∧ hexV 0 bs = hexV (acc * 16 + hexD c.toNat) (bs.drop (k + 1))) := Lib.hid ⟨by rw [hF]; omega, by rw [hF]; omega, hdec⟩
        have iov : a * 16 + ((c.toNat : Int) - 87) < 18446744073709551616 := by omega
        have hor := or32 c.toNat hd0 hd1
        clear hp15 hp1 e15 hacc hF hdec ha hcok hdig
        go_wp2_with (go_at_fn (ρ.f 19); refine (AnyPu.internal_strconv_lower { L with } _ _).mono ?_; rintro e w' ⟨rfl, rfl⟩)
        refine ⟨⟨k + 1, acc * 16 + hexD c.toNat, a * 16 + ((c.toNat : Int) - 87), rfl, (by congr 1; omega), (by first | rfl | (congr 1; omega)), by omega, HN⟩, by simp [intOf]; omega⟩
    · have hkk : k = t.size := by omega
      subst hkk
      have hF : hexV acc (bs.drop t.size) = acc := by rw [List.drop_eq_nil_of_le (by omega)]; rfl
      rw [hF] at hdec
      subst ha
      clear hacc hF
      go_wp2
      go_ret2
      exact ⟨rfl, rfl⟩
set_option maxHeartbeats 4000000 in
set_option maxRecDepth 100000 in
theorem Any.strconv_ParseUint_16_at64_ok (L : LaysPu.n14 P ρ) (s : ByteArray) (hne : s.size ≠ 0) (hmax : s.size ≤ 16) (hok : hexOk s.data.toList) (w : World) :
    Calls P (ρ.f 14) #[.string s, .int .i64 16, .int .i64 64] w fun e w' => e = .returned (.tuple #[.int .u64 (hexV 0 s.data.toList), .nilIface]) ∧ w' = Lib.bytesWorld w (ρ.t 5) s := by
  have mixed := L.mixed
  have t9 := L.t9; have a9 := L.a9; have z9 := L.z9; have v9 := L.v9
  have t3 := L.t3; have a3 := L.a3; have z3 := L.z3; have v3 := L.v3
  have t22 := L.t22; have a22 := L.a22; have z22 := L.z22; have v22 := L.v22
  have t24 := L.t24; have a24 := L.a24; have z24 := L.z24; have v24 := L.v24
  have t25 := L.t25; have a25 := L.a25; have z25 := L.z25; have v25 := L.v25
  have t4 := L.t4; have a4 := L.a4; have z4 := L.z4; have v4 := L.v4
  have e16 : ∀ args w, (callFunc (ρ.f 16) args).run P w = .ok (.enter (ρ.f 16) args) w := enters_of L.f16 (by kernel_rfl) rfl
  have hI := AnyPu.internal_strconv_ParseUint_16_b64 { L with } s hne hmax hok w
  go_enter L.f14, BodyPu.n14_ntmps ρ
  go_wp2_with (go_at_fn (ρ.f 16); refine hI.mono ?_; rintro e W1 ⟨rfl, hW⟩)
  go_wp2
  go_ret2
  exact ⟨rfl, rfl⟩
end Go.Proofs

-- Written for this claim by myprint.py over the kit's print (functions of this session supplied)
import Derived.Test.YtdfjjimmnbijmaaDoorLB0
import Derived.Test.YtdfjjimmnbijmaaDoorLB3
namespace Go.Proofs.YtdfjjimmnbijmaaDoor.LB
open Go.RowKit Go.Proofs.YtdfjjimmnbijmaaDoorW.PrintWords Go.Proofs.YtdfjjimmnbijmaaDoorW.PrintLast Go.Proofs.YtdfjjimmnbijmaaDoorW.PrintMore Go.Proofs.YtdfjjimmnbijmaaDoor.Base
attribute [local go_sem] max2_int min2_int max_two min_two max_three min_three max_four min_four   -- for this text's walks alone
set_option linter.unusedVariables false
set_option linter.unusedSimpArgs false

/-! ### doorwardlaw14_LexBlanks: function 5 -/
mutual
def doorwardlaw14_LexBlanks.j0 : Nat → ByteArray → Int → ByteArray → List (S34) → Bool → Option (Bool)
  | 0, _, _, _, _, _ => none
  | k + 1, x0, x1, x2, x7, x34 => if x34 = true then ((doorwardlaw14_alive.f).bind fun t129 => (if t129 = true then (some ((x7.length : Int) == 0)) else (some false))) else (if (x7.length : Int) = 0 then (none) else (if 0 ≤ (Int.tmod (wrap64 ((Int.tmod x1 (x7.length : Int)) + (x7.length : Int))) (x7.length : Int)) then (if (Int.tmod (wrap64 ((Int.tmod x1 (x7.length : Int)) + (x7.length : Int))) (x7.length : Int)) < (x7.length : Int) then (if ((rd_T34 x7 (Int.tmod (wrap64 ((Int.tmod x1 (x7.length : Int)) + (x7.length : Int))) (x7.length : Int))).f0) = 4 then (doorwardlaw14_LexBlanks.j1 k x0 (Int.tmod (wrap64 ((Int.tmod x1 (x7.length : Int)) + (x7.length : Int))) (x7.length : Int)) x2 x7 (⟨#[32, 9]⟩ : ByteArray) true) else (doorwardlaw14_LexBlanks.j1 k x0 (Int.tmod (wrap64 ((Int.tmod x1 (x7.length : Int)) + (x7.length : Int))) (x7.length : Int)) x2 x7 (⟨#[32, 9]⟩ : ByteArray) (((rd_T34 x7 (Int.tmod (wrap64 ((Int.tmod x1 (x7.length : Int)) + (x7.length : Int))) (x7.length : Int))).f0) == 0))) else (none)) else (none)))
def doorwardlaw14_LexBlanks.j1 : Nat → ByteArray → Int → ByteArray → List (S34) → ByteArray → Bool → Option (Bool)
  | 0, _, _, _, _, _, _ => none
  | k + 1, x0, x1, x2, x7, x10, x64 => if x64 = true then (doorwardlaw14_LexBlanks.l0 k x0 x1 x2 x7 (⟨#[32, 35]⟩ : ByteArray) (mn (x2.size : Int) 100) 0) else (doorwardlaw14_LexBlanks.j3 k x0 x1 x7 x10)
def doorwardlaw14_LexBlanks.j3 : Nat → ByteArray → Int → List (S34) → ByteArray → Option (Bool)
  | 0, _, _, _, _ => none
  | k + 1, x0, x1, x7, x10 => if 0 ≤ x1 then (if x1 < (x7.length : Int) then (if ((rd_T34 x7 x1).f2) < 0 then (doorwardlaw14_LexBlanks.j4 k x0 x7 x10 ((rd_T34 x7 x1).f2) true) else (doorwardlaw14_LexBlanks.j4 k x0 x7 x10 ((rd_T34 x7 x1).f2) (decide (((rd_T34 x7 x1).f2) > (x0.size : Int))))) else (none)) else (none)
def doorwardlaw14_LexBlanks.j4 : Nat → ByteArray → List (S34) → ByteArray → Int → Bool → Option (Bool)
  | 0, _, _, _, _, _ => none
  | k + 1, x0, x7, x10, x12, x95 => if x95 = true then (some false) else (if 0 ≤ x12 then (if x12 ≤ (x0.size : Int) then (if (x0.extract 0 (x12 : Int).toNat).size + x10.size ≤ 9223372036854775807 then (if ((x0.extract 0 (x12 : Int).toNat) ++ x10).size + (x0.extract (x12 : Int).toNat x0.size).size ≤ 9223372036854775807 then ((lex_Lex.f (((x0.extract 0 (x12 : Int).toNat) ++ x10) ++ (x0.extract (x12 : Int).toNat x0.size))).bind fun bt133 => (if bt133.2.1 = 0 then (doorwardlaw14_LexBlanks.j5 k x7 bt133.1 ((bt133.1.length : Int) != (x7.length : Int))) else (doorwardlaw14_LexBlanks.j5 k x7 bt133.1 true))) else (none)) else (none)) else (none)) else (none))
def doorwardlaw14_LexBlanks.j5 : Nat → List (S34) → List (S34) → Bool → Option (Bool)
  | 0, _, _, _ => none
  | k + 1, x7, x13, x118 => if x118 = true then (some false) else (doorwardlaw14_LexBlanks.l1 k x7 x13 (x7.length : Int) 0)
def doorwardlaw14_LexBlanks.l1 : Nat → List (S34) → List (S34) → Int → Int → Option (Bool)
  | 0, _, _, _, _ => none
  | k + 1, x7, x13, x120, x121 => if x121 < x120 then (if 0 ≤ x121 then (if x121 < (x7.length : Int) then (if x121 < (x13.length : Int) then (if ((rd_T34 x7 x121).f0) = ((rd_T34 x13 x121).f0) then (if ((rd_T34 x7 x121).f1).toList = ((rd_T34 x13 x121).f1).toList then (doorwardlaw14_LexBlanks.l1 k x7 x13 x120 (wrap64 (x121 + 1))) else (some false)) else (some false)) else (none)) else (none)) else (none)) else ((doorwardlaw14_alive.f).bind fun t142 => (some t142))
def doorwardlaw14_LexBlanks.l0 : Nat → ByteArray → Int → ByteArray → List (S34) → ByteArray → Int → Int → Option (Bool)
  | 0, _, _, _, _, _, _, _ => none
  | k + 1, x0, x1, x2, x7, x10, x67, x68 => if x68 < x67 then (if 0 ≤ x68 then (if x68 < (x2.size : Int) then (if (bt x2 x68) = 10 then (doorwardlaw14_LexBlanks.l0 k x0 x1 x2 x7 x10 x67 (wrap64 (x68 + 1))) else (if x68 ≤ (wrap64 (x68 + 1)) then (if (wrap64 (x68 + 1)) ≤ (x2.size : Int) then (if x10.size + (x2.extract (x68 : Int).toNat ((wrap64 (x68 + 1)) : Int).toNat).size ≤ 9223372036854775807 then (doorwardlaw14_LexBlanks.l0 k x0 x1 x2 x7 (x10 ++ (x2.extract (x68 : Int).toNat ((wrap64 (x68 + 1)) : Int).toNat)) x67 (wrap64 (x68 + 1))) else (none)) else (none)) else (none))) else (none)) else (none)) else (doorwardlaw14_LexBlanks.j3 k x0 x1 x7 x10)
end
def doorwardlaw14_LexBlanks.f (k : Nat) (a0 : ByteArray) (a1 : Int) (a2 : ByteArray) : Option (Bool) := if 0 ≤ (mn (a0.size : Int) 900) then (if (mn (a0.size : Int) 900) ≤ (a0.size : Int) then ((lex_Lex.f (a0.extract 0 ((mn (a0.size : Int) 900) : Int).toNat)).bind fun bt124 => (if bt124.2.1 = 0 then (doorwardlaw14_LexBlanks.j0 k (a0.extract 0 ((mn (a0.size : Int) 900) : Int).toNat) a1 a2 bt124.1 ((bt124.1.length : Int) == 0)) else (doorwardlaw14_LexBlanks.j0 k (a0.extract 0 ((mn (a0.size : Int) 900) : Int).toNat) a1 a2 bt124.1 true))) else (none)) else (none)
theorem doorwardlaw14_LexBlanks.mono_l : ∀ k, (∀ y0 y1 y2 y3 y4, LeO (doorwardlaw14_LexBlanks.j0 k y0 y1 y2 y3 y4) (doorwardlaw14_LexBlanks.j0 (k + 1) y0 y1 y2 y3 y4)) ∧ (∀ y0 y1 y2 y3 y4 y5, LeO (doorwardlaw14_LexBlanks.j1 k y0 y1 y2 y3 y4 y5) (doorwardlaw14_LexBlanks.j1 (k + 1) y0 y1 y2 y3 y4 y5)) ∧ (∀ y0 y1 y2 y3, LeO (doorwardlaw14_LexBlanks.j3 k y0 y1 y2 y3) (doorwardlaw14_LexBlanks.j3 (k + 1) y0 y1 y2 y3)) ∧ (∀ y0 y1 y2 y3 y4, LeO (doorwardlaw14_LexBlanks.j4 k y0 y1 y2 y3 y4) (doorwardlaw14_LexBlanks.j4 (k + 1) y0 y1 y2 y3 y4)) ∧ (∀ y0 y1 y2, LeO (doorwardlaw14_LexBlanks.j5 k y0 y1 y2) (doorwardlaw14_LexBlanks.j5 (k + 1) y0 y1 y2)) ∧ (∀ y0 y1 y2 y3, LeO (doorwardlaw14_LexBlanks.l1 k y0 y1 y2 y3) (doorwardlaw14_LexBlanks.l1 (k + 1) y0 y1 y2 y3)) ∧ (∀ y0 y1 y2 y3 y4 y5 y6, LeO (doorwardlaw14_LexBlanks.l0 k y0 y1 y2 y3 y4 y5 y6) (doorwardlaw14_LexBlanks.l0 (k + 1) y0 y1 y2 y3 y4 y5 y6))
  | 0 => ⟨fun _ _ _ _ _ r h => by simp [doorwardlaw14_LexBlanks.j0] at h, fun _ _ _ _ _ _ r h => by simp [doorwardlaw14_LexBlanks.j1] at h, fun _ _ _ _ r h => by simp [doorwardlaw14_LexBlanks.j3] at h, fun _ _ _ _ _ r h => by simp [doorwardlaw14_LexBlanks.j4] at h, fun _ _ _ r h => by simp [doorwardlaw14_LexBlanks.j5] at h, fun _ _ _ _ r h => by simp [doorwardlaw14_LexBlanks.l1] at h, fun _ _ _ _ _ _ _ r h => by simp [doorwardlaw14_LexBlanks.l0] at h⟩
  | k + 1 => by
    obtain ⟨ih0, ih1, ih2, ih3, ih4, ih5, ih6⟩ := doorwardlaw14_LexBlanks.mono_l k
    refine ⟨?_, ?_, ?_, ?_, ?_, ?_, ?_⟩
    · intro y0 y1 y2 y3 y4
      unfold doorwardlaw14_LexBlanks.j0
      repeat' first
      | (with_reducible exact ih0 _ _ _ _ _)
      | (with_reducible exact ih1 _ _ _ _ _ _)
      | (with_reducible exact ih2 _ _ _ _)
      | (with_reducible exact ih3 _ _ _ _ _)
      | (with_reducible exact ih4 _ _ _)
      | (with_reducible exact ih5 _ _ _ _)
      | (with_reducible exact ih6 _ _ _ _ _ _ _)
      | (with_reducible exact LeO.refl _)
      | (with_reducible exact LeO.none _)
      | (with_reducible refine LeO.ite ?_ ?_)
      | (with_reducible refine LeO.bind ?_ (fun _ => ?_))
      | exact ih0 _ _ _ _ _
      | exact ih1 _ _ _ _ _ _
      | exact ih2 _ _ _ _
      | exact ih3 _ _ _ _ _
      | exact ih4 _ _ _
      | exact ih5 _ _ _ _
      | exact ih6 _ _ _ _ _ _ _
      | exact LeO.none _
      | refine LeO.ite ?_ ?_
      | refine LeO.bind ?_ (fun _ => ?_)
    · intro y0 y1 y2 y3 y4 y5
      unfold doorwardlaw14_LexBlanks.j1
      repeat' first
      | (with_reducible exact ih0 _ _ _ _ _)
      | (with_reducible exact ih1 _ _ _ _ _ _)
      | (with_reducible exact ih2 _ _ _ _)
      | (with_reducible exact ih3 _ _ _ _ _)
      | (with_reducible exact ih4 _ _ _)
      | (with_reducible exact ih5 _ _ _ _)
      | (with_reducible exact ih6 _ _ _ _ _ _ _)
      | (with_reducible exact LeO.refl _)
      | (with_reducible exact LeO.none _)
      | (with_reducible refine LeO.ite ?_ ?_)
      | (with_reducible refine LeO.bind ?_ (fun _ => ?_))
      | exact ih0 _ _ _ _ _
      | exact ih1 _ _ _ _ _ _
      | exact ih2 _ _ _ _
      | exact ih3 _ _ _ _ _
      | exact ih4 _ _ _
      | exact ih5 _ _ _ _
      | exact ih6 _ _ _ _ _ _ _
      | exact LeO.none _
      | refine LeO.ite ?_ ?_
      | refine LeO.bind ?_ (fun _ => ?_)
    · intro y0 y1 y2 y3
      unfold doorwardlaw14_LexBlanks.j3
      repeat' first
      | (with_reducible exact ih0 _ _ _ _ _)
      | (with_reducible exact ih1 _ _ _ _ _ _)
      | (with_reducible exact ih2 _ _ _ _)
      | (with_reducible exact ih3 _ _ _ _ _)
      | (with_reducible exact ih4 _ _ _)
      | (with_reducible exact ih5 _ _ _ _)
      | (with_reducible exact ih6 _ _ _ _ _ _ _)
      | (with_reducible exact LeO.refl _)
      | (with_reducible exact LeO.none _)
      | (with_reducible refine LeO.ite ?_ ?_)
      | (with_reducible refine LeO.bind ?_ (fun _ => ?_))
      | exact ih0 _ _ _ _ _
      | exact ih1 _ _ _ _ _ _
      | exact ih2 _ _ _ _
      | exact ih3 _ _ _ _ _
      | exact ih4 _ _ _
      | exact ih5 _ _ _ _
      | exact ih6 _ _ _ _ _ _ _
      | exact LeO.none _
      | refine LeO.ite ?_ ?_
      | refine LeO.bind ?_ (fun _ => ?_)
    · intro y0 y1 y2 y3 y4
      unfold doorwardlaw14_LexBlanks.j4
      repeat' first
      | (with_reducible exact ih0 _ _ _ _ _)
      | (with_reducible exact ih1 _ _ _ _ _ _)
      | (with_reducible exact ih2 _ _ _ _)
      | (with_reducible exact ih3 _ _ _ _ _)
      | (with_reducible exact ih4 _ _ _)
      | (with_reducible exact ih5 _ _ _ _)
      | (with_reducible exact ih6 _ _ _ _ _ _ _)
      | (with_reducible exact LeO.refl _)
      | (with_reducible exact LeO.none _)
      | (with_reducible refine LeO.ite ?_ ?_)
      | (with_reducible refine LeO.bind ?_ (fun _ => ?_))
      | exact ih0 _ _ _ _ _
      | exact ih1 _ _ _ _ _ _
      | exact ih2 _ _ _ _
      | exact ih3 _ _ _ _ _
      | exact ih4 _ _ _
      | exact ih5 _ _ _ _
      | exact ih6 _ _ _ _ _ _ _
      | exact LeO.none _
      | refine LeO.ite ?_ ?_
      | refine LeO.bind ?_ (fun _ => ?_)
    · intro y0 y1 y2
      unfold doorwardlaw14_LexBlanks.j5
      repeat' first
      | (with_reducible exact ih0 _ _ _ _ _)
      | (with_reducible exact ih1 _ _ _ _ _ _)
      | (with_reducible exact ih2 _ _ _ _)
      | (with_reducible exact ih3 _ _ _ _ _)
      | (with_reducible exact ih4 _ _ _)
      | (with_reducible exact ih5 _ _ _ _)
      | (with_reducible exact ih6 _ _ _ _ _ _ _)
      | (with_reducible exact LeO.refl _)
      | (with_reducible exact LeO.none _)
      | (with_reducible refine LeO.ite ?_ ?_)
      | (with_reducible refine LeO.bind ?_ (fun _ => ?_))
      | exact ih0 _ _ _ _ _
      | exact ih1 _ _ _ _ _ _
      | exact ih2 _ _ _ _
      | exact ih3 _ _ _ _ _
      | exact ih4 _ _ _
      | exact ih5 _ _ _ _
      | exact ih6 _ _ _ _ _ _ _
      | exact LeO.none _
      | refine LeO.ite ?_ ?_
      | refine LeO.bind ?_ (fun _ => ?_)
    · intro y0 y1 y2 y3
      unfold doorwardlaw14_LexBlanks.l1
      repeat' first
      | (with_reducible exact ih0 _ _ _ _ _)
      | (with_reducible exact ih1 _ _ _ _ _ _)
      | (with_reducible exact ih2 _ _ _ _)
      | (with_reducible exact ih3 _ _ _ _ _)
      | (with_reducible exact ih4 _ _ _)
      | (with_reducible exact ih5 _ _ _ _)
      | (with_reducible exact ih6 _ _ _ _ _ _ _)
      | (with_reducible exact LeO.refl _)
      | (with_reducible exact LeO.none _)
      | (with_reducible refine LeO.ite ?_ ?_)
      | (with_reducible refine LeO.bind ?_ (fun _ => ?_))
      | exact ih0 _ _ _ _ _
      | exact ih1 _ _ _ _ _ _
      | exact ih2 _ _ _ _
      | exact ih3 _ _ _ _ _
      | exact ih4 _ _ _
      | exact ih5 _ _ _ _
      | exact ih6 _ _ _ _ _ _ _
      | exact LeO.none _
      | refine LeO.ite ?_ ?_
      | refine LeO.bind ?_ (fun _ => ?_)
    · intro y0 y1 y2 y3 y4 y5 y6
      unfold doorwardlaw14_LexBlanks.l0
      repeat' first
      | (with_reducible exact ih0 _ _ _ _ _)
      | (with_reducible exact ih1 _ _ _ _ _ _)
      | (with_reducible exact ih2 _ _ _ _)
      | (with_reducible exact ih3 _ _ _ _ _)
      | (with_reducible exact ih4 _ _ _)
      | (with_reducible exact ih5 _ _ _ _)
      | (with_reducible exact ih6 _ _ _ _ _ _ _)
      | (with_reducible exact LeO.refl _)
      | (with_reducible exact LeO.none _)
      | (with_reducible refine LeO.ite ?_ ?_)
      | (with_reducible refine LeO.bind ?_ (fun _ => ?_))
      | exact ih0 _ _ _ _ _
      | exact ih1 _ _ _ _ _ _
      | exact ih2 _ _ _ _
      | exact ih3 _ _ _ _ _
      | exact ih4 _ _ _
      | exact ih5 _ _ _ _
      | exact ih6 _ _ _ _ _ _ _
      | exact LeO.none _
      | refine LeO.ite ?_ ?_
      | refine LeO.bind ?_ (fun _ => ?_)
theorem doorwardlaw14_LexBlanks.mono : ∀ a0 a1 a2 k, LeO (doorwardlaw14_LexBlanks.f k a0 a1 a2) (doorwardlaw14_LexBlanks.f (k + 1) a0 a1 a2) := by
  intro a0 a1 a2 k
  obtain ⟨ih0, ih1, ih2, ih3, ih4, ih5, ih6⟩ := doorwardlaw14_LexBlanks.mono_l k
  unfold doorwardlaw14_LexBlanks.f
  repeat' first
      | (with_reducible exact ih0 _ _ _ _ _)
      | (with_reducible exact ih1 _ _ _ _ _ _)
      | (with_reducible exact ih2 _ _ _ _)
      | (with_reducible exact ih3 _ _ _ _ _)
      | (with_reducible exact ih4 _ _ _)
      | (with_reducible exact ih5 _ _ _ _)
      | (with_reducible exact ih6 _ _ _ _ _ _ _)
      | (with_reducible exact LeO.refl _)
      | (with_reducible exact LeO.none _)
      | (with_reducible refine LeO.ite ?_ ?_)
      | (with_reducible refine LeO.bind ?_ (fun _ => ?_))
      | exact ih0 _ _ _ _ _
      | exact ih1 _ _ _ _ _ _
      | exact ih2 _ _ _ _
      | exact ih3 _ _ _ _ _
      | exact ih4 _ _ _
      | exact ih5 _ _ _ _
      | exact ih6 _ _ _ _ _ _ _
      | exact LeO.none _
      | refine LeO.ite ?_ ?_
      | refine LeO.bind ?_ (fun _ => ?_)
def doorwardlaw14_LexBlanks.T18 : Bool × List (List Nat × List Nat) := (true, [([], []), ([], []), ([0, 1], [0, 1]), ([], []), ([2, 3], [2, 3]), ([], []), ([], []), ([5, 6], [5, 6]), ([4, 7], [4, 7]), ([8], [8]), ([9], [9]), ([10], [10]), ([10], [10]), ([10], [10]), ([11, 9, 0, 1, 2, 3, 4, 5, 6, 7, 8, 9, 10, 11], [11]), ([12, 14, 0, 1, 2, 3, 4, 5, 6, 7, 8, 9, 10, 11, 12, 14], [12]), ([13, 15, 0, 1, 2, 3, 4, 5, 6, 7, 8, 9, 10, 11, 12, 13, 14, 15], [13])])
def doorwardlaw14_LexBlanks.B18 : List Nat := [0, 0, 3, 0, 15, 0, 0, 96, 255, 511, 1023, 2047, 2047, 2047, 4095, 24575, 65535]
theorem doorwardlaw14_LexBlanks.tab18 : rtab .any (opsOf Tryd.f5 18) = doorwardlaw14_LexBlanks.T18 := by kernel_rfl
theorem doorwardlaw14_LexBlanks.bits18 : waitsOk doorwardlaw14_LexBlanks.T18.2 doorwardlaw14_LexBlanks.B18 = true := by kernel_rfl
def doorwardlaw14_LexBlanks.T24 : Bool × List (List Nat × List Nat) := (true, [([], []), ([], []), ([0, 1], [0, 1]), ([2], [2]), ([3], [3]), ([], []), ([], []), ([5, 6], [5, 6]), ([7], [7]), ([8], [8]), ([4, 9], [4, 9]), ([10], [10]), ([11], [11]), ([11], [11]), ([12, 13, 11], [11, 12, 13]), ([14, 11], [11, 14]), ([15, 11], [11, 15]), ([11], [11]), ([11], [11]), ([17, 18, 11], [11, 17, 18]), ([19, 11], [11, 19]), ([20, 11], [11, 20]), ([16, 21, 11], [11, 16, 21]), ([11, 22], [11, 22])])
def doorwardlaw14_LexBlanks.B24 : List Nat := [0, 0, 3, 7, 15, 0, 0, 96, 224, 480, 1023, 2047, 4095, 4095, 16383, 32767, 65535, 4095, 4095, 397311, 921599, 1970175, 4194303, 8388607]
theorem doorwardlaw14_LexBlanks.tab24 : rtab .any (opsOf Tryd.f5 24) = doorwardlaw14_LexBlanks.T24 := by kernel_rfl
theorem doorwardlaw14_LexBlanks.bits24 : waitsOk doorwardlaw14_LexBlanks.T24.2 doorwardlaw14_LexBlanks.B24 = true := by kernel_rfl
set_option maxHeartbeats 8000000 in
set_option maxRecDepth 100000 in
theorem doorwardlaw14_LexBlanks.calls (k : Nat) (a0 : ByteArray) (a1 : Int) (a2 : ByteArray) (r : Bool) (w : World) (hLd : LaidAt w) (h : doorwardlaw14_LexBlanks.f k a0 a1 a2 = some r) :
    Calls Tryd.prog 5 #[.string a0, .int .i64 a1, .string a2] w fun e w' => e = .returned (.bool r) ∧ Below w.heap.size w w' := by
  have HLD := Aside0.mk hLd
  clear hLd
  have HB := Aside0.mk (Below.refl w.heap.size w)
  have H : (if 0 ≤ (mn (a0.size : Int) 900) then (if (mn (a0.size : Int) 900) ≤ (a0.size : Int) then ((lex_Lex.f (a0.extract 0 ((mn (a0.size : Int) 900) : Int).toNat)).bind fun bt124 => (if bt124.2.1 = 0 then (doorwardlaw14_LexBlanks.j0 k (a0.extract 0 ((mn (a0.size : Int) 900) : Int).toNat) a1 a2 bt124.1 ((bt124.1.length : Int) == 0)) else (doorwardlaw14_LexBlanks.j0 k (a0.extract 0 ((mn (a0.size : Int) 900) : Int).toNat) a1 a2 bt124.1 true))) else (none)) else (none)) = some r := h
  clear h
  obtain ⟨ji4, hji4⟩ : ∃ j_ : Int, (mn (a0.size : Int) 900) = j_ := ⟨_, rfl⟩
  replace H : (if 0 ≤ (ji4) then (if (ji4) ≤ (a0.size : Int) then ((lex_Lex.f (a0.extract 0 ((ji4) : Int).toNat)).bind fun bt124 => (if bt124.2.1 = 0 then (doorwardlaw14_LexBlanks.j0 k (a0.extract 0 ((ji4) : Int).toNat) a1 a2 bt124.1 ((bt124.1.length : Int) == 0)) else (doorwardlaw14_LexBlanks.j0 k (a0.extract 0 ((ji4) : Int).toNat) a1 a2 bt124.1 true))) else (none)) else (none)) = some r := by first | (rw [hji4] at H; exact H) | (simp only [hji4] at H ⊢; exact H)
  (try (have hji4h : ji4 ≤ 900 := by (rw [← hji4]; unfold mn; (repeat' split) <;> omega)))
  (try (have hji4g : ji4 ≤ 64 := by omega))
  (try (have hji4l : 0 ≤ ji4 := by (rw [← hji4]; unfold mn; (repeat' split) <;> omega)))
  (try (have hji4m : 0 ≤ ji4 := by omega))
  have hji4_ : (if 900 < (a0.size : Int) then 900 else (a0.size : Int)) = ji4 := hji4
  by_cases c5 : 0 ≤ (ji4)
  · rw [if_pos c5] at H
    have c5b0 := eq_true c5
    have c5b1 : decide (0 ≤ (ji4)) = true := decide_eq_true c5
    clear c5
    by_cases c6 : (ji4) ≤ (a0.size : Int)
    · rw [if_pos c6] at H
      have c6b0 := eq_true c6
      have c6b1 : decide ((ji4) ≤ (a0.size : Int)) = true := decide_eq_true c6
      have c6s : ∀ W : World, (Instr.slice 9 (.string a0) none (some (.int .i64 ji4)) none).run Tryd.prog W = .ok (.string (a0.extract 0 ((ji4) : Int).toNat)) W := fun W => run_slice_string_h W 9 a0 Tryd.underlying9 .i64 ji4 (by first | omega | (rw [← hji4]; unfold mn; split <;> omega)) c6
      clear c6
      obtain ⟨ys1, hys1⟩ : ∃ y_ : ByteArray, y_ = (a0.extract 0 ((ji4) : Int).toNat) := ⟨_, rfl⟩
      rw [← hys1] at H c6s
      have Hys1 := Aside0.mk hys1
      clear hys1
      replace H := Option.bind_eq_some_iff.mp H
      obtain ⟨⟨t124, t125, t126⟩, A70, H⟩ := H
      replace H : (if t125 = 0 then (doorwardlaw14_LexBlanks.j0 k ys1 a1 a2 t124 ((t124.length : Int) == 0)) else (doorwardlaw14_LexBlanks.j0 k ys1 a1 a2 t124 true)) = some r := H
      have A7 := Aside0.mk A70
      clear A70
      have HC8 := Aside0.mk H
      clear H
      go_enter Tryd.func5, Tryd.ntmps5
      go_upto_region 3 with (first | ((with_reducible refine gate_callee (f := 15) rfl ?_); refine goesL_ (some 24) rfl rfl Tryd.func15 (by kernel_rfl) rfl #[.string ys1] rfl (by (try simp only [List.map_toArray, List.map_cons, List.map_nil]); first | done | (simp only [hji4]; rfl) | rfl | (simp only [List.length_drop, List.length_take]; rfl)) ?_; (with_reducible refine (lex_Lex.calls ys1 t124 t125 t126 _ ?side1 A7.out).mono ?_); (case side1 => exact LaidAt.of HLD.out (by repeat (first | (with_reducible first | exact HB.out | apply below_alloc | apply pw_below_drewN | apply below_drew1) | exact HB.out))); rintro e w9 ⟨v127, rfl, ho0, hb⟩; refine ⟨_, rfl, ?_⟩; have n0_ := Aside0.mk (Kd.R_lower ho0 (below_size (by repeat (first | (with_reducible first | exact HB.out | apply below_alloc | apply pw_below_drewN | apply below_drew1) | exact HB.out)))); have n1_ := Aside0.mk (below_step (by repeat (first | (with_reducible first | exact HB.out | apply below_alloc | apply pw_below_drewN | apply below_drew1) | exact HB.out)) hb); clear HB; have HO128 := n0_; have HB := n1_; clear n0_ n1_; (try clear hb); (try clear hb2); (try clear hk); (try clear hi); (try clear ho0)))
      (try simp only [Act.put, List.setIfInBounds_toArray, List.set_cons_zero, List.set_cons_succ])
      go_cut [34] (fun v34 wc => ∃ (kq : Nat) (x34_7 : Bool), v34 = .bool x34_7 ∧ Aside0 (doorwardlaw14_LexBlanks.j0 kq ys1 a1 a2 t124 x34_7 = some r) ∧ Aside0 (kq ≤ k) ∧ Aside0 (Kd.R k34 34 wc w.heap.size (fun _ => True) v127 t124) ∧ Aside0 (Below w.heap.size w wc))
      case first =>
        have H := HC8.out
        clear HC8
        by_cases c10 : t125 = 0
        · rw [if_pos c10] at H
          have c10b0 : (t125 == 0) = true := beq_iff_eq.mpr c10
          have c10b1 : (t125 != 0) = false := bne_eq_false_iff_eq.mpr c10
          clear c10
          (first | rw [c10b0] | (simp only [i64_w, i32_w]; rw [c10b0]) | skip)
          have H' := Aside0.mk H
          clear H
          obtain ⟨Ao11, co11, eo11⟩ := Kd.R_slice HO128.out
          subst eo11
          go_wp2
          go_meet
          case rel => exact ⟨_, (((t124.length : Int) == 0)), (by first | rfl | (simp; done) | (simp [*]; done)), H', ⟨by first | omega | exact Nat.le_refl _⟩, ⟨by (with_reducible repeat (first | apply Kd.R_alloc | apply Kd.R_drewN | apply Kd.R_drew)); exact HO128.out⟩, ⟨by repeat (first | (with_reducible first | exact HB.out | apply below_alloc | apply pw_below_drewN | apply below_drew1) | exact HB.out)⟩⟩
        · rw [if_neg c10] at H
          have c10b0 : (t125 == 0) = false := beq_eq_false_iff_ne.mpr c10
          have c10b1 : (t125 != 0) = true := bne_iff_ne.mpr c10
          (first | rw [c10b0] | (simp only [i64_w, i32_w]; rw [c10b0]) | skip)
          have H' := Aside0.mk H
          clear H
          go_wp2
          go_meet
          case rel => exact ⟨_, (true), (by first | rfl | (simp; done) | (simp [*]; done)), H', ⟨by first | omega | exact Nat.le_refl _⟩, ⟨by (with_reducible repeat (first | apply Kd.R_alloc | apply Kd.R_drewN | apply Kd.R_drew)); exact HO128.out⟩, ⟨by repeat (first | (with_reducible first | exact HB.out | apply below_alloc | apply pw_below_drewN | apply below_drew1) | exact HB.out)⟩⟩
      case rest =>
        clear HC8
        try clear c1
        try clear p2
        try clear c5
        try clear c5b0
        try clear c5b1
        try clear c6
        try clear c6b0
        try clear c6b1
        try clear c10
        try clear c10b0
        try clear c10b1
        obtain ⟨kq, x34_7, rfl, HA, HJ7, HO_7, HB⟩ := hcut
        cases kq with
        | zero => exact absurd HA.out (by simp [doorwardlaw14_LexBlanks.j0])
        | succ kj7 =>
          have H := HA.out
          clear HA
          simp only [doorwardlaw14_LexBlanks.j0] at H
          by_cases c12 : x34_7 = true
          · subst c12
            have H1 : ((doorwardlaw14_alive.f).bind fun t129 => (if t129 = true then (some ((t124.length : Int) == 0)) else (some false))) = some r := by rw [if_pos rfl] at H; exact H
            clear H
            have H := H1
            clear H1
            replace H := Option.bind_eq_some_iff.mp H
            obtain ⟨t129, A130, H⟩ := H
            replace H : (if t129 = true then (some ((t124.length : Int) == 0)) else (some false)) = some r := H
            have A13 := Aside0.mk A130
            clear A130
            by_cases c14 : t129 = true
            · subst c14
              have H1 : (some ((t124.length : Int) == 0)) = some r := by rw [if_pos rfl] at H; exact H
              clear H
              have H := H1
              clear H1
              obtain rfl := Option.some.inj H
              go_wp2_with (first | ((with_reducible refine gate_callee (f := 19) rfl ?_); refine goesL_ (some 35) rfl rfl Tryd.func19 (by kernel_rfl) rfl #[] rfl (by (try simp only [List.map_toArray, List.map_cons, List.map_nil]); first | done | rfl | (simp only [List.length_drop, List.length_take]; rfl)) ?_; (with_reducible refine (doorwardlaw14_alive.calls  true _ ?side1 A13.out).mono ?_); (case side1 => exact LaidAt.of HLD.out (by repeat (first | (with_reducible first | exact HB.out | apply below_alloc | apply pw_below_drewN | apply below_drew1) | exact HB.out))); rintro e w15 ⟨rfl, hb⟩; refine ⟨_, rfl, ?_⟩; have n0_ := Aside0.mk (Kd.R_below (by (with_reducible repeat (first | apply Kd.R_alloc | apply Kd.R_drewN | apply Kd.R_drew)); exact HO_7.out) hb); have n1_ := Aside0.mk (below_step (by repeat (first | (with_reducible first | exact HB.out | apply below_alloc | apply pw_below_drewN | apply below_drew1) | exact HB.out)) hb); clear HO_7; clear HB; have HO_7 := n0_; have HB := n1_; clear n0_ n1_; (try clear hb); (try clear hb2); (try clear hk); (try clear hi); obtain ⟨Ao16, co16, eo16⟩ := Kd.R_slice HO_7.out; subst eo16))
              go_ret
              exact ⟨by first | rfl | (simp [errW_none, errW_some] <;> rfl) | (simp only [← hji4]; first | rfl | (simp [errW_none, errW_some] <;> rfl)) | (simp [*, errW_none, errW_some] <;> rfl), by repeat (first | (with_reducible first | exact HB.out | apply below_alloc | apply pw_below_drewN | apply below_drew1) | exact HB.out)⟩
            · replace c14 := Bool.eq_false_iff.mpr c14
              subst c14
              have H1 : (some false) = some r := by rw [if_neg (show ¬ (false = true) by decide)] at H; exact H
              clear H
              have H := H1
              clear H1
              obtain rfl := Option.some.inj H
              go_wp2_with (first | ((with_reducible refine gate_callee (f := 19) rfl ?_); refine goesL_ (some 35) rfl rfl Tryd.func19 (by kernel_rfl) rfl #[] rfl (by (try simp only [List.map_toArray, List.map_cons, List.map_nil]); first | done | rfl | (simp only [List.length_drop, List.length_take]; rfl)) ?_; (with_reducible refine (doorwardlaw14_alive.calls  false _ ?side1 A13.out).mono ?_); (case side1 => exact LaidAt.of HLD.out (by repeat (first | (with_reducible first | exact HB.out | apply below_alloc | apply pw_below_drewN | apply below_drew1) | exact HB.out))); rintro e w17 ⟨rfl, hb⟩; refine ⟨_, rfl, ?_⟩; have n0_ := Aside0.mk (Kd.R_below (by (with_reducible repeat (first | apply Kd.R_alloc | apply Kd.R_drewN | apply Kd.R_drew)); exact HO_7.out) hb); have n1_ := Aside0.mk (below_step (by repeat (first | (with_reducible first | exact HB.out | apply below_alloc | apply pw_below_drewN | apply below_drew1) | exact HB.out)) hb); clear HO_7; clear HB; have HO_7 := n0_; have HB := n1_; clear n0_ n1_; (try clear hb); (try clear hb2); (try clear hk); (try clear hi)))
              go_ret
              exact ⟨by first | rfl | (simp [errW_none, errW_some] <;> rfl) | (simp only [← hji4]; first | rfl | (simp [errW_none, errW_some] <;> rfl)) | (simp [*, errW_none, errW_some] <;> rfl), by repeat (first | (with_reducible first | exact HB.out | apply below_alloc | apply pw_below_drewN | apply below_drew1) | exact HB.out)⟩
          · replace c12 := Bool.eq_false_iff.mpr c12
            subst c12
            have H1 : (if (t124.length : Int) = 0 then (none) else (if 0 ≤ (Int.tmod (wrap64 ((Int.tmod a1 (t124.length : Int)) + (t124.length : Int))) (t124.length : Int)) then (if (Int.tmod (wrap64 ((Int.tmod a1 (t124.length : Int)) + (t124.length : Int))) (t124.length : Int)) < (t124.length : Int) then (if ((rd_T34 t124 (Int.tmod (wrap64 ((Int.tmod a1 (t124.length : Int)) + (t124.length : Int))) (t124.length : Int))).f0) = 4 then (doorwardlaw14_LexBlanks.j1 kj7 ys1 (Int.tmod (wrap64 ((Int.tmod a1 (t124.length : Int)) + (t124.length : Int))) (t124.length : Int)) a2 t124 (⟨#[32, 9]⟩ : ByteArray) true) else (doorwardlaw14_LexBlanks.j1 kj7 ys1 (Int.tmod (wrap64 ((Int.tmod a1 (t124.length : Int)) + (t124.length : Int))) (t124.length : Int)) a2 t124 (⟨#[32, 9]⟩ : ByteArray) (((rd_T34 t124 (Int.tmod (wrap64 ((Int.tmod a1 (t124.length : Int)) + (t124.length : Int))) (t124.length : Int))).f0) == 0))) else (none)) else (none))) = some r := by rw [if_neg (show ¬ (false = true) by decide)] at H; exact H
            clear H
            have H := H1
            clear H1
            by_cases c18 : (t124.length : Int) = 0
            · rw [if_pos c18] at H
              exact absurd H (by simp)
            · rw [if_neg c18] at H
              have c18b0 : ((t124.length : Int) == 0) = false := beq_eq_false_iff_ne.mpr c18
              have c18b1 : ((t124.length : Int) != 0) = true := bne_iff_ne.mpr c18
              have c18b2 : ¬ (t124 = []) := fun h_ => c18 (by rw [h_]; rfl)
              have HC19 := Aside0.mk H
              clear H
              obtain ⟨Ao20, co20, eo20⟩ := Kd.R_slice HO_7.out
              subst eo20
              go_upto_region 7 with (fail)
              go_cut [64] (fun v64 wc => ∃ (kq : Nat) (x64_18 : Bool), v64 = .bool x64_18 ∧ Aside0 (doorwardlaw14_LexBlanks.j1 kq ys1 (Int.tmod (wrap64 ((Int.tmod a1 (t124.length : Int)) + (t124.length : Int))) (t124.length : Int)) a2 t124 (⟨#[32, 9]⟩ : ByteArray) x64_18 = some r) ∧ Aside0 (kq ≤ kj7) ∧ Aside0 (Kd.R k34 34 wc w.heap.size (fun _ => True) (.slice Ao20 t124.length co20) t124) ∧ Aside0 (Below w.heap.size w wc))
              case first =>
                have H := HC19.out
                clear HC19
                obtain ⟨ji21, hji21⟩ : ∃ j_ : Int, (Int.tmod (wrap64 ((Int.tmod a1 (t124.length : Int)) + (t124.length : Int))) (t124.length : Int)) = j_ := ⟨_, rfl⟩
                replace H : (if 0 ≤ (ji21) then (if (ji21) < (t124.length : Int) then (if ((rd_T34 t124 (ji21)).f0) = 4 then (doorwardlaw14_LexBlanks.j1 kj7 ys1 ji21 a2 t124 (⟨#[32, 9]⟩ : ByteArray) true) else (doorwardlaw14_LexBlanks.j1 kj7 ys1 ji21 a2 t124 (⟨#[32, 9]⟩ : ByteArray) (((rd_T34 t124 (ji21)).f0) == 0))) else (none)) else (none)) = some r := by first | (rw [hji21] at H; exact H) | (simp only [hji21] at H ⊢; exact H)
                by_cases c22 : 0 ≤ (ji21)
                · rw [if_pos c22] at H
                  have c22b0 : decide (0 ≤ (ji21)) = true := decide_eq_true c22
                  clear c22
                  (first | rw [c22b0] | (simp only [i64_w, i32_w]; rw [c22b0]) | skip)
                  by_cases c23 : (ji21) < (t124.length : Int)
                  · rw [if_pos c23] at H
                    have c23b0 : decide ((ji21) < (t124.length : Int)) = true := decide_eq_true c23
                    clear c23
                    by_cases c24 : ((rd_T34 t124 (ji21)).f0) = 4
                    · rw [if_pos c24] at H
                      have c24b0 : (((rd_T34 t124 (ji21)).f0) == 4) = true := beq_iff_eq.mpr c24
                      have c24b1 : (((rd_T34 t124 (ji21)).f0) != 4) = false := bne_eq_false_iff_eq.mpr c24
                      clear c24
                      have H' := Aside0.mk H
                      clear H
                      have p130 : 0 ≤ ((ji21) : Int) := of_decide_eq_true (by first | (with_reducible assumption) | assumption)
                      have q130 : (ji21) < (t124.length : Int) := of_decide_eq_true (by first | (with_reducible assumption) | assumption)
                      obtain ⟨ad130, e130, hx130_0, hx130_1, hx130_2⟩ := at_T34 (Kd.R_reads' HO_7.out).2.2 (ji21) p130 q130
                      cases e130
                      replace p130 := eq_true p130
                      replace q130 := eq_true q130
                      go_wp2
                      try subst hji21
                      go_meet
                      case rel => exact ⟨_, (true), (by first | rfl | (simp; done) | (simp [*]; done)), H', ⟨by have := HJ7.out; first | omega | exact Nat.le_refl _⟩, ⟨by (with_reducible repeat (first | apply Kd.R_alloc | apply Kd.R_drewN | apply Kd.R_drew)); exact HO_7.out⟩, ⟨by repeat (first | (with_reducible first | exact HB.out | apply below_alloc | apply pw_below_drewN | apply below_drew1) | exact HB.out)⟩⟩
                    · rw [if_neg c24] at H
                      have c24b0 : (((rd_T34 t124 (ji21)).f0) == 4) = false := beq_eq_false_iff_ne.mpr c24
                      have c24b1 : (((rd_T34 t124 (ji21)).f0) != 4) = true := bne_iff_ne.mpr c24
                      have H' := Aside0.mk H
                      clear H
                      have p130 : 0 ≤ ((ji21) : Int) := of_decide_eq_true (by first | (with_reducible assumption) | assumption)
                      have q130 : (ji21) < (t124.length : Int) := of_decide_eq_true (by first | (with_reducible assumption) | assumption)
                      obtain ⟨ad130, e130, hx130_0, hx130_1, hx130_2⟩ := at_T34 (Kd.R_reads' HO_7.out).2.2 (ji21) p130 q130
                      cases e130
                      replace p130 := eq_true p130
                      replace q130 := eq_true q130
                      have p131 : 0 ≤ ((ji21) : Int) := of_decide_eq_true (by first | (with_reducible assumption) | assumption)
                      have q131 : (ji21) < (t124.length : Int) := of_decide_eq_true (by first | (with_reducible assumption) | assumption)
                      obtain ⟨ad131, e131, hx131_0, hx131_1, hx131_2⟩ := at_T34 (Kd.R_reads' HO_7.out).2.2 (ji21) p131 q131
                      obtain rfl : ad130 = ad131 := (by injection e131)
                      replace p131 := eq_true p131
                      replace q131 := eq_true q131
                      go_wp2
                      try subst hji21
                      go_meet
                      case rel => exact ⟨_, ((((rd_T34 t124 (((Int.tmod (wrap64 ((Int.tmod a1 (t124.length : Int)) + (t124.length : Int))) (t124.length : Int))))).f0) == 0)), (by first | rfl | (simp; done) | (rfl) | (simp [*]; done)), H', ⟨by have := HJ7.out; first | omega | exact Nat.le_refl _⟩, ⟨by (with_reducible repeat (first | apply Kd.R_alloc | apply Kd.R_drewN | apply Kd.R_drew)); exact HO_7.out⟩, ⟨by repeat (first | (with_reducible first | exact HB.out | apply below_alloc | apply pw_below_drewN | apply below_drew1) | exact HB.out)⟩⟩
                  · rw [if_neg c23] at H
                    exact absurd H (by simp)
                · rw [if_neg c22] at H
                  exact absurd H (by simp)
              case rest =>
                clear HC19
                try clear c1
                try clear p1
                try clear q1
                try clear hx1
                try clear c2
                try clear p2
                try clear c5
                try clear c5b0
                try clear c5b1
                try clear c6
                try clear c6b0
                try clear c6b1
                try clear p6
                try clear c10
                try clear c10b0
                try clear c10b1
                try clear c12
                try clear p13
                try clear q13
                try clear hx13
                try clear c14
                try clear c15
                try clear c18
                try clear c18b0
                try clear c18b1
                try clear c18b2
                try clear c19
                try clear c22
                try clear c22b0
                try clear c23
                try clear c23b0
                try clear c24
                try clear c24b0
                try clear c24b1
                try clear hx130_0
                try clear hx130_1
                try clear hx130_2
                try clear hx131_0
                try clear hx131_1
                try clear hx131_2
                try clear p130
                try clear p131
                try clear p2
                try clear q130
                try clear q131
                obtain ⟨kq, x64_18, rfl, HA, HJ18, HO_7, HB⟩ := hcut
                cases kq with
                | zero => exact absurd HA.out (by simp [doorwardlaw14_LexBlanks.j1])
                | succ kj18 =>
                  have H := HA.out
                  clear HA
                  simp only [doorwardlaw14_LexBlanks.j1] at H
                  have HC25 := Aside0.mk H
                  clear H
                  go_upto_if 64 with (fail)
                  go_cut [10] (fun v10 wc => ∃ (kq : Nat) (x10_24 : ByteArray), v10 = .string x10_24 ∧ Aside0 (doorwardlaw14_LexBlanks.j3 kq ys1 (Int.tmod (wrap64 ((Int.tmod a1 (t124.length : Int)) + (t124.length : Int))) (t124.length : Int)) t124 x10_24 = some r) ∧ Aside0 (kq ≤ kj18) ∧ Aside0 (Kd.R k34 34 wc w.heap.size (fun _ => True) (.slice Ao20 t124.length co20) t124) ∧ Aside0 (Below w.heap.size w wc))
                  case first =>
                    have H := HC25.out
                    clear HC25
                    by_cases c26 : x64_18 = true
                    · subst c26
                      have H1 : (doorwardlaw14_LexBlanks.l0 kj18 ys1 (Int.tmod (wrap64 ((Int.tmod a1 (t124.length : Int)) + (t124.length : Int))) (t124.length : Int)) a2 t124 (⟨#[32, 35]⟩ : ByteArray) (mn (a2.size : Int) 100) 0) = some r := by rw [if_pos rfl] at H; exact H
                      clear H
                      have H := H1
                      clear H1
                      obtain ⟨ji27, hji27⟩ : ∃ j_ : Int, (mn (a2.size : Int) 100) = j_ := ⟨_, rfl⟩
                      replace H : (doorwardlaw14_LexBlanks.l0 kj18 ys1 (Int.tmod (wrap64 ((Int.tmod a1 (t124.length : Int)) + (t124.length : Int))) (t124.length : Int)) a2 t124 (⟨#[32, 35]⟩ : ByteArray) ji27 0) = some r := by first | (rw [hji27] at H; exact H) | (simp only [hji27] at H ⊢; exact H)
                      have hji27_ : (if 100 < (a2.size : Int) then 100 else (a2.size : Int)) = ji27 := hji27
                      have H' := Aside0.mk H
                      clear H
                      go_wp2
                      go_loopg [10, 68] kj18 (fun kq v10 v68 w' => ∃ (x10_3 : ByteArray) (x68_3 : Int), v10 = .string x10_3 ∧ v68 = .int .i64 x68_3 ∧ Aside0 (doorwardlaw14_LexBlanks.l0 kq ys1 (Int.tmod (wrap64 ((Int.tmod a1 (t124.length : Int)) + (t124.length : Int))) (t124.length : Int)) a2 t124 x10_3 ji27 x68_3 = some r) ∧ Aside0 (kq ≤ kj18) ∧ Aside0 (Kd.R k34 34 w' w.heap.size (fun _ => True) (.slice Ao20 t124.length co20) t124) ∧ Aside0 (Below w.heap.size w w'))
                      case atStart => exact ⟨((⟨#[32, 35]⟩ : ByteArray)), (0), (by first | rfl | (simp; done) | (simp [*]; done)), (by first | rfl | (simp; done) | (simp [*]; done)), H', ⟨Nat.le_refl _⟩, ⟨by (with_reducible repeat (first | apply Kd.R_alloc | apply Kd.R_drewN | apply Kd.R_drew)); exact HO_7.out⟩, ⟨by repeat (first | (with_reducible first | exact HB.out | apply below_alloc | apply pw_below_drewN | apply below_drew1) | exact HB.out)⟩⟩
                      case round =>
                        clear H'
                        try clear c1
                        try clear p1
                        try clear q1
                        try clear hx1
                        try clear c2
                        try clear p2
                        try clear c5
                        try clear c5b0
                        try clear c5b1
                        try clear c6
                        try clear c6b0
                        try clear c6b1
                        try clear p6
                        try clear c10
                        try clear c10b0
                        try clear c10b1
                        try clear c12
                        try clear p13
                        try clear q13
                        try clear hx13
                        try clear c14
                        try clear c15
                        try clear c18
                        try clear c18b0
                        try clear c18b1
                        try clear c18b2
                        try clear c19
                        try clear c22
                        try clear c22b0
                        try clear c23
                        try clear c23b0
                        try clear c24
                        try clear c24b0
                        try clear c24b1
                        try clear c26
                        try clear hx130_0
                        try clear hx130_1
                        try clear hx130_2
                        try clear hx131_0
                        try clear hx131_1
                        try clear hx131_2
                        try clear p1
                        try clear p13
                        try clear p130
                        try clear p131
                        try clear p2
                        try clear p6
                        try clear q1
                        try clear q13
                        try clear q130
                        try clear q131
                        obtain ⟨x10_3, x68_3, rfl, rfl, HA, HK3, HO_7, HB⟩ := hrel
                        cases gk with
                        | zero => exact absurd HA.out (by simp [doorwardlaw14_LexBlanks.l0])
                        | succ k3 =>
                          have H := HA.out
                          clear HA
                          simp only [doorwardlaw14_LexBlanks.l0] at H
                          by_cases c28 : x68_3 < ji27
                          · rw [if_pos c28] at H
                            have c28b0 : decide (x68_3 < ji27) = true := decide_eq_true c28
                            clear c28
                            (first | rw [c28b0] | (simp only [i64_w, i32_w]; rw [c28b0]) | skip)
                            by_cases c29 : 0 ≤ x68_3
                            · rw [if_pos c29] at H
                              have c29b0 : decide (0 ≤ x68_3) = true := decide_eq_true c29
                              clear c29
                              by_cases c30 : x68_3 < (a2.size : Int)
                              · rw [if_pos c30] at H
                                have c30b0 : decide (x68_3 < (a2.size : Int)) = true := decide_eq_true c30
                                clear c30
                                by_cases c32 : (bt a2 x68_3) = 10
                                · rw [if_pos c32] at H
                                  have c32b0 : ((bt a2 x68_3) == 10) = true := beq_iff_eq.mpr c32
                                  have c32b1 : ((bt a2 x68_3) != 10) = false := bne_eq_false_iff_eq.mpr c32
                                  clear c32
                                  have H' := Aside0.mk H
                                  clear H
                                  have p31 : 0 ≤ (x68_3 : Int) := of_decide_eq_true (by first | (with_reducible assumption) | assumption)
                                  have q31 : x68_3 < (a2.size : Int) := of_decide_eq_true (by first | (with_reducible assumption) | assumption)
                                  have hx31 := bt_at a2 x68_3
                                  replace p31 := eq_true p31
                                  replace q31 := eq_true q31
                                  go_wp2
                                  go_roundg k3
                                  case measure => have := HJ7.out; have := HJ18.out; have := HK3.out; omega
                                  case rel => exact ⟨(x10_3), (wrap64 (x68_3 + 1)), (by first | rfl | (simp; done) | (simp [*]; done)), (by first | rfl | (simp; done) | (simp [*]; done)), H', ⟨by have := HJ7.out; have := HJ18.out; have := HK3.out; omega⟩, ⟨by (with_reducible repeat (first | apply Kd.R_alloc | apply Kd.R_drewN | apply Kd.R_drew)); exact HO_7.out⟩, ⟨by repeat (first | (with_reducible first | exact HB.out | apply below_alloc | apply pw_below_drewN | apply below_drew1) | exact HB.out)⟩⟩
                                · rw [if_neg c32] at H
                                  have c32b0 : ((bt a2 x68_3) == 10) = false := beq_eq_false_iff_ne.mpr c32
                                  have c32b1 : ((bt a2 x68_3) != 10) = true := bne_iff_ne.mpr c32
                                  have c33b0 := eq_true (of_decide_eq_true (by first | (with_reducible assumption) | assumption) : 0 ≤ x68_3)
                                  by_cases c34 : x68_3 ≤ (wrap64 (x68_3 + 1))
                                  · rw [if_pos c34] at H
                                    have c34b0 := eq_true c34
                                    have c34b1 : decide (x68_3 ≤ (wrap64 (x68_3 + 1))) = true := decide_eq_true c34
                                    by_cases c35 : (wrap64 (x68_3 + 1)) ≤ (a2.size : Int)
                                    · rw [if_pos c35] at H
                                      have c35b0 := eq_true c35
                                      have c35b1 : decide ((wrap64 (x68_3 + 1)) ≤ (a2.size : Int)) = true := decide_eq_true c35
                                      by_cases c36 : x10_3.size + (a2.extract (x68_3 : Int).toNat ((wrap64 (x68_3 + 1)) : Int).toNat).size ≤ 9223372036854775807
                                      · rw [if_pos c36] at H
                                        have c36b0 := eq_true c36
                                        have c36b1 : decide (x10_3.size + (a2.extract (x68_3 : Int).toNat ((wrap64 (x68_3 + 1)) : Int).toNat).size ≤ 9223372036854775807) = true := decide_eq_true c36
                                        try have c36b2 : (9223372036854775807 < x10_3.size + (a2.extract (x68_3 : Int).toNat ((wrap64 (x68_3 + 1)) : Int).toNat).size) = False := eq_false (Nat.not_lt.2 c36)
                                        have H' := Aside0.mk H
                                        clear H
                                        have p31 : 0 ≤ (x68_3 : Int) := of_decide_eq_true (by first | (with_reducible assumption) | assumption)
                                        have q31 : x68_3 < (a2.size : Int) := of_decide_eq_true (by first | (with_reducible assumption) | assumption)
                                        have hx31 := bt_at a2 x68_3
                                        replace p31 := eq_true p31
                                        replace q31 := eq_true q31
                                        go_wp2
                                        go_roundg k3
                                        case measure => have := HJ7.out; have := HJ18.out; have := HK3.out; omega
                                        case rel => exact ⟨(x10_3 ++ (a2.extract (x68_3 : Int).toNat ((wrap64 (x68_3 + 1)) : Int).toNat)), (wrap64 (x68_3 + 1)), (by first | rfl | (simp; done) | (simp [*]; done)), (by first | rfl | (simp; done) | (simp [*]; done)), H', ⟨by have := HJ7.out; have := HJ18.out; have := HK3.out; omega⟩, ⟨by (with_reducible repeat (first | apply Kd.R_alloc | apply Kd.R_drewN | apply Kd.R_drew)); exact HO_7.out⟩, ⟨by repeat (first | (with_reducible first | exact HB.out | apply below_alloc | apply pw_below_drewN | apply below_drew1) | exact HB.out)⟩⟩
                                      · rw [if_neg c36] at H
                                        exact absurd H (by simp)
                                    · rw [if_neg c35] at H
                                      exact absurd H (by simp)
                                  · rw [if_neg c34] at H
                                    exact absurd H (by simp)
                              · rw [if_neg c30] at H
                                exact absurd H (by simp)
                            · rw [if_neg c29] at H
                              exact absurd H (by simp)
                          · rw [if_neg c28] at H
                            have c28b0 : decide (x68_3 < ji27) = false := decide_eq_false c28
                            clear c28
                            (first | rw [c28b0] | (simp only [i64_w, i32_w]; rw [c28b0]) | skip)
                            have H' := Aside0.mk H
                            clear H
                            go_wp2
                            try subst hji27
                            go_meet
                            case rel => exact ⟨_, (x10_3), (by first | rfl | (simp; done) | (simp [*]; done)), H', ⟨by have := HJ7.out; have := HJ18.out; have := HK3.out; first | omega | exact Nat.le_refl _⟩, ⟨by (with_reducible repeat (first | apply Kd.R_alloc | apply Kd.R_drewN | apply Kd.R_drew)); exact HO_7.out⟩, ⟨by repeat (first | (with_reducible first | exact HB.out | apply below_alloc | apply pw_below_drewN | apply below_drew1) | exact HB.out)⟩⟩
                    · replace c26 := Bool.eq_false_iff.mpr c26
                      subst c26
                      have H1 : (doorwardlaw14_LexBlanks.j3 kj18 ys1 (Int.tmod (wrap64 ((Int.tmod a1 (t124.length : Int)) + (t124.length : Int))) (t124.length : Int)) t124 (⟨#[32, 9]⟩ : ByteArray)) = some r := by rw [if_neg (show ¬ (false = true) by decide)] at H; exact H
                      clear H
                      have H := H1
                      clear H1
                      have H' := Aside0.mk H
                      clear H
                      go_wp2
                      try subst hji27
                      go_meet
                      case rel => exact ⟨_, ((⟨#[32, 9]⟩ : ByteArray)), (by first | rfl | (simp; done) | (simp [*]; done)), H', ⟨by have := HJ7.out; have := HJ18.out; first | omega | exact Nat.le_refl _⟩, ⟨by (with_reducible repeat (first | apply Kd.R_alloc | apply Kd.R_drewN | apply Kd.R_drew)); exact HO_7.out⟩, ⟨by repeat (first | (with_reducible first | exact HB.out | apply below_alloc | apply pw_below_drewN | apply below_drew1) | exact HB.out)⟩⟩
                  case rest =>
                    clear HC25
                    try clear c1
                    try clear p1
                    try clear q1
                    try clear hx1
                    try clear c2
                    try clear p2
                    try clear c3
                    try clear p3
                    try clear q3
                    try clear hx3
                    try clear c5
                    try clear c5b0
                    try clear c5b1
                    try clear c6
                    try clear c6b0
                    try clear c6b1
                    try clear p6
                    try clear c10
                    try clear c10b0
                    try clear c10b1
                    try clear c12
                    try clear p13
                    try clear q13
                    try clear hx13
                    try clear c14
                    try clear c15
                    try clear c18
                    try clear c18b0
                    try clear c18b1
                    try clear c18b2
                    try clear c19
                    try clear c22
                    try clear c22b0
                    try clear c23
                    try clear c23b0
                    try clear c24
                    try clear c24b0
                    try clear c24b1
                    try clear c26
                    try clear c28
                    try clear c28b0
                    try clear c29
                    try clear c29b0
                    try clear c30
                    try clear c30b0
                    try clear p31
                    try clear q31
                    try clear hx31
                    try clear c32
                    try clear c32b0
                    try clear c32b1
                    try clear c33
                    try clear c33b0
                    try clear c34
                    try clear c34b0
                    try clear c34b1
                    try clear c35
                    try clear c35b0
                    try clear c35b1
                    try clear c36
                    try clear c36b0
                    try clear c36b1
                    try clear c36b2
                    try clear hx130_0
                    try clear hx130_1
                    try clear hx130_2
                    try clear hx131_0
                    try clear hx131_1
                    try clear hx131_2
                    try clear p1
                    try clear p13
                    try clear p130
                    try clear p131
                    try clear p2
                    try clear p31
                    try clear p6
                    try clear q1
                    try clear q13
                    try clear q130
                    try clear q131
                    try clear q31
                    obtain ⟨kq, x10_24, rfl, HA, HJ24, HO_7, HB⟩ := hcut
                    cases kq with
                    | zero => exact absurd HA.out (by simp [doorwardlaw14_LexBlanks.j3])
                    | succ kj24 =>
                      have H := HA.out
                      clear HA
                      simp only [doorwardlaw14_LexBlanks.j3] at H
                      obtain ⟨ji37, hji37⟩ : ∃ j_ : Int, (Int.tmod (wrap64 ((Int.tmod a1 (t124.length : Int)) + (t124.length : Int))) (t124.length : Int)) = j_ := ⟨_, rfl⟩
                      replace H : (if 0 ≤ (ji37) then (if (ji37) < (t124.length : Int) then (if ((rd_T34 t124 (ji37)).f2) < 0 then (doorwardlaw14_LexBlanks.j4 kj24 ys1 t124 x10_24 ((rd_T34 t124 (ji37)).f2) true) else (doorwardlaw14_LexBlanks.j4 kj24 ys1 t124 x10_24 ((rd_T34 t124 (ji37)).f2) (decide (((rd_T34 t124 (ji37)).f2) > (ys1.size : Int))))) else (none)) else (none)) = some r := by first | (rw [hji37] at H; exact H) | (simp only [hji37] at H ⊢; exact H)
                      by_cases c38 : 0 ≤ (ji37)
                      · rw [if_pos c38] at H
                        have c38b0 : decide (0 ≤ (ji37)) = true := decide_eq_true c38
                        clear c38
                        by_cases c39 : (ji37) < (t124.length : Int)
                        · rw [if_pos c39] at H
                          have c39b0 : decide ((ji37) < (t124.length : Int)) = true := decide_eq_true c39
                          clear c39
                          have HC40 := Aside0.mk H
                          clear H
                          have p132 : 0 ≤ ((ji37) : Int) := of_decide_eq_true (by first | (with_reducible assumption) | assumption)
                          have q132 : (ji37) < (t124.length : Int) := of_decide_eq_true (by first | (with_reducible assumption) | assumption)
                          obtain ⟨ad132, e132, hx132_0, hx132_1, hx132_2⟩ := at_T34 (Kd.R_reads' HO_7.out).2.2 (ji37) p132 q132
                          cases e132
                          replace p132 := eq_true p132
                          replace q132 := eq_true q132
                          go_upto_region 16 with (fail)
                          go_cut [95] (fun v95 wc => ∃ (kq : Nat) (x95_39 : Bool), v95 = .bool x95_39 ∧ Aside0 (doorwardlaw14_LexBlanks.j4 kq ys1 t124 x10_24 ((rd_T34 t124 (ji37)).f2) x95_39 = some r) ∧ Aside0 (kq ≤ kj24) ∧ Aside0 (Kd.R k34 34 wc w.heap.size (fun _ => True) (.slice (some ad132) t124.length co20) t124) ∧ Aside0 (Below w.heap.size w wc))
                          case first =>
                            have H := HC40.out
                            clear HC40
                            by_cases c41 : ((rd_T34 t124 (ji37)).f2) < 0
                            · rw [if_pos c41] at H
                              have c41b0 : decide (((rd_T34 t124 (ji37)).f2) < 0) = true := decide_eq_true c41
                              clear c41
                              (first | rw [c41b0] | (simp only [i64_w, i32_w]; rw [c41b0]) | skip)
                              have H' := Aside0.mk H
                              clear H
                              go_wp2
                              go_meet
                              case rel => exact ⟨_, (true), (by first | rfl | (simp; done) | (simp [*]; done)), H', ⟨by have := HJ7.out; have := HJ18.out; have := HJ24.out; first | omega | exact Nat.le_refl _⟩, ⟨by (with_reducible repeat (first | apply Kd.R_alloc | apply Kd.R_drewN | apply Kd.R_drew)); exact HO_7.out⟩, ⟨by repeat (first | (with_reducible first | exact HB.out | apply below_alloc | apply pw_below_drewN | apply below_drew1) | exact HB.out)⟩⟩
                            · rw [if_neg c41] at H
                              have c41b0 : decide (((rd_T34 t124 (ji37)).f2) < 0) = false := decide_eq_false c41
                              clear c41
                              (first | rw [c41b0] | (simp only [i64_w, i32_w]; rw [c41b0]) | skip)
                              have H' := Aside0.mk H
                              clear H
                              go_wp2
                              go_meet
                              case rel => exact ⟨_, (decide (((rd_T34 t124 (ji37)).f2) > (ys1.size : Int))), (by first | rfl | (simp; done) | (simp only [← hji4, ← hji37] <;> (first | rfl | simp)) | (simp [*]; done)), H', ⟨by have := HJ7.out; have := HJ18.out; have := HJ24.out; first | omega | exact Nat.le_refl _⟩, ⟨by (with_reducible repeat (first | apply Kd.R_alloc | apply Kd.R_drewN | apply Kd.R_drew)); exact HO_7.out⟩, ⟨by repeat (first | (with_reducible first | exact HB.out | apply below_alloc | apply pw_below_drewN | apply below_drew1) | exact HB.out)⟩⟩
                          case rest =>
                            clear HC40
                            try clear c1
                            try clear p1
                            try clear q1
                            try clear hx1
                            try clear c2
                            try clear p2
                            try clear c3
                            try clear p3
                            try clear q3
                            try clear hx3
                            try clear c4
                            try clear c5
                            try clear c5b0
                            try clear c5b1
                            try clear c6
                            try clear c6b0
                            try clear c6b1
                            try clear p6
                            try clear c10
                            try clear c10b0
                            try clear c10b1
                            try clear c12
                            try clear p13
                            try clear q13
                            try clear hx13
                            try clear c14
                            try clear c15
                            try clear c18
                            try clear c18b0
                            try clear c18b1
                            try clear c18b2
                            try clear c19
                            try clear c22
                            try clear c22b0
                            try clear c23
                            try clear c23b0
                            try clear c24
                            try clear c24b0
                            try clear c24b1
                            try clear c26
                            try clear c28
                            try clear c28b0
                            try clear c29
                            try clear c29b0
                            try clear c30
                            try clear c30b0
                            try clear p31
                            try clear q31
                            try clear hx31
                            try clear c32
                            try clear c32b0
                            try clear c32b1
                            try clear c33
                            try clear c33b0
                            try clear c34
                            try clear c34b0
                            try clear c34b1
                            try clear c35
                            try clear c35b0
                            try clear c35b1
                            try clear c36
                            try clear c36b0
                            try clear c36b1
                            try clear c36b2
                            try clear c38
                            try clear c38b0
                            try clear c39
                            try clear c39b0
                            try clear c41
                            try clear c41b0
                            try clear hx130_0
                            try clear hx130_1
                            try clear hx130_2
                            try clear hx131_0
                            try clear hx131_1
                            try clear hx131_2
                            try clear hx132_0
                            try clear hx132_1
                            try clear hx132_2
                            try clear p1
                            try clear p13
                            try clear p130
                            try clear p131
                            try clear p132
                            try clear p2
                            try clear p3
                            try clear p31
                            try clear p6
                            try clear q1
                            try clear q13
                            try clear q130
                            try clear q131
                            try clear q132
                            try clear q3
                            try clear q31
                            obtain ⟨kq, x95_39, rfl, HA, HJ39, HO_7, HB⟩ := hcut
                            cases kq with
                            | zero => exact absurd HA.out (by simp [doorwardlaw14_LexBlanks.j4])
                            | succ kj39 =>
                              have H := HA.out
                              clear HA
                              simp only [doorwardlaw14_LexBlanks.j4] at H
                              by_cases c42 : x95_39 = true
                              · subst c42
                                have H1 : (some false) = some r := by rw [if_pos rfl] at H; exact H
                                clear H
                                have H := H1
                                clear H1
                                obtain rfl := Option.some.inj H
                                go_wp2
                                go_ret
                                exact ⟨by first | rfl | (simp [errW_none, errW_some] <;> rfl) | (simp only [← hji4, ← hji37]; first | rfl | (simp [errW_none, errW_some] <;> rfl)) | (simp [*, errW_none, errW_some] <;> rfl), by repeat (first | (with_reducible first | exact HB.out | apply below_alloc | apply pw_below_drewN | apply below_drew1) | exact HB.out)⟩
                              · replace c42 := Bool.eq_false_iff.mpr c42
                                subst c42
                                have H1 : (if 0 ≤ ((rd_T34 t124 (ji37)).f2) then (if ((rd_T34 t124 (ji37)).f2) ≤ (ys1.size : Int) then (if (ys1.extract 0 (((rd_T34 t124 (ji37)).f2) : Int).toNat).size + x10_24.size ≤ 9223372036854775807 then (if ((ys1.extract 0 (((rd_T34 t124 (ji37)).f2) : Int).toNat) ++ x10_24).size + (ys1.extract (((rd_T34 t124 (ji37)).f2) : Int).toNat ys1.size).size ≤ 9223372036854775807 then ((lex_Lex.f (((ys1.extract 0 (((rd_T34 t124 (ji37)).f2) : Int).toNat) ++ x10_24) ++ (ys1.extract (((rd_T34 t124 (ji37)).f2) : Int).toNat ys1.size))).bind fun bt133 => (if bt133.2.1 = 0 then (doorwardlaw14_LexBlanks.j5 kj39 t124 bt133.1 ((bt133.1.length : Int) != (t124.length : Int))) else (doorwardlaw14_LexBlanks.j5 kj39 t124 bt133.1 true))) else (none)) else (none)) else (none)) else (none)) = some r := by rw [if_neg (show ¬ (false = true) by decide)] at H; exact H
                                clear H
                                have H := H1
                                clear H1
                                by_cases c43 : 0 ≤ ((rd_T34 t124 (ji37)).f2)
                                · rw [if_pos c43] at H
                                  have c43b0 := eq_true c43
                                  have c43b1 : decide (0 ≤ ((rd_T34 t124 (ji37)).f2)) = true := decide_eq_true c43
                                  clear c43
                                  by_cases c44 : ((rd_T34 t124 (ji37)).f2) ≤ (ys1.size : Int)
                                  · rw [if_pos c44] at H
                                    have c44b0 := eq_true c44
                                    have c44b1 : decide (((rd_T34 t124 (ji37)).f2) ≤ (ys1.size : Int)) = true := decide_eq_true c44
                                    clear c44
                                    by_cases c45 : (ys1.extract 0 (((rd_T34 t124 (ji37)).f2) : Int).toNat).size + x10_24.size ≤ 9223372036854775807
                                    · rw [if_pos c45] at H
                                      have c45b0 := eq_true c45
                                      have c45b1 : decide ((ys1.extract 0 (((rd_T34 t124 (ji37)).f2) : Int).toNat).size + x10_24.size ≤ 9223372036854775807) = true := decide_eq_true c45
                                      try have c45b2 : (9223372036854775807 < (ys1.extract 0 (((rd_T34 t124 (ji37)).f2) : Int).toNat).size + x10_24.size) = False := eq_false (Nat.not_lt.2 c45)
                                      try have c45b3 : (9223372036854775807 < (((rd_T34 t124 (ji37)).f2) : Int).toNat + x10_24.size) = False := eq_false (by have h0_ := c45; have f0_ := of_eq_true c44b0; simp only [ByteArray.size_append, ByteArray.size_extract] at h0_ ⊢; omega)
                                      have c46b0 := eq_true (of_decide_eq_true (by first | (with_reducible assumption) | assumption) : 0 ≤ ((rd_T34 t124 (ji37)).f2))
                                      have c47b0 := eq_true (of_decide_eq_true (by first | (with_reducible assumption) | assumption) : ((rd_T34 t124 (ji37)).f2) ≤ (ys1.size : Int))
                                      by_cases c48 : ((ys1.extract 0 (((rd_T34 t124 (ji37)).f2) : Int).toNat) ++ x10_24).size + (ys1.extract (((rd_T34 t124 (ji37)).f2) : Int).toNat ys1.size).size ≤ 9223372036854775807
                                      · rw [if_pos c48] at H
                                        have c48b0 := eq_true c48
                                        have c48b1 : decide (((ys1.extract 0 (((rd_T34 t124 (ji37)).f2) : Int).toNat) ++ x10_24).size + (ys1.extract (((rd_T34 t124 (ji37)).f2) : Int).toNat ys1.size).size ≤ 9223372036854775807) = true := decide_eq_true c48
                                        try have c48b2 : (9223372036854775807 < ((ys1.extract 0 (((rd_T34 t124 (ji37)).f2) : Int).toNat) ++ x10_24).size + (ys1.extract (((rd_T34 t124 (ji37)).f2) : Int).toNat ys1.size).size) = False := eq_false (Nat.not_lt.2 c48)
                                        try have c48b3 : (9223372036854775807 < (((rd_T34 t124 (ji37)).f2) : Int).toNat + x10_24.size + (ys1.size - (((rd_T34 t124 (ji37)).f2) : Int).toNat)) = False := eq_false (by have h0_ := c48; have f0_ := of_eq_true c44b0; simp only [ByteArray.size_append, ByteArray.size_extract] at h0_ ⊢; omega)
                                        replace H := Option.bind_eq_some_iff.mp H
                                        obtain ⟨⟨t133, t134, t135⟩, A490, H⟩ := H
                                        replace H : (if t134 = 0 then (doorwardlaw14_LexBlanks.j5 kj39 t124 t133 ((t133.length : Int) != (t124.length : Int))) else (doorwardlaw14_LexBlanks.j5 kj39 t124 t133 true)) = some r := H
                                        have A49 := Aside0.mk A490
                                        clear A490
                                        have HC50 := Aside0.mk H
                                        clear H
                                        try go_wp2
                                        have n0_ := Aside0.mk (Kd.R_drew HO_7.out)
                                        have n1_ := Aside0.mk (below_drew1 HB.out)
                                        clear HO_7
                                        clear HB
                                        have HO_7 := n0_
                                        have HB := n1_
                                        clear n0_ n1_
                                        refine start_ (n := 17) (S := fun w' => True) (ds := []) #[false, false, false, false, false, false, false, false, false, false, false, false, false, false, false, false, false] (by kernel_rfl) rfl rfl trivial (fun hHeld => ?_); refine with_tabW doorwardlaw14_LexBlanks.tab18 doorwardlaw14_LexBlanks.bits18 (fun HT_ HW_ => ?_)
                                        generalize wc.drew = w51 at HO_7 HB hHeld ⊢
                                        refine pure_ (i := 0) (N := some 97) (v := ?_) (a' := ?_) #[true, false, false, false, false, false, false, false, false, false, false, false, false, false, false, false, false] rfl rfl (any_of HT_.out (by kernel_rfl)) (fun _ _ _ h => h) (Or.inl ⟨by rfl, ?_⟩) ?_ ?_
                                        rotate_left
                                        · intro w'
                                          go_simp
                                          with_reducible rfl
                                        rotate_left
                                        · simp only [Act.put, List.setIfInBounds_toArray, List.set_cons_zero, List.set_cons_succ, i64_w, i32_w]
                                          rfl
                                        refine pure_ (i := 1) (N := some 98) (v := ?_) (a' := ?_) #[true, true, false, false, false, false, false, false, false, false, false, false, false, false, false, false, false] rfl rfl (any_of HT_.out (by kernel_rfl)) (fun _ _ _ h => h) (Or.inl ⟨by rfl, ?_⟩) ?_ ?_
                                        rotate_left
                                        · intro w'
                                          go_simp
                                          with_reducible rfl
                                        rotate_left
                                        · simp only [Act.put, List.setIfInBounds_toArray, List.set_cons_zero, List.set_cons_succ, i64_w, i32_w]
                                          rfl
                                        refine pure_ (i := 2) (N := some 99) (v := ?_) (a' := ?_) #[true, true, true, false, false, false, false, false, false, false, false, false, false, false, false, false, false] rfl rfl (any_of HT_.out (by kernel_rfl)) (fun _ _ _ h => h) (Or.inl ⟨by rfl, ?_⟩) ?_ ?_
                                        rotate_left
                                        · intro w'
                                          go_simp
                                          with_reducible rfl
                                        rotate_left
                                        · simp only [Act.put, List.setIfInBounds_toArray, List.set_cons_zero, List.set_cons_succ, i64_w, i32_w]
                                          rfl
                                        refine pure_ (i := 3) (N := some 100) (v := ?_) (a' := ?_) #[true, true, true, true, false, false, false, false, false, false, false, false, false, false, false, false, false] rfl rfl (any_of HT_.out (by kernel_rfl)) (fun _ _ _ h => h) (Or.inl ⟨by rfl, ?_⟩) ?_ ?_
                                        rotate_left
                                        · intro w'
                                          go_simp
                                          with_reducible rfl
                                        rotate_left
                                        · simp only [Act.put, List.setIfInBounds_toArray, List.set_cons_zero, List.set_cons_succ, i64_w, i32_w]
                                          rfl
                                        refine pure_ (i := 4) (N := some 101) (v := ?_) (a' := ?_) #[true, true, true, true, true, false, false, false, false, false, false, false, false, false, false, false, false] rfl rfl (any_of HT_.out (by kernel_rfl)) (fun _ _ _ h => h) (Or.inl ⟨by rfl, ?_⟩) ?_ ?_
                                        rotate_left
                                        · intro w'
                                          go_simp
                                          with_reducible rfl
                                        rotate_left
                                        · simp only [Act.put, List.setIfInBounds_toArray, List.set_cons_zero, List.set_cons_succ, i64_w, i32_w]
                                          rfl
                                        refine pure_ (i := 5) (N := some 102) (v := ?_) (a' := ?_) #[true, true, true, true, true, true, false, false, false, false, false, false, false, false, false, false, false] rfl rfl (any_of HT_.out (by kernel_rfl)) (fun _ _ _ h => h) (Or.inl ⟨by rfl, ?_⟩) ?_ ?_
                                        rotate_left
                                        · intro w'
                                          go_simp
                                          with_reducible rfl
                                        rotate_left
                                        · simp only [Act.put, List.setIfInBounds_toArray, List.set_cons_zero, List.set_cons_succ, i64_w, i32_w]
                                          rfl
                                        refine pure_ (i := 6) (N := some 103) (v := ?_) (a' := ?_) #[true, true, true, true, true, true, true, false, false, false, false, false, false, false, false, false, false] rfl rfl (any_of HT_.out (by kernel_rfl)) (fun _ _ _ h => h) (Or.inl ⟨by rfl, ?_⟩) ?_ ?_
                                        rotate_left
                                        · intro w'
                                          go_simp
                                          with_reducible rfl
                                        rotate_left
                                        · simp only [Act.put, List.setIfInBounds_toArray, List.set_cons_zero, List.set_cons_succ, i64_w, i32_w]
                                          rfl
                                        refine pure_ (i := 7) (N := some 104) (v := ?_) (a' := ?_) #[true, true, true, true, true, true, true, true, false, false, false, false, false, false, false, false, false] rfl rfl (any_of HT_.out (by kernel_rfl)) (fun _ _ _ h => h) (Or.inl ⟨by rfl, ?_⟩) ?_ ?_
                                        rotate_left
                                        · intro w'
                                          go_simp
                                          with_reducible rfl
                                        rotate_left
                                        · simp only [Act.put, List.setIfInBounds_toArray, List.set_cons_zero, List.set_cons_succ, i64_w, i32_w]
                                          rfl
                                        refine pure_ (i := 8) (N := some 105) (v := ?_) (a' := ?_) #[true, true, true, true, true, true, true, true, true, false, false, false, false, false, false, false, false] rfl rfl (any_of HT_.out (by kernel_rfl)) (fun _ _ _ h => h) (Or.inl ⟨by rfl, ?_⟩) ?_ ?_
                                        rotate_left
                                        · intro w'
                                          go_simp
                                          with_reducible rfl
                                        rotate_left
                                        · simp only [Act.put, List.setIfInBounds_toArray, List.set_cons_zero, List.set_cons_succ, i64_w, i32_w]
                                          rfl
                                        refine one_ (i := 9) (N := some 106) #[true, true, true, true, true, true, true, true, true, true, false, false, false, false, false, false, false] rfl rfl (one_of HT_.out (by kernel_rfl)) (by decide) (fun K hK => ?_)
                                        refine goes_ Tryd.func15 (by kernel_rfl) rfl #[.string (((ys1.extract 0 (((rd_T34 t124 (ji37)).f2) : Int).toNat) ++ x10_24) ++ (ys1.extract (((rd_T34 t124 (ji37)).f2) : Int).toNat ys1.size))] (by rfl) rfl rfl (by (try simp only [List.map_toArray, List.map_cons, List.map_nil]); first | done | (simp only [hji37, hji4]; rfl) | rfl | (simp only [List.length_drop, List.length_take]; rfl)) ?_
                                        with_reducible refine (lex_Lex.calls (((ys1.extract 0 (((rd_T34 t124 (ji37)).f2) : Int).toNat) ++ x10_24) ++ (ys1.extract (((rd_T34 t124 (ji37)).f2) : Int).toNat ys1.size)) t133 t134 t135 _ ?side1 A49.out).mono ?_
                                        (case side1 => exact LaidAt.of HLD.out (by repeat (first | (with_reducible first | exact HB.out | apply below_alloc | apply pw_below_drewN | apply below_drew1) | exact HB.out)))
                                        rintro e w52 ⟨v136, rfl, ho0, hb⟩
                                        refine ⟨_, rfl, ?_⟩
                                        have n0_ := Aside0.mk (Kd.R_elder' (by (with_reducible repeat (first | apply Kd.R_alloc | apply Kd.R_drewN | apply Kd.R_drew)); exact HO_7.out) (Kd.R_base ho0) hb)
                                        have n1_ := Aside0.mk (Kd.R_lower (Kd.R_new' ho0 (Kd.R_lt (by (with_reducible repeat (first | apply Kd.R_alloc | apply Kd.R_drewN | apply Kd.R_drew)); exact HO_7.out))) (below_size (by repeat (first | (with_reducible first | exact HB.out | apply below_alloc | apply pw_below_drewN | apply below_drew1) | exact HB.out))))
                                        have n2_ := Aside0.mk (below_step (by repeat (first | (with_reducible first | exact HB.out | apply below_alloc | apply pw_below_drewN | apply below_drew1) | exact HB.out)) hb)
                                        clear HO_7
                                        clear HB
                                        have HO_7 := n0_
                                        have HO137 := n1_
                                        have HB := n2_
                                        clear n0_ n1_ n2_
                                        (try clear hb)
                                        (try clear hb2)
                                        (try clear hk)
                                        (try clear hi)
                                        (try clear ho0)
                                        refine hK.out _ _ trivial (fun hHeld => ?_)
                                        clear hK K
                                        refine norm_ (a' := ?_) ?_ ?_
                                        rotate_left
                                        · show Act.put _ (some 106) _ = _
                                          simp only [Act.put, List.setIfInBounds_toArray, List.set_cons_zero, List.set_cons_succ, i64_w, i32_w]
                                          rfl
                                        refine pure_ (i := 10) (N := some 96) (v := ?_) (a' := ?_) #[true, true, true, true, true, true, true, true, true, true, true, false, false, false, false, false, false] rfl rfl (any_of HT_.out (by kernel_rfl)) (fun _ _ _ h => h) (Or.inl ⟨by rfl, ?_⟩) ?_ ?_
                                        rotate_left
                                        · intro w'
                                          go_simp
                                          with_reducible rfl
                                        rotate_left
                                        · simp only [Act.put, List.setIfInBounds_toArray, List.set_cons_zero, List.set_cons_succ, i64_w, i32_w]
                                          rfl
                                        refine pure_ (i := 11) (N := some 107) (v := ?_) (a' := ?_) #[true, true, true, true, true, true, true, true, true, true, true, true, false, false, false, false, false] rfl rfl (any_of HT_.out (by kernel_rfl)) (fun _ _ _ h => h) (Or.inl ⟨by rfl, ?_⟩) ?_ ?_
                                        rotate_left
                                        · intro w'
                                          go_simp
                                          with_reducible rfl
                                        rotate_left
                                        · simp only [Act.put, List.setIfInBounds_toArray, List.set_cons_zero, List.set_cons_succ, i64_w, i32_w]
                                          rfl
                                        refine pure_ (i := 12) (N := some 108) (v := ?_) (a' := ?_) #[true, true, true, true, true, true, true, true, true, true, true, true, true, false, false, false, false] rfl rfl (any_of HT_.out (by kernel_rfl)) (fun _ _ _ h => h) (Or.inl ⟨by rfl, ?_⟩) ?_ ?_
                                        rotate_left
                                        · intro w'
                                          go_simp
                                          with_reducible rfl
                                        rotate_left
                                        · simp only [Act.put, List.setIfInBounds_toArray, List.set_cons_zero, List.set_cons_succ, i64_w, i32_w]
                                          rfl
                                        refine pure_ (i := 13) (N := some 109) (v := ?_) (a' := ?_) #[true, true, true, true, true, true, true, true, true, true, true, true, true, true, false, false, false] rfl rfl (any_of HT_.out (by kernel_rfl)) (fun _ _ _ h => h) (Or.inl ⟨by rfl, ?_⟩) ?_ ?_
                                        rotate_left
                                        · intro w'
                                          go_simp
                                          with_reducible rfl
                                        rotate_left
                                        · simp only [Act.put, List.setIfInBounds_toArray, List.set_cons_zero, List.set_cons_succ, i64_w, i32_w]
                                          rfl
                                        refine pure_ (i := 14) (N := some 13) (v := ?_) (a' := ?_) #[true, true, true, true, true, true, true, true, true, true, true, true, true, true, true, false, false] rfl rfl (any_of HT_.out (by kernel_rfl)) (fun _ _ _ h => h) (Or.inl ⟨by rfl, ?_⟩) ?_ ?_
                                        rotate_left
                                        · intro w'
                                          go_simp
                                          with_reducible rfl
                                        rotate_left
                                        · simp only [Act.put, List.setIfInBounds_toArray, List.set_cons_zero, List.set_cons_succ, i64_w, i32_w]
                                          rfl
                                        refine pure_ (i := 15) (N := some 14) (v := ?_) (a' := ?_) #[true, true, true, true, true, true, true, true, true, true, true, true, true, true, true, true, false] rfl rfl (any_of HT_.out (by kernel_rfl)) (fun _ _ _ h => h) (Or.inl ⟨by rfl, ?_⟩) ?_ ?_
                                        rotate_left
                                        · intro w'
                                          go_simp
                                          with_reducible rfl
                                        rotate_left
                                        · simp only [Act.put, List.setIfInBounds_toArray, List.set_cons_zero, List.set_cons_succ, i64_w, i32_w]
                                          rfl
                                        refine pure_ (i := 16) (N := some 15) (v := ?_) (a' := ?_) #[true, true, true, true, true, true, true, true, true, true, true, true, true, true, true, true, true] rfl rfl (any_of HT_.out (by kernel_rfl)) (fun _ _ _ h => h) (Or.inl ⟨by rfl, ?_⟩) ?_ ?_
                                        rotate_left
                                        · intro w'
                                          go_simp
                                          with_reducible rfl
                                        rotate_left
                                        · simp only [Act.put, List.setIfInBounds_toArray, List.set_cons_zero, List.set_cons_succ, i64_w, i32_w]
                                          rfl
                                        refine done_ (done_of HT_.out (by kernel_rfl)) ?_
                                        go_upto_region 19 with (fail)
                                        go_cut [118] (fun v118 wc => ∃ (kq : Nat) (x118_49 : Bool), v118 = .bool x118_49 ∧ Aside0 (doorwardlaw14_LexBlanks.j5 kq t124 t133 x118_49 = some r) ∧ Aside0 (kq ≤ kj39) ∧ Aside0 (Kd.R k34 34 wc w.heap.size (fun k_ => some k_ ≠ (v136 : Value).ownBlock) (.slice (some ad132) t124.length co20) t124) ∧ Aside0 (Kd.R k34 34 wc w.heap.size (fun k_ => some k_ ≠ ((.slice (some ad132) t124.length co20) : Value).ownBlock) v136 t133) ∧ Aside0 (Below w.heap.size w wc))
                                        case first =>
                                          have H := HC50.out
                                          clear HC50
                                          by_cases c53 : t134 = 0
                                          · rw [if_pos c53] at H
                                            have c53b0 : (t134 == 0) = true := beq_iff_eq.mpr c53
                                            have c53b1 : (t134 != 0) = false := bne_eq_false_iff_eq.mpr c53
                                            clear c53
                                            (first | rw [c53b0] | (simp only [i64_w, i32_w]; rw [c53b0]) | skip)
                                            have H' := Aside0.mk H
                                            clear H
                                            obtain ⟨Ao54, co54, eo54⟩ := Kd.R_slice HO137.out
                                            subst eo54
                                            go_wp2
                                            go_meet
                                            case rel => exact ⟨_, (((t133.length : Int) != (t124.length : Int))), (by first | rfl | (simp; done) | (simp [*]; done)), H', ⟨by have := HJ7.out; have := HJ18.out; have := HJ24.out; have := HJ39.out; first | omega | exact Nat.le_refl _⟩, ⟨by (with_reducible repeat (first | apply Kd.R_alloc | apply Kd.R_drewN | apply Kd.R_drew)); exact Kd.R_mono HO_7.out (fun _ hk => hk.2)⟩, ⟨by (with_reducible repeat (first | apply Kd.R_alloc | apply Kd.R_drewN | apply Kd.R_drew)); exact Kd.R_mono HO137.out (fun _ hk => hk.2)⟩, ⟨by repeat (first | (with_reducible first | exact HB.out | apply below_alloc | apply pw_below_drewN | apply below_drew1) | exact HB.out)⟩⟩
                                          · rw [if_neg c53] at H
                                            have c53b0 : (t134 == 0) = false := beq_eq_false_iff_ne.mpr c53
                                            have c53b1 : (t134 != 0) = true := bne_iff_ne.mpr c53
                                            (first | rw [c53b0] | (simp only [i64_w, i32_w]; rw [c53b0]) | skip)
                                            have H' := Aside0.mk H
                                            clear H
                                            go_wp2
                                            go_meet
                                            case rel => exact ⟨_, (true), (by first | rfl | (simp; done) | (simp [*]; done)), H', ⟨by have := HJ7.out; have := HJ18.out; have := HJ24.out; have := HJ39.out; first | omega | exact Nat.le_refl _⟩, ⟨by (with_reducible repeat (first | apply Kd.R_alloc | apply Kd.R_drewN | apply Kd.R_drew)); exact Kd.R_mono HO_7.out (fun _ hk => hk.2)⟩, ⟨by (with_reducible repeat (first | apply Kd.R_alloc | apply Kd.R_drewN | apply Kd.R_drew)); exact Kd.R_mono HO137.out (fun _ hk => hk.2)⟩, ⟨by repeat (first | (with_reducible first | exact HB.out | apply below_alloc | apply pw_below_drewN | apply below_drew1) | exact HB.out)⟩⟩
                                        case rest =>
                                          clear HC50
                                          try clear c1
                                          try clear p1
                                          try clear q1
                                          try clear hx1
                                          try clear c2
                                          try clear p2
                                          try clear c3
                                          try clear p3
                                          try clear q3
                                          try clear hx3
                                          try clear c4
                                          try clear c5
                                          try clear c5b0
                                          try clear c5b1
                                          try clear c6
                                          try clear c6b0
                                          try clear c6b1
                                          try clear p6
                                          try clear c10
                                          try clear c10b0
                                          try clear c10b1
                                          try clear c12
                                          try clear p13
                                          try clear q13
                                          try clear hx13
                                          try clear c14
                                          try clear c15
                                          try clear c18
                                          try clear c18b0
                                          try clear c18b1
                                          try clear c18b2
                                          try clear c19
                                          try clear c22
                                          try clear c22b0
                                          try clear c23
                                          try clear c23b0
                                          try clear c24
                                          try clear c24b0
                                          try clear c24b1
                                          try clear c26
                                          try clear c28
                                          try clear c28b0
                                          try clear c29
                                          try clear c29b0
                                          try clear c30
                                          try clear c30b0
                                          try clear p31
                                          try clear q31
                                          try clear hx31
                                          try clear c32
                                          try clear c32b0
                                          try clear c32b1
                                          try clear c33
                                          try clear c33b0
                                          try clear c34
                                          try clear c34b0
                                          try clear c34b1
                                          try clear c35
                                          try clear c35b0
                                          try clear c35b1
                                          try clear c36
                                          try clear c36b0
                                          try clear c36b1
                                          try clear c36b2
                                          try clear c38
                                          try clear c38b0
                                          try clear c39
                                          try clear c39b0
                                          try clear c41
                                          try clear c41b0
                                          try clear c42
                                          try clear c43
                                          try clear c43b0
                                          try clear c43b1
                                          try clear c44
                                          try clear c44b0
                                          try clear c44b1
                                          try clear c45
                                          try clear c45b0
                                          try clear c45b1
                                          try clear c45b2
                                          try clear c46
                                          try clear c46b0
                                          try clear c47
                                          try clear c47b0
                                          try clear c48
                                          try clear c48b0
                                          try clear c48b1
                                          try clear c48b2
                                          try clear c53
                                          try clear c53b0
                                          try clear c53b1
                                          try clear hx130_0
                                          try clear hx130_1
                                          try clear hx130_2
                                          try clear hx131_0
                                          try clear hx131_1
                                          try clear hx131_2
                                          try clear hx132_0
                                          try clear hx132_1
                                          try clear hx132_2
                                          try clear p1
                                          try clear p13
                                          try clear p130
                                          try clear p131
                                          try clear p132
                                          try clear p2
                                          try clear p3
                                          try clear p31
                                          try clear p6
                                          try clear q1
                                          try clear q13
                                          try clear q130
                                          try clear q131
                                          try clear q132
                                          try clear q3
                                          try clear q31
                                          obtain ⟨kq, x118_49, rfl, HA, HJ49, HO_7, HO_13, HB⟩ := hcut
                                          cases kq with
                                          | zero => exact absurd HA.out (by simp [doorwardlaw14_LexBlanks.j5])
                                          | succ kj49 =>
                                            have H := HA.out
                                            clear HA
                                            simp only [doorwardlaw14_LexBlanks.j5] at H
                                            by_cases c55 : x118_49 = true
                                            · subst c55
                                              have H1 : (some false) = some r := by rw [if_pos rfl] at H; exact H
                                              clear H
                                              have H := H1
                                              clear H1
                                              obtain rfl := Option.some.inj H
                                              go_wp2
                                              go_ret
                                              exact ⟨by first | rfl | (simp [errW_none, errW_some] <;> rfl) | (simp only [← hji4, ← hji37]; first | rfl | (simp [errW_none, errW_some] <;> rfl)) | (simp [*, errW_none, errW_some] <;> rfl), by repeat (first | (with_reducible first | exact HB.out | apply below_alloc | apply pw_below_drewN | apply below_drew1) | exact HB.out)⟩
                                            · replace c55 := Bool.eq_false_iff.mpr c55
                                              subst c55
                                              have H1 : (doorwardlaw14_LexBlanks.l1 kj49 t124 t133 (t124.length : Int) 0) = some r := by rw [if_neg (show ¬ (false = true) by decide)] at H; exact H
                                              clear H
                                              have H := H1
                                              clear H1
                                              have H' := Aside0.mk H
                                              clear H
                                              go_wp2
                                              go_loopg [121] kj49 (fun kq v121 w' => ∃ (x121_6 : Int), v121 = .int .i64 x121_6 ∧ Aside0 (doorwardlaw14_LexBlanks.l1 kq t124 t133 (t124.length : Int) x121_6 = some r) ∧ Aside0 (kq ≤ kj49) ∧ Aside0 (Kd.R k34 34 w' w.heap.size (fun k_ => some k_ ≠ (v136 : Value).ownBlock) (.slice (some ad132) t124.length co20) t124) ∧ Aside0 (Kd.R k34 34 w' w.heap.size (fun k_ => some k_ ≠ ((.slice (some ad132) t124.length co20) : Value).ownBlock) v136 t133) ∧ Aside0 (Below w.heap.size w w'))
                                              case atStart => exact ⟨(0), (by first | rfl | (simp; done) | (simp [*]; done)), H', ⟨Nat.le_refl _⟩, ⟨by (with_reducible repeat (first | apply Kd.R_alloc | apply Kd.R_drewN | apply Kd.R_drew)); exact HO_7.out⟩, ⟨by (with_reducible repeat (first | apply Kd.R_alloc | apply Kd.R_drewN | apply Kd.R_drew)); exact HO_13.out⟩, ⟨by repeat (first | (with_reducible first | exact HB.out | apply below_alloc | apply pw_below_drewN | apply below_drew1) | exact HB.out)⟩⟩
                                              case round =>
                                                clear H'
                                                try clear c1
                                                try clear p1
                                                try clear q1
                                                try clear hx1
                                                try clear c2
                                                try clear p2
                                                try clear c3
                                                try clear p3
                                                try clear q3
                                                try clear hx3
                                                try clear c4
                                                try clear c5
                                                try clear c5b0
                                                try clear c5b1
                                                try clear c6
                                                try clear c6b0
                                                try clear c6b1
                                                try clear p6
                                                try clear c10
                                                try clear c10b0
                                                try clear c10b1
                                                try clear c12
                                                try clear p13
                                                try clear q13
                                                try clear hx13
                                                try clear c14
                                                try clear c15
                                                try clear c18
                                                try clear c18b0
                                                try clear c18b1
                                                try clear c18b2
                                                try clear c19
                                                try clear c22
                                                try clear c22b0
                                                try clear c23
                                                try clear c23b0
                                                try clear c24
                                                try clear c24b0
                                                try clear c24b1
                                                try clear c26
                                                try clear c28
                                                try clear c28b0
                                                try clear c29
                                                try clear c29b0
                                                try clear c30
                                                try clear c30b0
                                                try clear p31
                                                try clear q31
                                                try clear hx31
                                                try clear c32
                                                try clear c32b0
                                                try clear c32b1
                                                try clear c33
                                                try clear c33b0
                                                try clear c34
                                                try clear c34b0
                                                try clear c34b1
                                                try clear c35
                                                try clear c35b0
                                                try clear c35b1
                                                try clear c36
                                                try clear c36b0
                                                try clear c36b1
                                                try clear c36b2
                                                try clear c38
                                                try clear c38b0
                                                try clear c39
                                                try clear c39b0
                                                try clear c41
                                                try clear c41b0
                                                try clear c42
                                                try clear c43
                                                try clear c43b0
                                                try clear c43b1
                                                try clear c44
                                                try clear c44b0
                                                try clear c44b1
                                                try clear c45
                                                try clear c45b0
                                                try clear c45b1
                                                try clear c45b2
                                                try clear c46
                                                try clear c46b0
                                                try clear c47
                                                try clear c47b0
                                                try clear c48
                                                try clear c48b0
                                                try clear c48b1
                                                try clear c48b2
                                                try clear c53
                                                try clear c53b0
                                                try clear c53b1
                                                try clear c55
                                                try clear hx130_0
                                                try clear hx130_1
                                                try clear hx130_2
                                                try clear hx131_0
                                                try clear hx131_1
                                                try clear hx131_2
                                                try clear hx132_0
                                                try clear hx132_1
                                                try clear hx132_2
                                                try clear p1
                                                try clear p13
                                                try clear p130
                                                try clear p131
                                                try clear p132
                                                try clear p2
                                                try clear p3
                                                try clear p31
                                                try clear p6
                                                try clear q1
                                                try clear q13
                                                try clear q130
                                                try clear q131
                                                try clear q132
                                                try clear q3
                                                try clear q31
                                                obtain ⟨x121_6, rfl, HA, HK6, HO_7, HO_13, HB⟩ := hrel
                                                cases gk with
                                                | zero => exact absurd HA.out (by simp [doorwardlaw14_LexBlanks.l1])
                                                | succ k6 =>
                                                  have H := HA.out
                                                  clear HA
                                                  simp only [doorwardlaw14_LexBlanks.l1] at H
                                                  by_cases c56 : x121_6 < (t124.length : Int)
                                                  · rw [if_pos c56] at H
                                                    have c56b0 : decide (x121_6 < (t124.length : Int)) = true := decide_eq_true c56
                                                    clear c56
                                                    by_cases c57 : 0 ≤ x121_6
                                                    · rw [if_pos c57] at H
                                                      have c57b0 : decide (0 ≤ x121_6) = true := decide_eq_true c57
                                                      clear c57
                                                      by_cases c58 : x121_6 < (t124.length : Int)
                                                      · rw [if_pos c58] at H
                                                        have c58b0 : decide (x121_6 < (t124.length : Int)) = true := decide_eq_true c58
                                                        clear c58
                                                        by_cases c59 : x121_6 < (t133.length : Int)
                                                        · rw [if_pos c59] at H
                                                          have c59b0 : decide (x121_6 < (t133.length : Int)) = true := decide_eq_true c59
                                                          clear c59
                                                          by_cases c60 : ((rd_T34 t124 x121_6).f0) = ((rd_T34 t133 x121_6).f0)
                                                          · rw [if_pos c60] at H
                                                            have c60b0 : (((rd_T34 t124 x121_6).f0) == ((rd_T34 t133 x121_6).f0)) = true := beq_iff_eq.mpr c60
                                                            have c60b1 : (((rd_T34 t124 x121_6).f0) != ((rd_T34 t133 x121_6).f0)) = false := bne_eq_false_iff_eq.mpr c60
                                                            clear c60
                                                            by_cases c61 : ((rd_T34 t124 x121_6).f1).toList = ((rd_T34 t133 x121_6).f1).toList
                                                            · rw [if_pos c61] at H
                                                              have c61b0 : (((rd_T34 t124 x121_6).f1).toList == ((rd_T34 t133 x121_6).f1).toList) = true := beq_iff_eq.mpr c61
                                                              have c61b1 : (((rd_T34 t124 x121_6).f1).toList != ((rd_T34 t133 x121_6).f1).toList) = false := bne_eq_false_iff_eq.mpr c61
                                                              clear c61
                                                              have H' := Aside0.mk H
                                                              clear H
                                                              try go_wp2
                                                              have n0_ := Aside0.mk (Kd.R_drew HO_7.out)
                                                              have n1_ := Aside0.mk (Kd.R_drew HO_13.out)
                                                              have n2_ := Aside0.mk (below_drew1 HB.out)
                                                              clear HO_7
                                                              clear HO_13
                                                              clear HB
                                                              have HO_7 := n0_
                                                              have HO_13 := n1_
                                                              have HB := n2_
                                                              clear n0_ n1_ n2_
                                                              have p138 : 0 ≤ (x121_6 : Int) := of_decide_eq_true (by first | (with_reducible assumption) | assumption)
                                                              have q138 : x121_6 < (t124.length : Int) := of_decide_eq_true (by first | (with_reducible assumption) | assumption)
                                                              obtain ⟨ad138, e138, hx138_0, hx138_1, hx138_2⟩ := at_T34 (Kd.R_reads' HO_7.out).2.2 x121_6 p138 q138
                                                              obtain rfl : ad132 = ad138 := (by injection e138)
                                                              replace p138 := eq_true p138
                                                              replace q138 := eq_true q138
                                                              obtain ⟨Ao63, co63, eo63⟩ := Kd.R_slice HO_13.out
                                                              (first | subst eo63 | (injection eo63 with f1_ f2_ f3_; have f4_ := f1_.symm; have f5_ := f3_.symm; clear f1_ f2_ f3_; subst f4_; subst f5_))
                                                              have p139 : 0 ≤ (x121_6 : Int) := of_decide_eq_true (by first | (with_reducible assumption) | assumption)
                                                              have q139 : x121_6 < (t133.length : Int) := of_decide_eq_true (by first | (with_reducible assumption) | assumption)
                                                              obtain ⟨ad139, e139, hx139_0, hx139_1, hx139_2⟩ := at_T34 (Kd.R_reads' HO_13.out).2.2 x121_6 p139 q139
                                                              cases e139
                                                              replace p139 := eq_true p139
                                                              replace q139 := eq_true q139
                                                              have p140 : 0 ≤ (x121_6 : Int) := of_decide_eq_true (by first | (with_reducible assumption) | assumption)
                                                              have q140 : x121_6 < (t124.length : Int) := of_decide_eq_true (by first | (with_reducible assumption) | assumption)
                                                              obtain ⟨ad140, e140, hx140_0, hx140_1, hx140_2⟩ := at_T34 (Kd.R_reads' HO_7.out).2.2 x121_6 p140 q140
                                                              obtain rfl : ad132 = ad140 := (by injection e140)
                                                              replace p140 := eq_true p140
                                                              replace q140 := eq_true q140
                                                              have p141 : 0 ≤ (x121_6 : Int) := of_decide_eq_true (by first | (with_reducible assumption) | assumption)
                                                              have q141 : x121_6 < (t133.length : Int) := of_decide_eq_true (by first | (with_reducible assumption) | assumption)
                                                              obtain ⟨ad141, e141, hx141_0, hx141_1, hx141_2⟩ := at_T34 (Kd.R_reads' HO_13.out).2.2 x121_6 p141 q141
                                                              obtain rfl : ad139 = ad141 := (by injection e141)
                                                              replace p141 := eq_true p141
                                                              replace q141 := eq_true q141
                                                              refine start_ (n := 24) (S := fun w' => w'.cell? (ad132.add ((x121_6).toNat * 3)) = some (.int .i64 ((rd_T34 t124 x121_6).f0)) ∧ w'.cell? ⟨(ad132.add ((x121_6).toNat * 3)).block, (ad132.add ((x121_6).toNat * 3)).off + 1, none⟩ = some (.string ((rd_T34 t124 x121_6).f1)) ∧ w'.cell? ⟨(ad132.add ((x121_6).toNat * 3)).block, (ad132.add ((x121_6).toNat * 3)).off + 2, none⟩ = some (.int .i64 ((rd_T34 t124 x121_6).f2)) ∧ w'.cell? (ad139.add ((x121_6).toNat * 3)) = some (.int .i64 ((rd_T34 t133 x121_6).f0)) ∧ w'.cell? ⟨(ad139.add ((x121_6).toNat * 3)).block, (ad139.add ((x121_6).toNat * 3)).off + 1, none⟩ = some (.string ((rd_T34 t133 x121_6).f1)) ∧ w'.cell? ⟨(ad139.add ((x121_6).toNat * 3)).block, (ad139.add ((x121_6).toNat * 3)).off + 2, none⟩ = some (.int .i64 ((rd_T34 t133 x121_6).f2)) ∧ w'.cell? (ad132.add ((x121_6).toNat * 3)) = some (.int .i64 ((rd_T34 t124 x121_6).f0)) ∧ w'.cell? ⟨(ad132.add ((x121_6).toNat * 3)).block, (ad132.add ((x121_6).toNat * 3)).off + 1, none⟩ = some (.string ((rd_T34 t124 x121_6).f1)) ∧ w'.cell? ⟨(ad132.add ((x121_6).toNat * 3)).block, (ad132.add ((x121_6).toNat * 3)).off + 2, none⟩ = some (.int .i64 ((rd_T34 t124 x121_6).f2)) ∧ w'.cell? (ad139.add ((x121_6).toNat * 3)) = some (.int .i64 ((rd_T34 t133 x121_6).f0)) ∧ w'.cell? ⟨(ad139.add ((x121_6).toNat * 3)).block, (ad139.add ((x121_6).toNat * 3)).off + 1, none⟩ = some (.string ((rd_T34 t133 x121_6).f1)) ∧ w'.cell? ⟨(ad139.add ((x121_6).toNat * 3)).block, (ad139.add ((x121_6).toNat * 3)).off + 2, none⟩ = some (.int .i64 ((rd_T34 t133 x121_6).f2))) (ds := []) #[false, false, false, false, false, false, false, false, false, false, false, false, false, false, false, false, false, false, false, false, false, false, false, false] (by kernel_rfl) rfl rfl ⟨hx138_0, hx138_1, hx138_2, hx139_0, hx139_1, hx139_2, hx140_0, hx140_1, hx140_2, hx141_0, hx141_1, hx141_2⟩ (fun hHeld => ?_); refine with_tabW doorwardlaw14_LexBlanks.tab24 doorwardlaw14_LexBlanks.bits24 (fun HT_ HW_ => ?_)
                                                              generalize wr.drew = w62 at HO_7 HO_13 HB hx138_0 hx138_1 hx138_2 hx139_0 hx139_1 hx139_2 hx140_0 hx140_1 hx140_2 hx141_0 hx141_1 hx141_2 hHeld ⊢
                                                              refine pure_ (i := 0) (N := some 124) (v := ?_) (a' := ?_) #[true, false, false, false, false, false, false, false, false, false, false, false, false, false, false, false, false, false, false, false, false, false, false, false] rfl rfl (any_of HT_.out (by kernel_rfl)) (fun _ _ _ h => h) (Or.inl ⟨by rfl, ?_⟩) ?_ ?_
                                                              rotate_left
                                                              · intro w'
                                                                go_simp
                                                                with_reducible rfl
                                                              rotate_left
                                                              · simp only [Act.put, List.setIfInBounds_toArray, List.set_cons_zero, List.set_cons_succ, i64_w, i32_w]
                                                                rfl
                                                              refine pure_ (i := 1) (N := some 125) (v := ?_) (a' := ?_) #[true, true, false, false, false, false, false, false, false, false, false, false, false, false, false, false, false, false, false, false, false, false, false, false] rfl rfl (any_of HT_.out (by kernel_rfl)) (fun _ _ _ h => h) (Or.inl ⟨by rfl, ?_⟩) ?_ ?_
                                                              rotate_left
                                                              · intro w'
                                                                go_simp
                                                                with_reducible rfl
                                                              rotate_left
                                                              · simp only [Act.put, List.setIfInBounds_toArray, List.set_cons_zero, List.set_cons_succ, i64_w, i32_w]
                                                                rfl
                                                              refine pure_ (i := 2) (N := some 126) (v := ?_) (a' := ?_) #[true, true, true, false, false, false, false, false, false, false, false, false, false, false, false, false, false, false, false, false, false, false, false, false] rfl rfl (any_of HT_.out (by kernel_rfl)) (fun _ _ _ h => h) (Or.inl ⟨by rfl, ?_⟩) ?_ ?_
                                                              rotate_left
                                                              · intro w'
                                                                go_simp
                                                                with_reducible rfl
                                                              rotate_left
                                                              · simp only [Act.put, List.setIfInBounds_toArray, List.set_cons_zero, List.set_cons_succ, i64_w, i32_w]
                                                                rfl
                                                              refine pure_ (i := 3) (N := some 127) (v := ?_) (a' := ?_) #[true, true, true, true, false, false, false, false, false, false, false, false, false, false, false, false, false, false, false, false, false, false, false, false] rfl rfl (any_of HT_.out (by kernel_rfl)) (fun _ _ _ h => h) (Or.inl ⟨by rfl, ?_⟩) ?_ ?_
                                                              rotate_left
                                                              · intro w'
                                                                go_simp
                                                                with_reducible rfl
                                                              rotate_left
                                                              · simp only [Act.put, List.setIfInBounds_toArray, List.set_cons_zero, List.set_cons_succ, i64_w, i32_w]
                                                                rfl
                                                              refine pure_ (i := 5) (N := some 129) (v := ?_) (a' := ?_) #[true, true, true, true, false, true, false, false, false, false, false, false, false, false, false, false, false, false, false, false, false, false, false, false] rfl rfl (any_of HT_.out (by kernel_rfl)) (fun _ _ _ h => h) (Or.inl ⟨by rfl, ?_⟩) ?_ ?_
                                                              rotate_left
                                                              · intro w'
                                                                go_simp
                                                                with_reducible rfl
                                                              rotate_left
                                                              · simp only [Act.put, List.setIfInBounds_toArray, List.set_cons_zero, List.set_cons_succ, i64_w, i32_w]
                                                                rfl
                                                              refine pure_ (i := 6) (N := some 130) (v := ?_) (a' := ?_) #[true, true, true, true, false, true, true, false, false, false, false, false, false, false, false, false, false, false, false, false, false, false, false, false] rfl rfl (any_of HT_.out (by kernel_rfl)) (fun _ _ _ h => h) (Or.inl ⟨by rfl, ?_⟩) ?_ ?_
                                                              rotate_left
                                                              · intro w'
                                                                go_simp
                                                                with_reducible rfl
                                                              rotate_left
                                                              · simp only [Act.put, List.setIfInBounds_toArray, List.set_cons_zero, List.set_cons_succ, i64_w, i32_w]
                                                                rfl
                                                              refine pure_ (i := 7) (N := some 131) (v := ?_) (a' := ?_) #[true, true, true, true, false, true, true, true, false, false, false, false, false, false, false, false, false, false, false, false, false, false, false, false] rfl rfl (any_of HT_.out (by kernel_rfl)) (fun _ _ _ h => h) (Or.inl ⟨by rfl, ?_⟩) ?_ ?_
                                                              rotate_left
                                                              · intro w'
                                                                go_simp
                                                                with_reducible rfl
                                                              rotate_left
                                                              · simp only [Act.put, List.setIfInBounds_toArray, List.set_cons_zero, List.set_cons_succ, i64_w, i32_w]
                                                                rfl
                                                              refine pure_ (i := 8) (N := some 132) (v := ?_) (a' := ?_) #[true, true, true, true, false, true, true, true, true, false, false, false, false, false, false, false, false, false, false, false, false, false, false, false] rfl rfl (any_of HT_.out (by kernel_rfl)) (fun _ _ _ h => h) (Or.inl ⟨by rfl, ?_⟩) ?_ ?_
                                                              rotate_left
                                                              · intro w'
                                                                go_simp
                                                                with_reducible rfl
                                                              rotate_left
                                                              · simp only [Act.put, List.setIfInBounds_toArray, List.set_cons_zero, List.set_cons_succ, i64_w, i32_w]
                                                                rfl
                                                              refine take_ (i := 4) (N := some 128) (v := ?_) (a' := ?_) #[true, true, true, true, true, true, true, true, true, false, false, false, false, false, false, false, false, false, false, false, false, false, false, false] rfl rfl (take_ofW HT_.out HW_.out (by kernel_rfl)) (fun _ _ _ h => h) (Or.inl ⟨by rfl, ?_⟩) hHeld ?_ ?_
                                                              rotate_left
                                                              · rintro w' ⟨s0, s1, s2, s3, s4, s5, s6, s7, s8, s9, s10, s11⟩
                                                                go_simp
                                                                with_reducible rfl
                                                              rotate_left
                                                              · simp only [Act.put, List.setIfInBounds_toArray, List.set_cons_zero, List.set_cons_succ, i64_w, i32_w]
                                                                rfl
                                                              refine take_ (i := 9) (N := some 133) (v := ?_) (a' := ?_) #[true, true, true, true, true, true, true, true, true, true, false, false, false, false, false, false, false, false, false, false, false, false, false, false] rfl rfl (take_ofW HT_.out HW_.out (by kernel_rfl)) (fun _ _ _ h => h) (Or.inl ⟨by rfl, ?_⟩) hHeld ?_ ?_
                                                              rotate_left
                                                              · rintro w' ⟨s0, s1, s2, s3, s4, s5, s6, s7, s8, s9, s10, s11⟩
                                                                go_simp
                                                                with_reducible rfl
                                                              rotate_left
                                                              · simp only [Act.put, List.setIfInBounds_toArray, List.set_cons_zero, List.set_cons_succ, i64_w, i32_w]
                                                                rfl
                                                              refine pure_ (i := 10) (N := some 134) (v := ?_) (a' := ?_) #[true, true, true, true, true, true, true, true, true, true, true, false, false, false, false, false, false, false, false, false, false, false, false, false] rfl rfl (any_of HT_.out (by kernel_rfl)) (fun _ _ _ h => h) (Or.inl ⟨by rfl, ?_⟩) ?_ ?_
                                                              rotate_left
                                                              · intro w'
                                                                go_simp
                                                                with_reducible rfl
                                                              rotate_left
                                                              · simp only [Act.put, List.setIfInBounds_toArray, List.set_cons_zero, List.set_cons_succ, i64_w, i32_w]
                                                                rfl
                                                              refine pure_ (i := 11) (N := some 135) (v := ?_) (a' := ?_) #[true, true, true, true, true, true, true, true, true, true, true, true, false, false, false, false, false, false, false, false, false, false, false, false] rfl rfl (any_of HT_.out (by kernel_rfl)) (fun _ _ _ h => h) (Or.inl ⟨by rfl, ?_⟩) ?_ ?_
                                                              rotate_left
                                                              · intro w'
                                                                go_simp
                                                                with_reducible rfl
                                                              rotate_left
                                                              · simp only [Act.put, List.setIfInBounds_toArray, List.set_cons_zero, List.set_cons_succ, i64_w, i32_w]
                                                                rfl
                                                              refine pure_ (i := 12) (N := some 136) (v := ?_) (a' := ?_) #[true, true, true, true, true, true, true, true, true, true, true, true, true, false, false, false, false, false, false, false, false, false, false, false] rfl rfl (any_of HT_.out (by kernel_rfl)) (fun _ _ _ h => h) (Or.inl ⟨by rfl, ?_⟩) ?_ ?_
                                                              rotate_left
                                                              · intro w'
                                                                go_simp
                                                                with_reducible rfl
                                                              rotate_left
                                                              · simp only [Act.put, List.setIfInBounds_toArray, List.set_cons_zero, List.set_cons_succ, i64_w, i32_w]
                                                                rfl
                                                              refine pure_ (i := 13) (N := some 137) (v := ?_) (a' := ?_) #[true, true, true, true, true, true, true, true, true, true, true, true, true, true, false, false, false, false, false, false, false, false, false, false] rfl rfl (any_of HT_.out (by kernel_rfl)) (fun _ _ _ h => h) (Or.inl ⟨by rfl, ?_⟩) ?_ ?_
                                                              rotate_left
                                                              · intro w'
                                                                go_simp
                                                                with_reducible rfl
                                                              rotate_left
                                                              · simp only [Act.put, List.setIfInBounds_toArray, List.set_cons_zero, List.set_cons_succ, i64_w, i32_w]
                                                                rfl
                                                              refine pure_ (i := 14) (N := some 138) (v := ?_) (a' := ?_) #[true, true, true, true, true, true, true, true, true, true, true, true, true, true, true, false, false, false, false, false, false, false, false, false] rfl rfl (any_of HT_.out (by kernel_rfl)) (fun _ _ _ h => h) (Or.inl ⟨by rfl, ?_⟩) ?_ ?_
                                                              rotate_left
                                                              · intro w'
                                                                go_simp
                                                                with_reducible rfl
                                                              rotate_left
                                                              · simp only [Act.put, List.setIfInBounds_toArray, List.set_cons_zero, List.set_cons_succ, i64_w, i32_w]
                                                                rfl
                                                              refine pure_ (i := 15) (N := some 139) (v := ?_) (a' := ?_) #[true, true, true, true, true, true, true, true, true, true, true, true, true, true, true, true, false, false, false, false, false, false, false, false] rfl rfl (any_of HT_.out (by kernel_rfl)) (fun _ _ _ h => h) (Or.inl ⟨by rfl, ?_⟩) ?_ ?_
                                                              rotate_left
                                                              · intro w'
                                                                go_simp
                                                                with_reducible rfl
                                                              rotate_left
                                                              · simp only [Act.put, List.setIfInBounds_toArray, List.set_cons_zero, List.set_cons_succ, i64_w, i32_w]
                                                                rfl
                                                              refine pure_ (i := 17) (N := some 141) (v := ?_) (a' := ?_) #[true, true, true, true, true, true, true, true, true, true, true, true, true, true, true, true, false, true, false, false, false, false, false, false] rfl rfl (any_of HT_.out (by kernel_rfl)) (fun _ _ _ h => h) (Or.inl ⟨by rfl, ?_⟩) ?_ ?_
                                                              rotate_left
                                                              · intro w'
                                                                go_simp
                                                                with_reducible rfl
                                                              rotate_left
                                                              · simp only [Act.put, List.setIfInBounds_toArray, List.set_cons_zero, List.set_cons_succ, i64_w, i32_w]
                                                                rfl
                                                              refine pure_ (i := 18) (N := some 142) (v := ?_) (a' := ?_) #[true, true, true, true, true, true, true, true, true, true, true, true, true, true, true, true, false, true, true, false, false, false, false, false] rfl rfl (any_of HT_.out (by kernel_rfl)) (fun _ _ _ h => h) (Or.inl ⟨by rfl, ?_⟩) ?_ ?_
                                                              rotate_left
                                                              · intro w'
                                                                go_simp
                                                                with_reducible rfl
                                                              rotate_left
                                                              · simp only [Act.put, List.setIfInBounds_toArray, List.set_cons_zero, List.set_cons_succ, i64_w, i32_w]
                                                                rfl
                                                              refine pure_ (i := 19) (N := some 143) (v := ?_) (a' := ?_) #[true, true, true, true, true, true, true, true, true, true, true, true, true, true, true, true, false, true, true, true, false, false, false, false] rfl rfl (any_of HT_.out (by kernel_rfl)) (fun _ _ _ h => h) (Or.inl ⟨by rfl, ?_⟩) ?_ ?_
                                                              rotate_left
                                                              · intro w'
                                                                go_simp
                                                                with_reducible rfl
                                                              rotate_left
                                                              · simp only [Act.put, List.setIfInBounds_toArray, List.set_cons_zero, List.set_cons_succ, i64_w, i32_w]
                                                                rfl
                                                              refine pure_ (i := 20) (N := some 144) (v := ?_) (a' := ?_) #[true, true, true, true, true, true, true, true, true, true, true, true, true, true, true, true, false, true, true, true, true, false, false, false] rfl rfl (any_of HT_.out (by kernel_rfl)) (fun _ _ _ h => h) (Or.inl ⟨by rfl, ?_⟩) ?_ ?_
                                                              rotate_left
                                                              · intro w'
                                                                go_simp
                                                                with_reducible rfl
                                                              rotate_left
                                                              · simp only [Act.put, List.setIfInBounds_toArray, List.set_cons_zero, List.set_cons_succ, i64_w, i32_w]
                                                                rfl
                                                              refine take_ (i := 16) (N := some 140) (v := ?_) (a' := ?_) #[true, true, true, true, true, true, true, true, true, true, true, true, true, true, true, true, true, true, true, true, true, false, false, false] rfl rfl (take_ofW HT_.out HW_.out (by kernel_rfl)) (fun _ _ _ h => h) (Or.inl ⟨by rfl, ?_⟩) hHeld ?_ ?_
                                                              rotate_left
                                                              · rintro w' ⟨s0, s1, s2, s3, s4, s5, s6, s7, s8, s9, s10, s11⟩
                                                                go_simp
                                                                with_reducible rfl
                                                              rotate_left
                                                              · simp only [Act.put, List.setIfInBounds_toArray, List.set_cons_zero, List.set_cons_succ, i64_w, i32_w]
                                                                rfl
                                                              refine take_ (i := 21) (N := some 145) (v := ?_) (a' := ?_) #[true, true, true, true, true, true, true, true, true, true, true, true, true, true, true, true, true, true, true, true, true, true, false, false] rfl rfl (take_ofW HT_.out HW_.out (by kernel_rfl)) (fun _ _ _ h => h) (Or.inl ⟨by rfl, ?_⟩) hHeld ?_ ?_
                                                              rotate_left
                                                              · rintro w' ⟨s0, s1, s2, s3, s4, s5, s6, s7, s8, s9, s10, s11⟩
                                                                go_simp
                                                                with_reducible rfl
                                                              rotate_left
                                                              · simp only [Act.put, List.setIfInBounds_toArray, List.set_cons_zero, List.set_cons_succ, i64_w, i32_w]
                                                                rfl
                                                              refine pure_ (i := 22) (N := some 146) (v := ?_) (a' := ?_) #[true, true, true, true, true, true, true, true, true, true, true, true, true, true, true, true, true, true, true, true, true, true, true, false] rfl rfl (any_of HT_.out (by kernel_rfl)) (fun _ _ _ h => h) (Or.inl ⟨by rfl, ?_⟩) ?_ ?_
                                                              rotate_left
                                                              · intro w'
                                                                go_simp
                                                                with_reducible rfl
                                                              rotate_left
                                                              · simp only [Act.put, List.setIfInBounds_toArray, List.set_cons_zero, List.set_cons_succ, i64_w, i32_w]
                                                                rfl
                                                              refine pure_ (i := 23) (N := some 147) (v := ?_) (a' := ?_) #[true, true, true, true, true, true, true, true, true, true, true, true, true, true, true, true, true, true, true, true, true, true, true, true] rfl rfl (any_of HT_.out (by kernel_rfl)) (fun _ _ _ h => h) (Or.inl ⟨by rfl, ?_⟩) ?_ ?_
                                                              rotate_left
                                                              · intro w'
                                                                go_simp
                                                                with_reducible rfl
                                                              rotate_left
                                                              · simp only [Act.put, List.setIfInBounds_toArray, List.set_cons_zero, List.set_cons_succ, i64_w, i32_w]
                                                                rfl
                                                              refine done_ (done_of HT_.out (by kernel_rfl)) ?_
                                                              try go_wp2
                                                              try subst hji37
                                                              go_roundg k6
                                                              case measure => have := HJ7.out; have := HJ18.out; have := HJ24.out; have := HJ39.out; have := HJ49.out; have := HK6.out; omega
                                                              case rel => exact ⟨(wrap64 (x121_6 + 1)), (by first | rfl | (simp; done) | (simp [*]; done)), H', ⟨by have := HJ7.out; have := HJ18.out; have := HJ24.out; have := HJ39.out; have := HJ49.out; have := HK6.out; omega⟩, ⟨by (with_reducible repeat (first | apply Kd.R_alloc | apply Kd.R_drewN | apply Kd.R_drew)); exact HO_7.out⟩, ⟨by (with_reducible repeat (first | apply Kd.R_alloc | apply Kd.R_drewN | apply Kd.R_drew)); exact HO_13.out⟩, ⟨by repeat (first | (with_reducible first | exact HB.out | apply below_alloc | apply pw_below_drewN | apply below_drew1) | exact HB.out)⟩⟩
                                                            · rw [if_neg c61] at H
                                                              have c61b0 : (((rd_T34 t124 x121_6).f1).toList == ((rd_T34 t133 x121_6).f1).toList) = false := beq_eq_false_iff_ne.mpr c61
                                                              have c61b1 : (((rd_T34 t124 x121_6).f1).toList != ((rd_T34 t133 x121_6).f1).toList) = true := bne_iff_ne.mpr c61
                                                              obtain rfl := Option.some.inj H
                                                              try go_wp2
                                                              have n0_ := Aside0.mk (Kd.R_drew HO_7.out)
                                                              have n1_ := Aside0.mk (Kd.R_drew HO_13.out)
                                                              have n2_ := Aside0.mk (below_drew1 HB.out)
                                                              clear HO_7
                                                              clear HO_13
                                                              clear HB
                                                              have HO_7 := n0_
                                                              have HO_13 := n1_
                                                              have HB := n2_
                                                              clear n0_ n1_ n2_
                                                              have p138 : 0 ≤ (x121_6 : Int) := of_decide_eq_true (by first | (with_reducible assumption) | assumption)
                                                              have q138 : x121_6 < (t124.length : Int) := of_decide_eq_true (by first | (with_reducible assumption) | assumption)
                                                              obtain ⟨ad138, e138, hx138_0, hx138_1, hx138_2⟩ := at_T34 (Kd.R_reads' HO_7.out).2.2 x121_6 p138 q138
                                                              obtain rfl : ad132 = ad138 := (by injection e138)
                                                              replace p138 := eq_true p138
                                                              replace q138 := eq_true q138
                                                              obtain ⟨Ao65, co65, eo65⟩ := Kd.R_slice HO_13.out
                                                              (first | subst eo65 | (injection eo65 with f1_ f2_ f3_; have f4_ := f1_.symm; have f5_ := f3_.symm; clear f1_ f2_ f3_; subst f4_; subst f5_))
                                                              have p139 : 0 ≤ (x121_6 : Int) := of_decide_eq_true (by first | (with_reducible assumption) | assumption)
                                                              have q139 : x121_6 < (t133.length : Int) := of_decide_eq_true (by first | (with_reducible assumption) | assumption)
                                                              obtain ⟨ad139, e139, hx139_0, hx139_1, hx139_2⟩ := at_T34 (Kd.R_reads' HO_13.out).2.2 x121_6 p139 q139
                                                              cases e139
                                                              replace p139 := eq_true p139
                                                              replace q139 := eq_true q139
                                                              have p140 : 0 ≤ (x121_6 : Int) := of_decide_eq_true (by first | (with_reducible assumption) | assumption)
                                                              have q140 : x121_6 < (t124.length : Int) := of_decide_eq_true (by first | (with_reducible assumption) | assumption)
                                                              obtain ⟨ad140, e140, hx140_0, hx140_1, hx140_2⟩ := at_T34 (Kd.R_reads' HO_7.out).2.2 x121_6 p140 q140
                                                              obtain rfl : ad132 = ad140 := (by injection e140)
                                                              replace p140 := eq_true p140
                                                              replace q140 := eq_true q140
                                                              have p141 : 0 ≤ (x121_6 : Int) := of_decide_eq_true (by first | (with_reducible assumption) | assumption)
                                                              have q141 : x121_6 < (t133.length : Int) := of_decide_eq_true (by first | (with_reducible assumption) | assumption)
                                                              obtain ⟨ad141, e141, hx141_0, hx141_1, hx141_2⟩ := at_T34 (Kd.R_reads' HO_13.out).2.2 x121_6 p141 q141
                                                              obtain rfl : ad139 = ad141 := (by injection e141)
                                                              replace p141 := eq_true p141
                                                              replace q141 := eq_true q141
                                                              refine start_ (n := 24) (S := fun w' => w'.cell? (ad132.add ((x121_6).toNat * 3)) = some (.int .i64 ((rd_T34 t124 x121_6).f0)) ∧ w'.cell? ⟨(ad132.add ((x121_6).toNat * 3)).block, (ad132.add ((x121_6).toNat * 3)).off + 1, none⟩ = some (.string ((rd_T34 t124 x121_6).f1)) ∧ w'.cell? ⟨(ad132.add ((x121_6).toNat * 3)).block, (ad132.add ((x121_6).toNat * 3)).off + 2, none⟩ = some (.int .i64 ((rd_T34 t124 x121_6).f2)) ∧ w'.cell? (ad139.add ((x121_6).toNat * 3)) = some (.int .i64 ((rd_T34 t133 x121_6).f0)) ∧ w'.cell? ⟨(ad139.add ((x121_6).toNat * 3)).block, (ad139.add ((x121_6).toNat * 3)).off + 1, none⟩ = some (.string ((rd_T34 t133 x121_6).f1)) ∧ w'.cell? ⟨(ad139.add ((x121_6).toNat * 3)).block, (ad139.add ((x121_6).toNat * 3)).off + 2, none⟩ = some (.int .i64 ((rd_T34 t133 x121_6).f2)) ∧ w'.cell? (ad132.add ((x121_6).toNat * 3)) = some (.int .i64 ((rd_T34 t124 x121_6).f0)) ∧ w'.cell? ⟨(ad132.add ((x121_6).toNat * 3)).block, (ad132.add ((x121_6).toNat * 3)).off + 1, none⟩ = some (.string ((rd_T34 t124 x121_6).f1)) ∧ w'.cell? ⟨(ad132.add ((x121_6).toNat * 3)).block, (ad132.add ((x121_6).toNat * 3)).off + 2, none⟩ = some (.int .i64 ((rd_T34 t124 x121_6).f2)) ∧ w'.cell? (ad139.add ((x121_6).toNat * 3)) = some (.int .i64 ((rd_T34 t133 x121_6).f0)) ∧ w'.cell? ⟨(ad139.add ((x121_6).toNat * 3)).block, (ad139.add ((x121_6).toNat * 3)).off + 1, none⟩ = some (.string ((rd_T34 t133 x121_6).f1)) ∧ w'.cell? ⟨(ad139.add ((x121_6).toNat * 3)).block, (ad139.add ((x121_6).toNat * 3)).off + 2, none⟩ = some (.int .i64 ((rd_T34 t133 x121_6).f2))) (ds := []) #[false, false, false, false, false, false, false, false, false, false, false, false, false, false, false, false, false, false, false, false, false, false, false, false] (by kernel_rfl) rfl rfl ⟨hx138_0, hx138_1, hx138_2, hx139_0, hx139_1, hx139_2, hx140_0, hx140_1, hx140_2, hx141_0, hx141_1, hx141_2⟩ (fun hHeld => ?_); refine with_tabW doorwardlaw14_LexBlanks.tab24 doorwardlaw14_LexBlanks.bits24 (fun HT_ HW_ => ?_)
                                                              generalize wr.drew = w64 at HO_7 HO_13 HB hx138_0 hx138_1 hx138_2 hx139_0 hx139_1 hx139_2 hx140_0 hx140_1 hx140_2 hx141_0 hx141_1 hx141_2 hHeld ⊢
                                                              refine pure_ (i := 0) (N := some 124) (v := ?_) (a' := ?_) #[true, false, false, false, false, false, false, false, false, false, false, false, false, false, false, false, false, false, false, false, false, false, false, false] rfl rfl (any_of HT_.out (by kernel_rfl)) (fun _ _ _ h => h) (Or.inl ⟨by rfl, ?_⟩) ?_ ?_
                                                              rotate_left
                                                              · intro w'
                                                                go_simp
                                                                with_reducible rfl
                                                              rotate_left
                                                              · simp only [Act.put, List.setIfInBounds_toArray, List.set_cons_zero, List.set_cons_succ, i64_w, i32_w]
                                                                rfl
                                                              refine pure_ (i := 1) (N := some 125) (v := ?_) (a' := ?_) #[true, true, false, false, false, false, false, false, false, false, false, false, false, false, false, false, false, false, false, false, false, false, false, false] rfl rfl (any_of HT_.out (by kernel_rfl)) (fun _ _ _ h => h) (Or.inl ⟨by rfl, ?_⟩) ?_ ?_
                                                              rotate_left
                                                              · intro w'
                                                                go_simp
                                                                with_reducible rfl
                                                              rotate_left
                                                              · simp only [Act.put, List.setIfInBounds_toArray, List.set_cons_zero, List.set_cons_succ, i64_w, i32_w]
                                                                rfl
                                                              refine pure_ (i := 2) (N := some 126) (v := ?_) (a' := ?_) #[true, true, true, false, false, false, false, false, false, false, false, false, false, false, false, false, false, false, false, false, false, false, false, false] rfl rfl (any_of HT_.out (by kernel_rfl)) (fun _ _ _ h => h) (Or.inl ⟨by rfl, ?_⟩) ?_ ?_
                                                              rotate_left
                                                              · intro w'
                                                                go_simp
                                                                with_reducible rfl
                                                              rotate_left
                                                              · simp only [Act.put, List.setIfInBounds_toArray, List.set_cons_zero, List.set_cons_succ, i64_w, i32_w]
                                                                rfl
                                                              refine pure_ (i := 3) (N := some 127) (v := ?_) (a' := ?_) #[true, true, true, true, false, false, false, false, false, false, false, false, false, false, false, false, false, false, false, false, false, false, false, false] rfl rfl (any_of HT_.out (by kernel_rfl)) (fun _ _ _ h => h) (Or.inl ⟨by rfl, ?_⟩) ?_ ?_
                                                              rotate_left
                                                              · intro w'
                                                                go_simp
                                                                with_reducible rfl
                                                              rotate_left
                                                              · simp only [Act.put, List.setIfInBounds_toArray, List.set_cons_zero, List.set_cons_succ, i64_w, i32_w]
                                                                rfl
                                                              refine pure_ (i := 5) (N := some 129) (v := ?_) (a' := ?_) #[true, true, true, true, false, true, false, false, false, false, false, false, false, false, false, false, false, false, false, false, false, false, false, false] rfl rfl (any_of HT_.out (by kernel_rfl)) (fun _ _ _ h => h) (Or.inl ⟨by rfl, ?_⟩) ?_ ?_
                                                              rotate_left
                                                              · intro w'
                                                                go_simp
                                                                with_reducible rfl
                                                              rotate_left
                                                              · simp only [Act.put, List.setIfInBounds_toArray, List.set_cons_zero, List.set_cons_succ, i64_w, i32_w]
                                                                rfl
                                                              refine pure_ (i := 6) (N := some 130) (v := ?_) (a' := ?_) #[true, true, true, true, false, true, true, false, false, false, false, false, false, false, false, false, false, false, false, false, false, false, false, false] rfl rfl (any_of HT_.out (by kernel_rfl)) (fun _ _ _ h => h) (Or.inl ⟨by rfl, ?_⟩) ?_ ?_
                                                              rotate_left
                                                              · intro w'
                                                                go_simp
                                                                with_reducible rfl
                                                              rotate_left
                                                              · simp only [Act.put, List.setIfInBounds_toArray, List.set_cons_zero, List.set_cons_succ, i64_w, i32_w]
                                                                rfl
                                                              refine pure_ (i := 7) (N := some 131) (v := ?_) (a' := ?_) #[true, true, true, true, false, true, true, true, false, false, false, false, false, false, false, false, false, false, false, false, false, false, false, false] rfl rfl (any_of HT_.out (by kernel_rfl)) (fun _ _ _ h => h) (Or.inl ⟨by rfl, ?_⟩) ?_ ?_
                                                              rotate_left
                                                              · intro w'
                                                                go_simp
                                                                with_reducible rfl
                                                              rotate_left
                                                              · simp only [Act.put, List.setIfInBounds_toArray, List.set_cons_zero, List.set_cons_succ, i64_w, i32_w]
                                                                rfl
                                                              refine pure_ (i := 8) (N := some 132) (v := ?_) (a' := ?_) #[true, true, true, true, false, true, true, true, true, false, false, false, false, false, false, false, false, false, false, false, false, false, false, false] rfl rfl (any_of HT_.out (by kernel_rfl)) (fun _ _ _ h => h) (Or.inl ⟨by rfl, ?_⟩) ?_ ?_
                                                              rotate_left
                                                              · intro w'
                                                                go_simp
                                                                with_reducible rfl
                                                              rotate_left
                                                              · simp only [Act.put, List.setIfInBounds_toArray, List.set_cons_zero, List.set_cons_succ, i64_w, i32_w]
                                                                rfl
                                                              refine take_ (i := 4) (N := some 128) (v := ?_) (a' := ?_) #[true, true, true, true, true, true, true, true, true, false, false, false, false, false, false, false, false, false, false, false, false, false, false, false] rfl rfl (take_ofW HT_.out HW_.out (by kernel_rfl)) (fun _ _ _ h => h) (Or.inl ⟨by rfl, ?_⟩) hHeld ?_ ?_
                                                              rotate_left
                                                              · rintro w' ⟨s0, s1, s2, s3, s4, s5, s6, s7, s8, s9, s10, s11⟩
                                                                go_simp
                                                                with_reducible rfl
                                                              rotate_left
                                                              · simp only [Act.put, List.setIfInBounds_toArray, List.set_cons_zero, List.set_cons_succ, i64_w, i32_w]
                                                                rfl
                                                              refine take_ (i := 9) (N := some 133) (v := ?_) (a' := ?_) #[true, true, true, true, true, true, true, true, true, true, false, false, false, false, false, false, false, false, false, false, false, false, false, false] rfl rfl (take_ofW HT_.out HW_.out (by kernel_rfl)) (fun _ _ _ h => h) (Or.inl ⟨by rfl, ?_⟩) hHeld ?_ ?_
                                                              rotate_left
                                                              · rintro w' ⟨s0, s1, s2, s3, s4, s5, s6, s7, s8, s9, s10, s11⟩
                                                                go_simp
                                                                with_reducible rfl
                                                              rotate_left
                                                              · simp only [Act.put, List.setIfInBounds_toArray, List.set_cons_zero, List.set_cons_succ, i64_w, i32_w]
                                                                rfl
                                                              refine pure_ (i := 10) (N := some 134) (v := ?_) (a' := ?_) #[true, true, true, true, true, true, true, true, true, true, true, false, false, false, false, false, false, false, false, false, false, false, false, false] rfl rfl (any_of HT_.out (by kernel_rfl)) (fun _ _ _ h => h) (Or.inl ⟨by rfl, ?_⟩) ?_ ?_
                                                              rotate_left
                                                              · intro w'
                                                                go_simp
                                                                with_reducible rfl
                                                              rotate_left
                                                              · simp only [Act.put, List.setIfInBounds_toArray, List.set_cons_zero, List.set_cons_succ, i64_w, i32_w]
                                                                rfl
                                                              refine pure_ (i := 11) (N := some 135) (v := ?_) (a' := ?_) #[true, true, true, true, true, true, true, true, true, true, true, true, false, false, false, false, false, false, false, false, false, false, false, false] rfl rfl (any_of HT_.out (by kernel_rfl)) (fun _ _ _ h => h) (Or.inl ⟨by rfl, ?_⟩) ?_ ?_
                                                              rotate_left
                                                              · intro w'
                                                                go_simp
                                                                with_reducible rfl
                                                              rotate_left
                                                              · simp only [Act.put, List.setIfInBounds_toArray, List.set_cons_zero, List.set_cons_succ, i64_w, i32_w]
                                                                rfl
                                                              refine pure_ (i := 12) (N := some 136) (v := ?_) (a' := ?_) #[true, true, true, true, true, true, true, true, true, true, true, true, true, false, false, false, false, false, false, false, false, false, false, false] rfl rfl (any_of HT_.out (by kernel_rfl)) (fun _ _ _ h => h) (Or.inl ⟨by rfl, ?_⟩) ?_ ?_
                                                              rotate_left
                                                              · intro w'
                                                                go_simp
                                                                with_reducible rfl
                                                              rotate_left
                                                              · simp only [Act.put, List.setIfInBounds_toArray, List.set_cons_zero, List.set_cons_succ, i64_w, i32_w]
                                                                rfl
                                                              refine pure_ (i := 13) (N := some 137) (v := ?_) (a' := ?_) #[true, true, true, true, true, true, true, true, true, true, true, true, true, true, false, false, false, false, false, false, false, false, false, false] rfl rfl (any_of HT_.out (by kernel_rfl)) (fun _ _ _ h => h) (Or.inl ⟨by rfl, ?_⟩) ?_ ?_
                                                              rotate_left
                                                              · intro w'
                                                                go_simp
                                                                with_reducible rfl
                                                              rotate_left
                                                              · simp only [Act.put, List.setIfInBounds_toArray, List.set_cons_zero, List.set_cons_succ, i64_w, i32_w]
                                                                rfl
                                                              refine pure_ (i := 14) (N := some 138) (v := ?_) (a' := ?_) #[true, true, true, true, true, true, true, true, true, true, true, true, true, true, true, false, false, false, false, false, false, false, false, false] rfl rfl (any_of HT_.out (by kernel_rfl)) (fun _ _ _ h => h) (Or.inl ⟨by rfl, ?_⟩) ?_ ?_
                                                              rotate_left
                                                              · intro w'
                                                                go_simp
                                                                with_reducible rfl
                                                              rotate_left
                                                              · simp only [Act.put, List.setIfInBounds_toArray, List.set_cons_zero, List.set_cons_succ, i64_w, i32_w]
                                                                rfl
                                                              refine pure_ (i := 15) (N := some 139) (v := ?_) (a' := ?_) #[true, true, true, true, true, true, true, true, true, true, true, true, true, true, true, true, false, false, false, false, false, false, false, false] rfl rfl (any_of HT_.out (by kernel_rfl)) (fun _ _ _ h => h) (Or.inl ⟨by rfl, ?_⟩) ?_ ?_
                                                              rotate_left
                                                              · intro w'
                                                                go_simp
                                                                with_reducible rfl
                                                              rotate_left
                                                              · simp only [Act.put, List.setIfInBounds_toArray, List.set_cons_zero, List.set_cons_succ, i64_w, i32_w]
                                                                rfl
                                                              refine pure_ (i := 17) (N := some 141) (v := ?_) (a' := ?_) #[true, true, true, true, true, true, true, true, true, true, true, true, true, true, true, true, false, true, false, false, false, false, false, false] rfl rfl (any_of HT_.out (by kernel_rfl)) (fun _ _ _ h => h) (Or.inl ⟨by rfl, ?_⟩) ?_ ?_
                                                              rotate_left
                                                              · intro w'
                                                                go_simp
                                                                with_reducible rfl
                                                              rotate_left
                                                              · simp only [Act.put, List.setIfInBounds_toArray, List.set_cons_zero, List.set_cons_succ, i64_w, i32_w]
                                                                rfl
                                                              refine pure_ (i := 18) (N := some 142) (v := ?_) (a' := ?_) #[true, true, true, true, true, true, true, true, true, true, true, true, true, true, true, true, false, true, true, false, false, false, false, false] rfl rfl (any_of HT_.out (by kernel_rfl)) (fun _ _ _ h => h) (Or.inl ⟨by rfl, ?_⟩) ?_ ?_
                                                              rotate_left
                                                              · intro w'
                                                                go_simp
                                                                with_reducible rfl
                                                              rotate_left
                                                              · simp only [Act.put, List.setIfInBounds_toArray, List.set_cons_zero, List.set_cons_succ, i64_w, i32_w]
                                                                rfl
                                                              refine pure_ (i := 19) (N := some 143) (v := ?_) (a' := ?_) #[true, true, true, true, true, true, true, true, true, true, true, true, true, true, true, true, false, true, true, true, false, false, false, false] rfl rfl (any_of HT_.out (by kernel_rfl)) (fun _ _ _ h => h) (Or.inl ⟨by rfl, ?_⟩) ?_ ?_
                                                              rotate_left
                                                              · intro w'
                                                                go_simp
                                                                with_reducible rfl
                                                              rotate_left
                                                              · simp only [Act.put, List.setIfInBounds_toArray, List.set_cons_zero, List.set_cons_succ, i64_w, i32_w]
                                                                rfl
                                                              refine pure_ (i := 20) (N := some 144) (v := ?_) (a' := ?_) #[true, true, true, true, true, true, true, true, true, true, true, true, true, true, true, true, false, true, true, true, true, false, false, false] rfl rfl (any_of HT_.out (by kernel_rfl)) (fun _ _ _ h => h) (Or.inl ⟨by rfl, ?_⟩) ?_ ?_
                                                              rotate_left
                                                              · intro w'
                                                                go_simp
                                                                with_reducible rfl
                                                              rotate_left
                                                              · simp only [Act.put, List.setIfInBounds_toArray, List.set_cons_zero, List.set_cons_succ, i64_w, i32_w]
                                                                rfl
                                                              refine take_ (i := 16) (N := some 140) (v := ?_) (a' := ?_) #[true, true, true, true, true, true, true, true, true, true, true, true, true, true, true, true, true, true, true, true, true, false, false, false] rfl rfl (take_ofW HT_.out HW_.out (by kernel_rfl)) (fun _ _ _ h => h) (Or.inl ⟨by rfl, ?_⟩) hHeld ?_ ?_
                                                              rotate_left
                                                              · rintro w' ⟨s0, s1, s2, s3, s4, s5, s6, s7, s8, s9, s10, s11⟩
                                                                go_simp
                                                                with_reducible rfl
                                                              rotate_left
                                                              · simp only [Act.put, List.setIfInBounds_toArray, List.set_cons_zero, List.set_cons_succ, i64_w, i32_w]
                                                                rfl
                                                              refine take_ (i := 21) (N := some 145) (v := ?_) (a' := ?_) #[true, true, true, true, true, true, true, true, true, true, true, true, true, true, true, true, true, true, true, true, true, true, false, false] rfl rfl (take_ofW HT_.out HW_.out (by kernel_rfl)) (fun _ _ _ h => h) (Or.inl ⟨by rfl, ?_⟩) hHeld ?_ ?_
                                                              rotate_left
                                                              · rintro w' ⟨s0, s1, s2, s3, s4, s5, s6, s7, s8, s9, s10, s11⟩
                                                                go_simp
                                                                with_reducible rfl
                                                              rotate_left
                                                              · simp only [Act.put, List.setIfInBounds_toArray, List.set_cons_zero, List.set_cons_succ, i64_w, i32_w]
                                                                rfl
                                                              refine pure_ (i := 22) (N := some 146) (v := ?_) (a' := ?_) #[true, true, true, true, true, true, true, true, true, true, true, true, true, true, true, true, true, true, true, true, true, true, true, false] rfl rfl (any_of HT_.out (by kernel_rfl)) (fun _ _ _ h => h) (Or.inl ⟨by rfl, ?_⟩) ?_ ?_
                                                              rotate_left
                                                              · intro w'
                                                                go_simp
                                                                with_reducible rfl
                                                              rotate_left
                                                              · simp only [Act.put, List.setIfInBounds_toArray, List.set_cons_zero, List.set_cons_succ, i64_w, i32_w]
                                                                rfl
                                                              refine pure_ (i := 23) (N := some 147) (v := ?_) (a' := ?_) #[true, true, true, true, true, true, true, true, true, true, true, true, true, true, true, true, true, true, true, true, true, true, true, true] rfl rfl (any_of HT_.out (by kernel_rfl)) (fun _ _ _ h => h) (Or.inl ⟨by rfl, ?_⟩) ?_ ?_
                                                              rotate_left
                                                              · intro w'
                                                                go_simp
                                                                with_reducible rfl
                                                              rotate_left
                                                              · simp only [Act.put, List.setIfInBounds_toArray, List.set_cons_zero, List.set_cons_succ, i64_w, i32_w]
                                                                rfl
                                                              refine done_ (done_of HT_.out (by kernel_rfl)) ?_
                                                              try go_wp2
                                                              go_ret
                                                              exact ⟨by first | rfl | (simp [errW_none, errW_some] <;> rfl) | (simp only [← hji4, ← hji37]; first | rfl | (simp [errW_none, errW_some] <;> rfl)) | (simp [*, errW_none, errW_some] <;> rfl), by repeat (first | (with_reducible first | exact HB.out | apply below_alloc | apply pw_below_drewN | apply below_drew1) | exact HB.out)⟩
                                                          · rw [if_neg c60] at H
                                                            have c60b0 : (((rd_T34 t124 x121_6).f0) == ((rd_T34 t133 x121_6).f0)) = false := beq_eq_false_iff_ne.mpr c60
                                                            have c60b1 : (((rd_T34 t124 x121_6).f0) != ((rd_T34 t133 x121_6).f0)) = true := bne_iff_ne.mpr c60
                                                            obtain rfl := Option.some.inj H
                                                            try go_wp2
                                                            have n0_ := Aside0.mk (Kd.R_drew HO_7.out)
                                                            have n1_ := Aside0.mk (Kd.R_drew HO_13.out)
                                                            have n2_ := Aside0.mk (below_drew1 HB.out)
                                                            clear HO_7
                                                            clear HO_13
                                                            clear HB
                                                            have HO_7 := n0_
                                                            have HO_13 := n1_
                                                            have HB := n2_
                                                            clear n0_ n1_ n2_
                                                            have p138 : 0 ≤ (x121_6 : Int) := of_decide_eq_true (by first | (with_reducible assumption) | assumption)
                                                            have q138 : x121_6 < (t124.length : Int) := of_decide_eq_true (by first | (with_reducible assumption) | assumption)
                                                            obtain ⟨ad138, e138, hx138_0, hx138_1, hx138_2⟩ := at_T34 (Kd.R_reads' HO_7.out).2.2 x121_6 p138 q138
                                                            obtain rfl : ad132 = ad138 := (by injection e138)
                                                            replace p138 := eq_true p138
                                                            replace q138 := eq_true q138
                                                            obtain ⟨Ao67, co67, eo67⟩ := Kd.R_slice HO_13.out
                                                            (first | subst eo67 | (injection eo67 with f1_ f2_ f3_; have f4_ := f1_.symm; have f5_ := f3_.symm; clear f1_ f2_ f3_; subst f4_; subst f5_))
                                                            have p139 : 0 ≤ (x121_6 : Int) := of_decide_eq_true (by first | (with_reducible assumption) | assumption)
                                                            have q139 : x121_6 < (t133.length : Int) := of_decide_eq_true (by first | (with_reducible assumption) | assumption)
                                                            obtain ⟨ad139, e139, hx139_0, hx139_1, hx139_2⟩ := at_T34 (Kd.R_reads' HO_13.out).2.2 x121_6 p139 q139
                                                            cases e139
                                                            replace p139 := eq_true p139
                                                            replace q139 := eq_true q139
                                                            refine start_ (n := 24) (S := fun w' => w'.cell? (ad132.add ((x121_6).toNat * 3)) = some (.int .i64 ((rd_T34 t124 x121_6).f0)) ∧ w'.cell? ⟨(ad132.add ((x121_6).toNat * 3)).block, (ad132.add ((x121_6).toNat * 3)).off + 1, none⟩ = some (.string ((rd_T34 t124 x121_6).f1)) ∧ w'.cell? ⟨(ad132.add ((x121_6).toNat * 3)).block, (ad132.add ((x121_6).toNat * 3)).off + 2, none⟩ = some (.int .i64 ((rd_T34 t124 x121_6).f2)) ∧ w'.cell? (ad139.add ((x121_6).toNat * 3)) = some (.int .i64 ((rd_T34 t133 x121_6).f0)) ∧ w'.cell? ⟨(ad139.add ((x121_6).toNat * 3)).block, (ad139.add ((x121_6).toNat * 3)).off + 1, none⟩ = some (.string ((rd_T34 t133 x121_6).f1)) ∧ w'.cell? ⟨(ad139.add ((x121_6).toNat * 3)).block, (ad139.add ((x121_6).toNat * 3)).off + 2, none⟩ = some (.int .i64 ((rd_T34 t133 x121_6).f2))) (ds := []) #[false, false, false, false, false, false, false, false, false, false, false, false, false, false, false, false, false, false, false, false, false, false, false, false] (by kernel_rfl) rfl rfl ⟨hx138_0, hx138_1, hx138_2, hx139_0, hx139_1, hx139_2⟩ (fun hHeld => ?_); refine with_tabW doorwardlaw14_LexBlanks.tab24 doorwardlaw14_LexBlanks.bits24 (fun HT_ HW_ => ?_)
                                                            generalize wr.drew = w66 at HO_7 HO_13 HB hx138_0 hx138_1 hx138_2 hx139_0 hx139_1 hx139_2 hHeld ⊢
                                                            refine pure_ (i := 0) (N := some 124) (v := ?_) (a' := ?_) #[true, false, false, false, false, false, false, false, false, false, false, false, false, false, false, false, false, false, false, false, false, false, false, false] rfl rfl (any_of HT_.out (by kernel_rfl)) (fun _ _ _ h => h) (Or.inl ⟨by rfl, ?_⟩) ?_ ?_
                                                            rotate_left
                                                            · intro w'
                                                              go_simp
                                                              with_reducible rfl
                                                            rotate_left
                                                            · simp only [Act.put, List.setIfInBounds_toArray, List.set_cons_zero, List.set_cons_succ, i64_w, i32_w]
                                                              rfl
                                                            refine pure_ (i := 1) (N := some 125) (v := ?_) (a' := ?_) #[true, true, false, false, false, false, false, false, false, false, false, false, false, false, false, false, false, false, false, false, false, false, false, false] rfl rfl (any_of HT_.out (by kernel_rfl)) (fun _ _ _ h => h) (Or.inl ⟨by rfl, ?_⟩) ?_ ?_
                                                            rotate_left
                                                            · intro w'
                                                              go_simp
                                                              with_reducible rfl
                                                            rotate_left
                                                            · simp only [Act.put, List.setIfInBounds_toArray, List.set_cons_zero, List.set_cons_succ, i64_w, i32_w]
                                                              rfl
                                                            refine pure_ (i := 2) (N := some 126) (v := ?_) (a' := ?_) #[true, true, true, false, false, false, false, false, false, false, false, false, false, false, false, false, false, false, false, false, false, false, false, false] rfl rfl (any_of HT_.out (by kernel_rfl)) (fun _ _ _ h => h) (Or.inl ⟨by rfl, ?_⟩) ?_ ?_
                                                            rotate_left
                                                            · intro w'
                                                              go_simp
                                                              with_reducible rfl
                                                            rotate_left
                                                            · simp only [Act.put, List.setIfInBounds_toArray, List.set_cons_zero, List.set_cons_succ, i64_w, i32_w]
                                                              rfl
                                                            refine pure_ (i := 3) (N := some 127) (v := ?_) (a' := ?_) #[true, true, true, true, false, false, false, false, false, false, false, false, false, false, false, false, false, false, false, false, false, false, false, false] rfl rfl (any_of HT_.out (by kernel_rfl)) (fun _ _ _ h => h) (Or.inl ⟨by rfl, ?_⟩) ?_ ?_
                                                            rotate_left
                                                            · intro w'
                                                              go_simp
                                                              with_reducible rfl
                                                            rotate_left
                                                            · simp only [Act.put, List.setIfInBounds_toArray, List.set_cons_zero, List.set_cons_succ, i64_w, i32_w]
                                                              rfl
                                                            refine pure_ (i := 5) (N := some 129) (v := ?_) (a' := ?_) #[true, true, true, true, false, true, false, false, false, false, false, false, false, false, false, false, false, false, false, false, false, false, false, false] rfl rfl (any_of HT_.out (by kernel_rfl)) (fun _ _ _ h => h) (Or.inl ⟨by rfl, ?_⟩) ?_ ?_
                                                            rotate_left
                                                            · intro w'
                                                              go_simp
                                                              with_reducible rfl
                                                            rotate_left
                                                            · simp only [Act.put, List.setIfInBounds_toArray, List.set_cons_zero, List.set_cons_succ, i64_w, i32_w]
                                                              rfl
                                                            refine pure_ (i := 6) (N := some 130) (v := ?_) (a' := ?_) #[true, true, true, true, false, true, true, false, false, false, false, false, false, false, false, false, false, false, false, false, false, false, false, false] rfl rfl (any_of HT_.out (by kernel_rfl)) (fun _ _ _ h => h) (Or.inl ⟨by rfl, ?_⟩) ?_ ?_
                                                            rotate_left
                                                            · intro w'
                                                              go_simp
                                                              with_reducible rfl
                                                            rotate_left
                                                            · simp only [Act.put, List.setIfInBounds_toArray, List.set_cons_zero, List.set_cons_succ, i64_w, i32_w]
                                                              rfl
                                                            refine pure_ (i := 7) (N := some 131) (v := ?_) (a' := ?_) #[true, true, true, true, false, true, true, true, false, false, false, false, false, false, false, false, false, false, false, false, false, false, false, false] rfl rfl (any_of HT_.out (by kernel_rfl)) (fun _ _ _ h => h) (Or.inl ⟨by rfl, ?_⟩) ?_ ?_
                                                            rotate_left
                                                            · intro w'
                                                              go_simp
                                                              with_reducible rfl
                                                            rotate_left
                                                            · simp only [Act.put, List.setIfInBounds_toArray, List.set_cons_zero, List.set_cons_succ, i64_w, i32_w]
                                                              rfl
                                                            refine pure_ (i := 8) (N := some 132) (v := ?_) (a' := ?_) #[true, true, true, true, false, true, true, true, true, false, false, false, false, false, false, false, false, false, false, false, false, false, false, false] rfl rfl (any_of HT_.out (by kernel_rfl)) (fun _ _ _ h => h) (Or.inl ⟨by rfl, ?_⟩) ?_ ?_
                                                            rotate_left
                                                            · intro w'
                                                              go_simp
                                                              with_reducible rfl
                                                            rotate_left
                                                            · simp only [Act.put, List.setIfInBounds_toArray, List.set_cons_zero, List.set_cons_succ, i64_w, i32_w]
                                                              rfl
                                                            refine take_ (i := 4) (N := some 128) (v := ?_) (a' := ?_) #[true, true, true, true, true, true, true, true, true, false, false, false, false, false, false, false, false, false, false, false, false, false, false, false] rfl rfl (take_ofW HT_.out HW_.out (by kernel_rfl)) (fun _ _ _ h => h) (Or.inl ⟨by rfl, ?_⟩) hHeld ?_ ?_
                                                            rotate_left
                                                            · rintro w' ⟨s0, s1, s2, s3, s4, s5⟩
                                                              go_simp
                                                              with_reducible rfl
                                                            rotate_left
                                                            · simp only [Act.put, List.setIfInBounds_toArray, List.set_cons_zero, List.set_cons_succ, i64_w, i32_w]
                                                              rfl
                                                            refine take_ (i := 9) (N := some 133) (v := ?_) (a' := ?_) #[true, true, true, true, true, true, true, true, true, true, false, false, false, false, false, false, false, false, false, false, false, false, false, false] rfl rfl (take_ofW HT_.out HW_.out (by kernel_rfl)) (fun _ _ _ h => h) (Or.inl ⟨by rfl, ?_⟩) hHeld ?_ ?_
                                                            rotate_left
                                                            · rintro w' ⟨s0, s1, s2, s3, s4, s5⟩
                                                              go_simp
                                                              with_reducible rfl
                                                            rotate_left
                                                            · simp only [Act.put, List.setIfInBounds_toArray, List.set_cons_zero, List.set_cons_succ, i64_w, i32_w]
                                                              rfl
                                                            refine pure_ (i := 10) (N := some 134) (v := ?_) (a' := ?_) #[true, true, true, true, true, true, true, true, true, true, true, false, false, false, false, false, false, false, false, false, false, false, false, false] rfl rfl (any_of HT_.out (by kernel_rfl)) (fun _ _ _ h => h) (Or.inl ⟨by rfl, ?_⟩) ?_ ?_
                                                            rotate_left
                                                            · intro w'
                                                              go_simp
                                                              with_reducible rfl
                                                            rotate_left
                                                            · simp only [Act.put, List.setIfInBounds_toArray, List.set_cons_zero, List.set_cons_succ, i64_w, i32_w]
                                                              rfl
                                                            refine pure_ (i := 11) (N := some 135) (v := ?_) (a' := ?_) #[true, true, true, true, true, true, true, true, true, true, true, true, false, false, false, false, false, false, false, false, false, false, false, false] rfl rfl (any_of HT_.out (by kernel_rfl)) (fun _ _ _ h => h) (Or.inl ⟨by rfl, ?_⟩) ?_ ?_
                                                            rotate_left
                                                            · intro w'
                                                              go_simp
                                                              with_reducible rfl
                                                            rotate_left
                                                            · simp only [Act.put, List.setIfInBounds_toArray, List.set_cons_zero, List.set_cons_succ, i64_w, i32_w]
                                                              rfl
                                                            refine pure_ (i := 12) (N := some 136) (v := undef) (a' := ?_) #[true, true, true, true, true, true, true, true, true, true, true, true, true, false, false, false, false, false, false, false, false, false, false, false] rfl rfl (any_of HT_.out (by kernel_rfl)) (fun _ _ _ h => h) (Or.inr ⟨by rfl, rfl⟩) ?_ ?_
                                                            rotate_left
                                                            · simp only [Act.put, List.setIfInBounds_toArray, List.set_cons_zero, List.set_cons_succ, i64_w, i32_w]
                                                              rfl
                                                            refine pure_ (i := 13) (N := some 137) (v := undef) (a' := ?_) #[true, true, true, true, true, true, true, true, true, true, true, true, true, true, false, false, false, false, false, false, false, false, false, false] rfl rfl (any_of HT_.out (by kernel_rfl)) (fun _ _ _ h => h) (Or.inr ⟨by rfl, rfl⟩) ?_ ?_
                                                            rotate_left
                                                            · simp only [Act.put, List.setIfInBounds_toArray, List.set_cons_zero, List.set_cons_succ, i64_w, i32_w]
                                                              rfl
                                                            refine pure_ (i := 14) (N := some 138) (v := undef) (a' := ?_) #[true, true, true, true, true, true, true, true, true, true, true, true, true, true, true, false, false, false, false, false, false, false, false, false] rfl rfl (any_of HT_.out (by kernel_rfl)) (fun _ _ _ h => h) (Or.inr ⟨by rfl, rfl⟩) ?_ ?_
                                                            rotate_left
                                                            · simp only [Act.put, List.setIfInBounds_toArray, List.set_cons_zero, List.set_cons_succ, i64_w, i32_w]
                                                              rfl
                                                            refine pure_ (i := 15) (N := some 139) (v := undef) (a' := ?_) #[true, true, true, true, true, true, true, true, true, true, true, true, true, true, true, true, false, false, false, false, false, false, false, false] rfl rfl (any_of HT_.out (by kernel_rfl)) (fun _ _ _ h => h) (Or.inr ⟨by rfl, rfl⟩) ?_ ?_
                                                            rotate_left
                                                            · simp only [Act.put, List.setIfInBounds_toArray, List.set_cons_zero, List.set_cons_succ, i64_w, i32_w]
                                                              rfl
                                                            refine pure_ (i := 16) (N := some 140) (v := undef) (a' := ?_) #[true, true, true, true, true, true, true, true, true, true, true, true, true, true, true, true, true, false, false, false, false, false, false, false] rfl rfl (any_of HT_.out (by kernel_rfl)) (fun _ _ _ h => h) (Or.inr ⟨by rfl, rfl⟩) ?_ ?_
                                                            rotate_left
                                                            · simp only [Act.put, List.setIfInBounds_toArray, List.set_cons_zero, List.set_cons_succ, i64_w, i32_w]
                                                              rfl
                                                            refine pure_ (i := 17) (N := some 141) (v := undef) (a' := ?_) #[true, true, true, true, true, true, true, true, true, true, true, true, true, true, true, true, true, true, false, false, false, false, false, false] rfl rfl (any_of HT_.out (by kernel_rfl)) (fun _ _ _ h => h) (Or.inr ⟨by rfl, rfl⟩) ?_ ?_
                                                            rotate_left
                                                            · simp only [Act.put, List.setIfInBounds_toArray, List.set_cons_zero, List.set_cons_succ, i64_w, i32_w]
                                                              rfl
                                                            refine pure_ (i := 18) (N := some 142) (v := undef) (a' := ?_) #[true, true, true, true, true, true, true, true, true, true, true, true, true, true, true, true, true, true, true, false, false, false, false, false] rfl rfl (any_of HT_.out (by kernel_rfl)) (fun _ _ _ h => h) (Or.inr ⟨by rfl, rfl⟩) ?_ ?_
                                                            rotate_left
                                                            · simp only [Act.put, List.setIfInBounds_toArray, List.set_cons_zero, List.set_cons_succ, i64_w, i32_w]
                                                              rfl
                                                            refine pure_ (i := 19) (N := some 143) (v := undef) (a' := ?_) #[true, true, true, true, true, true, true, true, true, true, true, true, true, true, true, true, true, true, true, true, false, false, false, false] rfl rfl (any_of HT_.out (by kernel_rfl)) (fun _ _ _ h => h) (Or.inr ⟨by rfl, rfl⟩) ?_ ?_
                                                            rotate_left
                                                            · simp only [Act.put, List.setIfInBounds_toArray, List.set_cons_zero, List.set_cons_succ, i64_w, i32_w]
                                                              rfl
                                                            refine pure_ (i := 20) (N := some 144) (v := undef) (a' := ?_) #[true, true, true, true, true, true, true, true, true, true, true, true, true, true, true, true, true, true, true, true, true, false, false, false] rfl rfl (any_of HT_.out (by kernel_rfl)) (fun _ _ _ h => h) (Or.inr ⟨by rfl, rfl⟩) ?_ ?_
                                                            rotate_left
                                                            · simp only [Act.put, List.setIfInBounds_toArray, List.set_cons_zero, List.set_cons_succ, i64_w, i32_w]
                                                              rfl
                                                            refine pure_ (i := 21) (N := some 145) (v := undef) (a' := ?_) #[true, true, true, true, true, true, true, true, true, true, true, true, true, true, true, true, true, true, true, true, true, true, false, false] rfl rfl (any_of HT_.out (by kernel_rfl)) (fun _ _ _ h => h) (Or.inr ⟨by rfl, rfl⟩) ?_ ?_
                                                            rotate_left
                                                            · simp only [Act.put, List.setIfInBounds_toArray, List.set_cons_zero, List.set_cons_succ, i64_w, i32_w]
                                                              rfl
                                                            refine pure_ (i := 22) (N := some 146) (v := undef) (a' := ?_) #[true, true, true, true, true, true, true, true, true, true, true, true, true, true, true, true, true, true, true, true, true, true, true, false] rfl rfl (any_of HT_.out (by kernel_rfl)) (fun _ _ _ h => h) (Or.inr ⟨by rfl, rfl⟩) ?_ ?_
                                                            rotate_left
                                                            · simp only [Act.put, List.setIfInBounds_toArray, List.set_cons_zero, List.set_cons_succ, i64_w, i32_w]
                                                              rfl
                                                            refine pure_ (i := 23) (N := some 147) (v := ?_) (a' := ?_) #[true, true, true, true, true, true, true, true, true, true, true, true, true, true, true, true, true, true, true, true, true, true, true, true] rfl rfl (any_of HT_.out (by kernel_rfl)) (fun _ _ _ h => h) (Or.inl ⟨by rfl, ?_⟩) ?_ ?_
                                                            rotate_left
                                                            · intro w'
                                                              go_simp
                                                              with_reducible rfl
                                                            rotate_left
                                                            · simp only [Act.put, List.setIfInBounds_toArray, List.set_cons_zero, List.set_cons_succ, i64_w, i32_w]
                                                              rfl
                                                            refine done_ (done_of HT_.out (by kernel_rfl)) ?_
                                                            try go_wp2
                                                            go_ret
                                                            exact ⟨by first | rfl | (simp [errW_none, errW_some] <;> rfl) | (simp only [← hji4, ← hji37]; first | rfl | (simp [errW_none, errW_some] <;> rfl)) | (simp [*, errW_none, errW_some] <;> rfl), by repeat (first | (with_reducible first | exact HB.out | apply below_alloc | apply pw_below_drewN | apply below_drew1) | exact HB.out)⟩
                                                        · rw [if_neg c59] at H
                                                          exact absurd H (by simp)
                                                      · rw [if_neg c58] at H
                                                        exact absurd H (by simp)
                                                    · rw [if_neg c57] at H
                                                      exact absurd H (by simp)
                                                  · rw [if_neg c56] at H
                                                    have c56b0 : decide (x121_6 < (t124.length : Int)) = false := decide_eq_false c56
                                                    clear c56
                                                    replace H := Option.bind_eq_some_iff.mp H
                                                    obtain ⟨t142, A680, H⟩ := H
                                                    replace H : (some t142) = some r := H
                                                    have A68 := Aside0.mk A680
                                                    clear A680
                                                    obtain rfl := Option.some.inj H
                                                    go_wp2_with (first | ((with_reducible refine gate_callee (f := 19) rfl ?_); refine goesL_ (some 149) rfl rfl Tryd.func19 (by kernel_rfl) rfl #[] rfl (by (try simp only [List.map_toArray, List.map_cons, List.map_nil]); first | done | rfl | (simp only [List.length_drop, List.length_take]; rfl)) ?_; (with_reducible refine (doorwardlaw14_alive.calls  t142 _ ?side1 A68.out).mono ?_); (case side1 => exact LaidAt.of HLD.out (by repeat (first | (with_reducible first | exact HB.out | apply below_alloc | apply pw_below_drewN | apply below_drew1) | exact HB.out))); rintro e w69 ⟨rfl, hb⟩; refine ⟨_, rfl, ?_⟩; have n0_ := Aside0.mk (Kd.R_below (by (with_reducible repeat (first | apply Kd.R_alloc | apply Kd.R_drewN | apply Kd.R_drew)); exact HO_7.out) hb); have n1_ := Aside0.mk (Kd.R_below (by (with_reducible repeat (first | apply Kd.R_alloc | apply Kd.R_drewN | apply Kd.R_drew)); exact HO_13.out) hb); have n2_ := Aside0.mk (below_step (by repeat (first | (with_reducible first | exact HB.out | apply below_alloc | apply pw_below_drewN | apply below_drew1) | exact HB.out)) hb); clear HO_7; clear HO_13; clear HB; have HO_7 := n0_; have HO_13 := n1_; have HB := n2_; clear n0_ n1_ n2_; (try clear hb); (try clear hb2); (try clear hk); (try clear hi)))
                                                    go_ret
                                                    exact ⟨by first | rfl | (simp [errW_none, errW_some] <;> rfl) | (simp only [← hji4, ← hji37]; first | rfl | (simp [errW_none, errW_some] <;> rfl)) | (simp [*, errW_none, errW_some] <;> rfl), by repeat (first | (with_reducible first | exact HB.out | apply below_alloc | apply pw_below_drewN | apply below_drew1) | exact HB.out)⟩
                                      · rw [if_neg c48] at H
                                        exact absurd H (by simp)
                                    · rw [if_neg c45] at H
                                      exact absurd H (by simp)
                                  · rw [if_neg c44] at H
                                    exact absurd H (by simp)
                                · rw [if_neg c43] at H
                                  exact absurd H (by simp)
                        · rw [if_neg c39] at H
                          exact absurd H (by simp)
                      · rw [if_neg c38] at H
                        exact absurd H (by simp)
    · rw [if_neg c6] at H
      exact absurd H (by simp)
  · rw [if_neg c5] at H
    exact absurd H (by simp)

end Go.Proofs.YtdfjjimmnbijmaaDoor.LB

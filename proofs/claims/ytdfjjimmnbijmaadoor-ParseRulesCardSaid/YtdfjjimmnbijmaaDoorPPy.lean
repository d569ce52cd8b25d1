-- Written for this claim by myprint.py over the kit's print (functions of this session supplied)
import Derived.Test.YtdfjjimmnbijmaaDoorPPz
namespace Go.Proofs.YtdfjjimmnbijmaaDoor.PP
open Go.RowKit Go.Proofs.YtdfjjimmnbijmaaDoorW.PrintWords Go.Proofs.YtdfjjimmnbijmaaDoorW.PrintLast Go.Proofs.YtdfjjimmnbijmaaDoorW.PrintMore Go.Proofs.YtdfjjimmnbijmaaDoor.Base
attribute [local go_sem] max2_int min2_int max_two min_two max_three min_three max_four min_four   -- for this text's walks alone
set_option linter.unusedVariables false
set_option linter.unusedSimpArgs false

/-! ### doorwardlaw15_ParseRules: function 10 -/
def doorwardlaw15_ParseRules.j0 : Nat → ByteArray → ByteArray → Bool → ByteArray → ByteArray → Int → List (S81) → ByteArray → ByteArray → Int → List (S81) → Option (Bool)
 | 0, _, _, _, _, _, _, _, _, _, _, _ => none
 | k + 1, x0, x1, x43, x148000, x148001, x148002, x148003, x157000, x157001, x157002, x157003 => if x43 = true then ((doorwardlaw15_alive.f).bind fun t157 => (some t157)) else (if x0.size + 1 ≤ 9223372036854775807 then (if (x0 ++ (⟨#[10]⟩ : ByteArray)).size + x1.size ≤ 9223372036854775807 then ((parse_Parse.f ((x0 ++ (⟨#[10]⟩ : ByteArray)) ++ x1)).bind fun bt158 => ((some (([] : List (S81)) : List (S81))).bind fun y168 => (if y168.length + x148003.length < 1172812402961 then ((some (y168 ++ x148003 : List (S81))).bind fun y171 => (if y171.length + x157003.length < 1172812402961 then ((doorwardlaw15_alive.f).bind fun t177 => (if t177 = true then (if bt158.2.2.2.2.1 = 0 then ((doorwardref15_Like.f k bt158.1 bt158.2.1 bt158.2.2.1 bt158.2.2.2.1 x148000 x148001 x148002 (y171 ++ x157003)).bind fun t178 => (some t178)) else (some false)) else (some false))) else (none))) else (none)))) else (none)) else (none))
def doorwardlaw15_ParseRules.f (k : Nat) (a0 : ByteArray) (a1 : ByteArray) : Option (Bool) := if 0 ≤ (mn (a0.size : Int) 900) then (if (mn (a0.size : Int) 900) ≤ (a0.size : Int) then (if 0 ≤ (mn (a1.size : Int) 300) then (if (mn (a1.size : Int) 300) ≤ (a1.size : Int) then ((parse_Parse.f (a0.extract 0 ((mn (a0.size : Int) 900) : Int).toNat)).bind fun bt139 => (if 17 + (a1.extract 0 ((mn (a1.size : Int) 300) : Int).toNat).size ≤ 9223372036854775807 then ((parse_Parse.f ((⟨#[97, 114, 99, 104, 32, 97, 10, 100, 101, 102, 97, 117, 108, 116, 32, 98, 10]⟩ : ByteArray) ++ (a1.extract 0 ((mn (a1.size : Int) 300) : Int).toNat))).bind fun bt148 => (if bt139.2.2.2.2.1 = 0 then (doorwardlaw15_ParseRules.j0 k (a0.extract 0 ((mn (a0.size : Int) 900) : Int).toNat) (a1.extract 0 ((mn (a1.size : Int) 300) : Int).toNat) (bt148.2.2.2.2.1 != 0) bt139.1 bt139.2.1 bt139.2.2.1 bt139.2.2.2.1 bt148.1 bt148.2.1 bt148.2.2.1 bt148.2.2.2.1) else (doorwardlaw15_ParseRules.j0 k (a0.extract 0 ((mn (a0.size : Int) 900) : Int).toNat) (a1.extract 0 ((mn (a1.size : Int) 300) : Int).toNat) true bt139.1 bt139.2.1 bt139.2.2.1 bt139.2.2.2.1 bt148.1 bt148.2.1 bt148.2.2.1 bt148.2.2.2.1))) else (none))) else (none)) else (none)) else (none)) else (none)
theorem doorwardlaw15_ParseRules.mono_l : ∀ k, (∀ y0 y1 y2 y3 y4 y5 y6 y7 y8 y9 y10, LeO (doorwardlaw15_ParseRules.j0 k y0 y1 y2 y3 y4 y5 y6 y7 y8 y9 y10) (doorwardlaw15_ParseRules.j0 (k + 1) y0 y1 y2 y3 y4 y5 y6 y7 y8 y9 y10))
 | 0 => fun _ _ _ _ _ _ _ _ _ _ _ r h => by simp [doorwardlaw15_ParseRules.j0] at h
 | k + 1 => by
  have ih0 := doorwardlaw15_ParseRules.mono_l k
  ·intro y0 y1 y2 y3 y4 y5 y6 y7 y8 y9 y10
   unfold doorwardlaw15_ParseRules.j0
   repeat' first
   | (with_reducible exact ih0 _ _ _ _ _ _ _ _ _ _ _)
   | (with_reducible exact doorwardref15_Like.mono _ _ _ _ _ _ _ _ _)
   | (with_reducible exact LeO.refl _)
   | (with_reducible exact LeO.none _)
   | (with_reducible refine LeO.ite ?_ ?_)
   | (with_reducible refine LeO.bind ?_ (fun _ => ?_))
   | exact ih0 _ _ _ _ _ _ _ _ _ _ _
   | exact doorwardref15_Like.mono _ _ _ _ _ _ _ _ _
   | exact LeO.none _
   | refine LeO.ite ?_ ?_
   | refine LeO.bind ?_ (fun _ => ?_)
theorem doorwardlaw15_ParseRules.mono : ∀ a0 a1 k, LeO (doorwardlaw15_ParseRules.f k a0 a1) (doorwardlaw15_ParseRules.f (k + 1) a0 a1) := by
 intro a0 a1 k
 have ih0 := doorwardlaw15_ParseRules.mono_l k
 unfold doorwardlaw15_ParseRules.f
 repeat' first
   | (with_reducible exact ih0 _ _ _ _ _ _ _ _ _ _ _)
   | (with_reducible exact doorwardref15_Like.mono _ _ _ _ _ _ _ _ _)
   | (with_reducible exact LeO.refl _)
   | (with_reducible exact LeO.none _)
   | (with_reducible refine LeO.ite ?_ ?_)
   | (with_reducible refine LeO.bind ?_ (fun _ => ?_))
   | exact ih0 _ _ _ _ _ _ _ _ _ _ _
   | exact doorwardref15_Like.mono _ _ _ _ _ _ _ _ _
   | exact LeO.none _
   | refine LeO.ite ?_ ?_
   | refine LeO.bind ?_ (fun _ => ?_)
def doorwardlaw15_ParseRules.T1 : Bool × List (List Nat × List Nat) := (true, [([], []), ([], []), ([1], [1]), ([2], [2]), ([0, 3], [0, 3]), ([], []), ([], []), ([6], [6]), ([7], [7]), ([5, 8], [5, 8]), ([4, 0, 1, 2, 3, 4], [0, 1, 4]), ([9, 10, 0, 1, 2, 3, 4, 5, 6, 7, 8, 9, 10], [5, 6, 9])])
def doorwardlaw15_ParseRules.B1 : List Nat := [0, 0, 2, 6, 15, 0, 0, 64, 192, 480, 31, 2047]
theorem doorwardlaw15_ParseRules.tab1 : rtab .any (opsOf Tryd.f10 1) = doorwardlaw15_ParseRules.T1 := by kernel_rfl
theorem doorwardlaw15_ParseRules.bits1 : waitsOk doorwardlaw15_ParseRules.T1.2 doorwardlaw15_ParseRules.B1 = true := by kernel_rfl
def doorwardlaw15_ParseRules.T8 : Bool × List (List Nat × List Nat) := (true, [([], []), ([], []), ([1], [1]), ([0, 2], [0, 2]), ([], []), ([4], [4]), ([3, 5, 3], [3, 5]), ([0, 1, 2, 3, 4, 5, 6], []), ([7, 6, 6, 0, 1, 2, 3, 4, 5, 6], [6, 7])])
def doorwardlaw15_ParseRules.B8 : List Nat := [0, 0, 2, 7, 0, 16, 63, 127, 255]
theorem doorwardlaw15_ParseRules.tab8 : rtab .any (opsOf Tryd.f10 8) = doorwardlaw15_ParseRules.T8 := by kernel_rfl
theorem doorwardlaw15_ParseRules.bits8 : waitsOk doorwardlaw15_ParseRules.T8.2 doorwardlaw15_ParseRules.B8 = true := by kernel_rfl
set_option maxHeartbeats 8000000 in
set_option maxRecDepth 100000 in
theorem doorwardlaw15_ParseRules.calls (k : Nat) (a0 : ByteArray) (a1 : ByteArray) (r : Bool) (w : World) (hLd : LaidAt w) (h : doorwardlaw15_ParseRules.f k a0 a1 = some r) :
  Calls Tryd.prog 10 #[.string a0, .string a1] w fun e w' => e = .returned (.bool r) ∧ Below w.heap.size w w' := by
 have hu41 := Tryd.underlying41
 have HLD := Aside0.mk hLd
 clear hLd
 have HB := Aside0.mk (Below.refl w.heap.size w)
 have H:(if 0 ≤ (mn (a0.size:Int) 900) then (if (mn (a0.size:Int) 900) ≤ (a0.size:Int) then (if 0 ≤ (mn (a1.size:Int) 300) then (if (mn (a1.size:Int) 300) ≤ (a1.size:Int) then ((parse_Parse.f (a0.extract 0 ((mn (a0.size:Int) 900):Int).toNat)).bind fun bt139 => (if 17+(a1.extract 0 ((mn (a1.size:Int) 300):Int).toNat).size ≤ 9223372036854775807 then ((parse_Parse.f ((⟨#[97,114,99,104,32,97,10,100,101,102,97,117,108,116,32,98,10]⟩:ByteArray) ++ (a1.extract 0 ((mn (a1.size:Int) 300):Int).toNat))).bind fun bt148 => (if bt139.2.2.2.2.1 = 0 then (doorwardlaw15_ParseRules.j0 k (a0.extract 0 ((mn (a0.size:Int) 900):Int).toNat) (a1.extract 0 ((mn (a1.size:Int) 300):Int).toNat) (bt148.2.2.2.2.1 != 0) bt139.1 bt139.2.1 bt139.2.2.1 bt139.2.2.2.1 bt148.1 bt148.2.1 bt148.2.2.1 bt148.2.2.2.1) else (doorwardlaw15_ParseRules.j0 k (a0.extract 0 ((mn (a0.size:Int) 900):Int).toNat) (a1.extract 0 ((mn (a1.size:Int) 300):Int).toNat) true bt139.1 bt139.2.1 bt139.2.2.1 bt139.2.2.2.1 bt148.1 bt148.2.1 bt148.2.2.1 bt148.2.2.2.1))) else (none))) else (none)) else (none)) else (none)) else (none)) = some r:=h
 clear h
 obtain ⟨ji3, hji3⟩ : ∃ j_ : Int, (mn (a0.size : Int) 900) = j_ := ⟨_, rfl⟩
 replace H:(if 0 ≤ (ji3) then (if (ji3) ≤ (a0.size:Int) then (if 0 ≤ (mn (a1.size:Int) 300) then (if (mn (a1.size:Int) 300) ≤ (a1.size:Int) then ((parse_Parse.f (a0.extract 0 ((ji3):Int).toNat)).bind fun bt139 => (if 17+(a1.extract 0 ((mn (a1.size:Int) 300):Int).toNat).size ≤ 9223372036854775807 then ((parse_Parse.f ((⟨#[97,114,99,104,32,97,10,100,101,102,97,117,108,116,32,98,10]⟩:ByteArray) ++ (a1.extract 0 ((mn (a1.size:Int) 300):Int).toNat))).bind fun bt148 => (if bt139.2.2.2.2.1 = 0 then (doorwardlaw15_ParseRules.j0 k (a0.extract 0 ((ji3):Int).toNat) (a1.extract 0 ((mn (a1.size:Int) 300):Int).toNat) (bt148.2.2.2.2.1 != 0) bt139.1 bt139.2.1 bt139.2.2.1 bt139.2.2.2.1 bt148.1 bt148.2.1 bt148.2.2.1 bt148.2.2.2.1) else (doorwardlaw15_ParseRules.j0 k (a0.extract 0 ((ji3):Int).toNat) (a1.extract 0 ((mn (a1.size:Int) 300):Int).toNat) true bt139.1 bt139.2.1 bt139.2.2.1 bt139.2.2.2.1 bt148.1 bt148.2.1 bt148.2.2.1 bt148.2.2.2.1))) else (none))) else (none)) else (none)) else (none)) else (none)) = some r:=by first|(rw [hji3] at H;exact H)|(simp only [hji3] at H ⊢;exact H)
 (try (have hji3h : ji3 ≤ 900 := by (rw [← hji3]; unfold mn; (repeat' split) <;> omega)))
 (try (have hji3g : ji3 ≤ 64 := by omega))
 (try (have hji3l : 0 ≤ ji3 := by (rw [← hji3]; unfold mn; (repeat' split) <;> omega)))
 (try (have hji3m : 0 ≤ ji3 := by omega))
 have hji3_ : (if 900 < (a0.size : Int) then 900 else (a0.size : Int)) = ji3 := hji3
 by_cases c4 : 0 ≤ (ji3)
 ·rw [if_pos c4] at H
  have c4b0 := eq_true c4
  have c4b1 : decide (0 ≤ (ji3)) = true := decide_eq_true c4
  clear c4
  by_cases c5 : (ji3) ≤ (a0.size : Int)
  ·rw [if_pos c5] at H
   have c5b0 := eq_true c5
   have c5b1 : decide ((ji3) ≤ (a0.size : Int)) = true := decide_eq_true c5
   clear c5
   obtain ⟨ji6, hji6⟩ : ∃ j_ : Int, (mn (a1.size : Int) 300) = j_ := ⟨_, rfl⟩
   replace H:(if 0 ≤ (ji6) then (if (ji6) ≤ (a1.size:Int) then ((parse_Parse.f (a0.extract 0 ((ji3):Int).toNat)).bind fun bt139 => (if 17+(a1.extract 0 ((ji6):Int).toNat).size ≤ 9223372036854775807 then ((parse_Parse.f ((⟨#[97,114,99,104,32,97,10,100,101,102,97,117,108,116,32,98,10]⟩:ByteArray) ++ (a1.extract 0 ((ji6):Int).toNat))).bind fun bt148 => (if bt139.2.2.2.2.1 = 0 then (doorwardlaw15_ParseRules.j0 k (a0.extract 0 ((ji3):Int).toNat) (a1.extract 0 ((ji6):Int).toNat) (bt148.2.2.2.2.1 != 0) bt139.1 bt139.2.1 bt139.2.2.1 bt139.2.2.2.1 bt148.1 bt148.2.1 bt148.2.2.1 bt148.2.2.2.1) else (doorwardlaw15_ParseRules.j0 k (a0.extract 0 ((ji3):Int).toNat) (a1.extract 0 ((ji6):Int).toNat) true bt139.1 bt139.2.1 bt139.2.2.1 bt139.2.2.2.1 bt148.1 bt148.2.1 bt148.2.2.1 bt148.2.2.2.1))) else (none))) else (none)) else (none)) = some r:=by first|(rw [hji6] at H;exact H)|(simp only [hji6] at H ⊢;exact H)
   (try (have hji6h : ji6 ≤ 300 := by (rw [← hji6]; unfold mn; (repeat' split) <;> omega)))
   (try (have hji6g : ji6 ≤ 64 := by omega))
   (try (have hji6l : 0 ≤ ji6 := by (rw [← hji6]; unfold mn; (repeat' split) <;> omega)))
   (try (have hji6m : 0 ≤ ji6 := by omega))
   have hji6_ : (if 300 < (a1.size : Int) then 300 else (a1.size : Int)) = ji6 := hji6
   by_cases c7 : 0 ≤ (ji6)
   ·rw [if_pos c7] at H
    have c7b0 := eq_true c7
    have c7b1 : decide (0 ≤ (ji6)) = true := decide_eq_true c7
    clear c7
    by_cases c8 : (ji6) ≤ (a1.size : Int)
    ·rw [if_pos c8] at H
     have c8b0 := eq_true c8
     have c8b1 : decide ((ji6) ≤ (a1.size : Int)) = true := decide_eq_true c8
     clear c8
     replace H := Option.bind_eq_some_iff.mp H
     obtain ⟨⟨t139, t140, t141, t142, t145, t146⟩, A90, H⟩ := H
     replace H:(if 17+(a1.extract 0 ((ji6):Int).toNat).size ≤ 9223372036854775807 then ((parse_Parse.f ((⟨#[97,114,99,104,32,97,10,100,101,102,97,117,108,116,32,98,10]⟩:ByteArray) ++ (a1.extract 0 ((ji6):Int).toNat))).bind fun bt148 => (if t145 = 0 then (doorwardlaw15_ParseRules.j0 k (a0.extract 0 ((ji3):Int).toNat) (a1.extract 0 ((ji6):Int).toNat) (bt148.2.2.2.2.1 != 0) t139 t140 t141 t142 bt148.1 bt148.2.1 bt148.2.2.1 bt148.2.2.2.1) else (doorwardlaw15_ParseRules.j0 k (a0.extract 0 ((ji3):Int).toNat) (a1.extract 0 ((ji6):Int).toNat) true t139 t140 t141 t142 bt148.1 bt148.2.1 bt148.2.2.1 bt148.2.2.2.1))) else (none)) = some r:=H
     have A9 := Aside0.mk A90
     clear A90
     by_cases c10 : 17 + (a1.extract 0 ((ji6) : Int).toNat).size ≤ 9223372036854775807
     ·rw [if_pos c10] at H
      have c10b0 := eq_true c10
      have c10b1 : decide (17 + (a1.extract 0 ((ji6) : Int).toNat).size ≤ 9223372036854775807) = true := decide_eq_true c10
      try have c10b2 : (9223372036854775807 < 17 + (a1.extract 0 ((ji6) : Int).toNat).size) = False := eq_false (Nat.not_lt.2 c10)
      try have c10b3:(9223372036854775807 < 17+((ji6):Int).toNat) = False:=eq_false (by have h0_:=c10;have f0_:=of_eq_true c8b0;simp only [ByteArray.size_append,ByteArray.size_extract] at h0_ ⊢;omega)
      replace H := Option.bind_eq_some_iff.mp H
      obtain ⟨⟨t148, t149, t150, t151, t154, t155⟩, A110, H⟩ := H
      replace H:(if t145 = 0 then (doorwardlaw15_ParseRules.j0 k (a0.extract 0 ((ji3):Int).toNat) (a1.extract 0 ((ji6):Int).toNat) (t154 != 0) t139 t140 t141 t142 t148 t149 t150 t151) else (doorwardlaw15_ParseRules.j0 k (a0.extract 0 ((ji3):Int).toNat) (a1.extract 0 ((ji6):Int).toNat) true t139 t140 t141 t142 t148 t149 t150 t151)) = some r:=H
      have A11 := Aside0.mk A110
      clear A110
      have HC12 := Aside0.mk H
      clear H
      go_enter Tryd.func10, Tryd.ntmps10
      try go_wp2
      have n0_ := Aside0.mk (below_drew1 HB.out)
      clear HB
      have HB := n0_
      clear n0_
      refine start_ (n:=12) (S:=fun w' => True) (ds:=[]) #[false,false,false,false,false,false,false,false,false,false,false,false] (by kernel_rfl) rfl rfl trivial (fun hHeld => ?_);refine with_tabW doorwardlaw15_ParseRules.tab1 doorwardlaw15_ParseRules.bits1 (fun HT_ HW_ => ?_)
      generalize w.drew = w13 at HB hHeld ⊢
      refine pure_ (i:=0) (N:=some 15) (v:=?_) (a':=?_) #[true,false,false,false,false,false,false,false,false,false,false,false] rfl rfl (any_of HT_.out (by kernel_rfl)) (fun _ _ _ h => h) (Or.inl ⟨by rfl,?_⟩) ?_ ?_
      rotate_left
      ·intro w'
       go_simp
       with_reducible rfl
      rotate_left
      ·simp only [Act.put, List.setIfInBounds_toArray, List.set_cons_zero, List.set_cons_succ, i64_w, i32_w]
       rfl
      refine pure_ (i:=1) (N:=some 16) (v:=?_) (a':=?_) #[true,true,false,false,false,false,false,false,false,false,false,false] rfl rfl (any_of HT_.out (by kernel_rfl)) (fun _ _ _ h => h) (Or.inl ⟨by rfl,?_⟩) ?_ ?_
      rotate_left
      ·intro w'
       go_simp
       with_reducible rfl
      rotate_left
      ·simp only [Act.put, List.setIfInBounds_toArray, List.set_cons_zero, List.set_cons_succ, i64_w, i32_w]
       rfl
      refine pure_ (i:=2) (N:=some 17) (v:=?_) (a':=?_) #[true,true,true,false,false,false,false,false,false,false,false,false] rfl rfl (any_of HT_.out (by kernel_rfl)) (fun _ _ _ h => h) (Or.inl ⟨by rfl,?_⟩) ?_ ?_
      rotate_left
      ·intro w'
       go_simp
       with_reducible rfl
      rotate_left
      ·simp only [Act.put, List.setIfInBounds_toArray, List.set_cons_zero, List.set_cons_succ, i64_w, i32_w]
       rfl
      refine pure_ (i:=3) (N:=some 18) (v:=?_) (a':=?_) #[true,true,true,true,false,false,false,false,false,false,false,false] rfl rfl (any_of HT_.out (by kernel_rfl)) (fun _ _ _ h => h) (Or.inl ⟨by rfl,?_⟩) ?_ ?_
      rotate_left
      ·intro w'
       go_simp
       with_reducible rfl
      rotate_left
      ·simp only [Act.put, List.setIfInBounds_toArray, List.set_cons_zero, List.set_cons_succ, i64_w, i32_w]
       rfl
      refine pure_ (i:=4) (N:=some 19) (v:=?_) (a':=?_) #[true,true,true,true,true,false,false,false,false,false,false,false] rfl rfl (any_of HT_.out (by kernel_rfl)) (fun _ _ _ h => h) (Or.inl ⟨by rfl,?_⟩) ?_ ?_
      rotate_left
      ·intro w'
       go_simp
       with_reducible rfl
      rotate_left
      ·simp only [Act.put, List.setIfInBounds_toArray, List.set_cons_zero, List.set_cons_succ, i64_w, i32_w]
       rfl
      refine pure_ (i:=5) (N:=some 20) (v:=?_) (a':=?_) #[true,true,true,true,true,true,false,false,false,false,false,false] rfl rfl (any_of HT_.out (by kernel_rfl)) (fun _ _ _ h => h) (Or.inl ⟨by rfl,?_⟩) ?_ ?_
      rotate_left
      ·intro w'
       go_simp
       with_reducible rfl
      rotate_left
      ·simp only [Act.put, List.setIfInBounds_toArray, List.set_cons_zero, List.set_cons_succ, i64_w, i32_w]
       rfl
      refine pure_ (i:=6) (N:=some 21) (v:=?_) (a':=?_) #[true,true,true,true,true,true,true,false,false,false,false,false] rfl rfl (any_of HT_.out (by kernel_rfl)) (fun _ _ _ h => h) (Or.inl ⟨by rfl,?_⟩) ?_ ?_
      rotate_left
      ·intro w'
       go_simp
       with_reducible rfl
      rotate_left
      ·simp only [Act.put, List.setIfInBounds_toArray, List.set_cons_zero, List.set_cons_succ, i64_w, i32_w]
       rfl
      refine pure_ (i:=7) (N:=some 22) (v:=?_) (a':=?_) #[true,true,true,true,true,true,true,true,false,false,false,false] rfl rfl (any_of HT_.out (by kernel_rfl)) (fun _ _ _ h => h) (Or.inl ⟨by rfl,?_⟩) ?_ ?_
      rotate_left
      ·intro w'
       go_simp
       with_reducible rfl
      rotate_left
      ·simp only [Act.put, List.setIfInBounds_toArray, List.set_cons_zero, List.set_cons_succ, i64_w, i32_w]
       rfl
      refine pure_ (i:=8) (N:=some 23) (v:=?_) (a':=?_) #[true,true,true,true,true,true,true,true,true,false,false,false] rfl rfl (any_of HT_.out (by kernel_rfl)) (fun _ _ _ h => h) (Or.inl ⟨by rfl,?_⟩) ?_ ?_
      rotate_left
      ·intro w'
       go_simp
       with_reducible rfl
      rotate_left
      ·simp only [Act.put, List.setIfInBounds_toArray, List.set_cons_zero, List.set_cons_succ, i64_w, i32_w]
       rfl
      refine pure_ (i:=9) (N:=some 24) (v:=?_) (a':=?_) #[true,true,true,true,true,true,true,true,true,true,false,false] rfl rfl (any_of HT_.out (by kernel_rfl)) (fun _ _ _ h => h) (Or.inl ⟨by rfl,?_⟩) ?_ ?_
      rotate_left
      ·intro w'
       go_simp
       with_reducible rfl
      rotate_left
      ·simp only [Act.put, List.setIfInBounds_toArray, List.set_cons_zero, List.set_cons_succ, i64_w, i32_w]
       rfl
      refine pure_ (i:=10) (N:=some 0) (v:=?_) (a':=?_) #[true,true,true,true,true,true,true,true,true,true,true,false] rfl rfl (any_of HT_.out (by kernel_rfl)) (fun _ _ _ h => h) (Or.inl ⟨by rfl,?_⟩) ?_ ?_
      rotate_left
      ·intro w'
       go_simp
       with_reducible rfl
      rotate_left
      ·simp only [Act.put, List.setIfInBounds_toArray, List.set_cons_zero, List.set_cons_succ, i64_w, i32_w]
       rfl
      refine pure_ (i:=11) (N:=some 1) (v:=?_) (a':=?_) #[true,true,true,true,true,true,true,true,true,true,true,true] rfl rfl (any_of HT_.out (by kernel_rfl)) (fun _ _ _ h => h) (Or.inl ⟨by rfl,?_⟩) ?_ ?_
      rotate_left
      ·intro w'
       go_simp
       with_reducible rfl
      rotate_left
      ·simp only [Act.put, List.setIfInBounds_toArray, List.set_cons_zero, List.set_cons_succ, i64_w, i32_w]
       rfl
      refine done_ (done_of HT_.out (by kernel_rfl)) ?_
      go_upto_region 4 with (first|((with_reducible refine gate_callee (f:=22) rfl ?_);refine goesL_ (some 27) rfl rfl Tryd.func22 (by kernel_rfl) rfl #[.string (a0.extract 0 ((ji3):Int).toNat)] rfl (by (try simp only [List.map_toArray,List.map_cons,List.map_nil]);first|done|(simp only [hji3];rfl)|rfl|(simp only [List.length_drop,List.length_take];rfl)) ?_;(with_reducible refine (parse_Parse.calls (a0.extract 0 ((ji3):Int).toNat) t139 t140 t141 t142 t145 t146 _ ?side1 A9.out).mono ?_);(case side1 => exact LaidAt.of HLD.out (by repeat (with_reducible first|exact HB.out|apply below_alloc|apply pw_below_drewN|apply below_drew1)));rintro e w14 ⟨v143,rfl,ho0,hb⟩;refine ⟨_,rfl,?_⟩;have n0_:=Aside0.mk (Kd.N_lower (Kd.N_mono (ok':=fun k_ => True) (Kd.R_N (Kd.R_bound ho0)) (fun k_ hk_ => trivial)) (below_size (by repeat (with_reducible first|exact HB.out|apply below_alloc|apply pw_below_drewN|apply below_drew1))));have n1_:=Aside0.mk (below_step (by repeat (with_reducible first|exact HB.out|apply below_alloc|apply pw_below_drewN|apply below_drew1)) hb);clear HB;have HO144:=n0_;have HB:=n1_;clear n0_ n1_;(try clear hb);(try clear hb2);(try clear hk);(try clear hi);(try clear ho0))|((with_reducible refine gate_dst (N:=5) rfl ?_);refine box_event ?hg (N:=5) ?hd (cs:=#[.string ⟨#[]⟩,.string ⟨#[]⟩,.int .u64 0,.slice none 0 0]) (t:=41) ?hr ?_;(case hd => rfl);(case hg => rfl);(case hr => first|(go_simp;done)|(go_simp;rfl));intro gb147 hg w15 hbox hb;have n0_:=Aside0.mk (Kd.N_below (Kd.N_elderB (by (with_reducible repeat first|apply Kd.N_alloc|apply Kd.N_drewN|apply Kd.N_drew);exact HO144.out) gb147 (Nat.le_of_eq hg.symm)) hb);have n1_:=Aside0.mk (below_step (by repeat (with_reducible first|exact HB.out|apply below_alloc|apply pw_below_drewN|apply below_drew1)) hb);have n2_:=Aside0.mk (hbox);have n3_:=Aside0.mk ((by rw [hg];exact (below_size (by repeat (with_reducible first|exact HB.out|apply below_alloc|apply pw_below_drewN|apply below_drew1))):w.heap.size ≤ gb147));have n4_:=Aside0.mk ((by rw [hg];exact (below_size (by repeat (with_reducible first|exact HB.out|apply below_alloc|apply pw_below_drewN|apply below_drew1))):w.heap.size ≤ gb147));clear HO144;clear HB;have HO144:=n0_;have HB:=n1_;have BK147:=n2_;have GW147:=n3_;have GE147:=n4_;clear n0_ n1_ n2_ n3_ n4_;clear hb hbox hg;have hcz16_0:w15.cell? ⟨gb147,0,none⟩ = some (.string ⟨#[]⟩):=(blk_cell BK147.out 0).trans rfl;have hcz16_1:w15.cell? ⟨gb147,1,none⟩ = some (.string ⟨#[]⟩):=(blk_cell BK147.out 1).trans rfl;have hcz16_2:w15.cell? ⟨gb147,2,none⟩ = some (.int .u64 0):=(blk_cell BK147.out 2).trans rfl;have hcz16_3:w15.cell? ⟨gb147,3,none⟩ = some (.slice none 0 0):=(blk_cell BK147.out 3).trans rfl;have hfz16_0:=blk_frozen BK147.out 0;have hfz16_1:=blk_frozen BK147.out 1;have hfz16_2:=blk_frozen BK147.out 2;have hfz16_3:=blk_frozen BK147.out 3;obtain ⟨Ao17,co17,eo17⟩:=Kd.N_slice HO144.out;subst eo17)|((with_reducible refine gate_callee (f:=22) rfl ?_);refine goesL_ (some 34) rfl rfl Tryd.func22 (by kernel_rfl) rfl #[.string ((⟨#[97,114,99,104,32,97,10,100,101,102,97,117,108,116,32,98,10]⟩:ByteArray) ++ (a1.extract 0 ((ji6):Int).toNat))] rfl (by (try simp only [List.map_toArray,List.map_cons,List.map_nil]);first|done|(simp only [hji6];rfl)|rfl|(simp only [List.length_drop,List.length_take];rfl)) ?_;(with_reducible refine (parse_Parse.calls ((⟨#[97,114,99,104,32,97,10,100,101,102,97,117,108,116,32,98,10]⟩:ByteArray) ++ (a1.extract 0 ((ji6):Int).toNat)) t148 t149 t150 t151 t154 t155 _ ?side1 A11.out).mono ?_);(case side1 => exact LaidAt.of HLD.out (by repeat (first|(with_reducible first|exact HB.out|apply below_alloc|apply pw_below_drewN|apply below_drew1|refine below_set ?_ GE147.out)|exact HB.out)));rintro e w18 ⟨v152,rfl,ho0,hb⟩;refine ⟨_,rfl,?_⟩;have n0_:=Aside0.mk (Kd.N_elder' (by (with_reducible repeat first|apply Kd.N_alloc|apply Kd.N_drewN|apply Kd.N_drew);exact (Kd.N_mono (Kd.N_far (p:=⟨gb147,3,none⟩) (Kd.N_far (p:=⟨gb147,2,none⟩) (Kd.N_far (p:=⟨gb147,1,none⟩) (Kd.N_far (p:=⟨gb147,0,none⟩) (Kd.N_mono HO144.out (fun k_ hk => (⟨hk,hk.2⟩:_ ∧ k_ ≠ gb147))) (fun _ hk => hk.2) (.string t139)) (fun _ hk => hk.2) (.string t140)) (fun _ hk => hk.2) (.int .u64 t141)) (fun _ hk => hk.2) (.slice Ao17 t142.length co17)) (fun _ h_ => h_.1))) (by first|exact Kd.R_base ho0|exact Kd.N_base ho0) hb);have n1_:=Aside0.mk (Kd.N_lower (Kd.N_mono (ok':=fun k_ => some k_ ≠ (.slice Ao17 t142.length co17:Value).ownBlock ∧ k_ ≠ gb147) (Kd.R_N (Kd.R_bound ho0)) (fun k_ hk_ => ⟨(Kd.fresh' (Kd.N_lt (by (with_reducible repeat first|apply Kd.N_alloc|apply Kd.N_drewN|apply Kd.N_drew);exact (Kd.N_mono (Kd.N_far (p:=⟨gb147,3,none⟩) (Kd.N_far (p:=⟨gb147,2,none⟩) (Kd.N_far (p:=⟨gb147,1,none⟩) (Kd.N_far (p:=⟨gb147,0,none⟩) (Kd.N_mono HO144.out (fun k_ hk => (⟨hk,hk.2⟩:_ ∧ k_ ≠ gb147))) (fun _ hk => hk.2) (.string t139)) (fun _ hk => hk.2) (.string t140)) (fun _ hk => hk.2) (.int .u64 t141)) (fun _ hk => hk.2) (.slice Ao17 t142.length co17)) (fun _ h_ => h_.1)))) k_ hk_.2.1),(Kd.freshB (g:=gb147) (o:=.cells #[.string t139,.string t140,.int .u64 t141,.slice Ao17 t142.length co17] 41 (0,0)) (by (with_reducible repeat first|apply zN|apply zD|apply zA);refine blk_put (cs:=#[.string t139,.string t140,.int .u64 t141,.slice none 0 0]) ?_ 3 _ rfl;refine blk_put (cs:=#[.string t139,.string t140,.int .u64 0,.slice none 0 0]) ?_ 2 _ rfl;refine blk_put (cs:=#[.string t139,.string ⟨#[]⟩,.int .u64 0,.slice none 0 0]) ?_ 1 _ rfl;refine blk_put (cs:=#[.string ⟨#[]⟩,.string ⟨#[]⟩,.int .u64 0,.slice none 0 0]) ?_ 0 _ rfl;(with_reducible repeat first|apply zN|apply zD|apply zA);exact BK147.out) k_ hk_.2.1)⟩)) (below_size (by repeat (first|(with_reducible first|exact HB.out|apply below_alloc|apply pw_below_drewN|apply below_drew1|refine below_set ?_ GE147.out)|exact HB.out))));have n2_:=Aside0.mk (blk_below (g:=gb147) (o:=.cells #[.string t139,.string t140,.int .u64 t141,.slice Ao17 t142.length co17] 41 (0,0)) (by (with_reducible repeat first|apply zN|apply zD|apply zA);refine blk_put (cs:=#[.string t139,.string t140,.int .u64 t141,.slice none 0 0]) ?_ 3 _ rfl;refine blk_put (cs:=#[.string t139,.string t140,.int .u64 0,.slice none 0 0]) ?_ 2 _ rfl;refine blk_put (cs:=#[.string t139,.string ⟨#[]⟩,.int .u64 0,.slice none 0 0]) ?_ 1 _ rfl;refine blk_put (cs:=#[.string ⟨#[]⟩,.string ⟨#[]⟩,.int .u64 0,.slice none 0 0]) ?_ 0 _ rfl;(with_reducible repeat first|apply zN|apply zD|apply zA);exact BK147.out) hb);have n3_:=Aside0.mk (below_step (by repeat (first|(with_reducible first|exact HB.out|apply below_alloc|apply pw_below_drewN|apply below_drew1|refine below_set ?_ GE147.out)|exact HB.out)) hb);clear HO144;clear BK147;clear HB;have HO144:=n0_;have HO153:=n1_;have BK147:=n2_;have HB:=n3_;clear n0_ n1_ n2_ n3_;(try clear hb);(try clear hb2);(try clear hk);(try clear hi);(try clear ho0))|((with_reducible refine gate_dst (N:=8) rfl ?_);refine box_event ?hg (N:=8) ?hd (cs:=#[.string ⟨#[]⟩,.string ⟨#[]⟩,.int .u64 0,.slice none 0 0]) (t:=41) ?hr ?_;(case hd => rfl);(case hg => rfl);(case hr => first|(go_simp;done)|(go_simp;rfl));intro gb156 hg w19 hbox hb;have n0_:=Aside0.mk (Kd.N_below (Kd.N_elderB (by (with_reducible repeat first|apply Kd.N_alloc|apply Kd.N_drewN|apply Kd.N_drew);exact HO144.out) gb156 (Nat.le_of_eq hg.symm)) hb);have n1_:=Aside0.mk (Kd.N_below (Kd.N_elderB (by (with_reducible repeat first|apply Kd.N_alloc|apply Kd.N_drewN|apply Kd.N_drew);exact HO153.out) gb156 (Nat.le_of_eq hg.symm)) hb);have n2_:=Aside0.mk (blk_below (g:=gb147) (o:=.cells #[.string t139,.string t140,.int .u64 t141,.slice Ao17 t142.length co17] 41 (0,0)) (by (with_reducible repeat first|apply zN|apply zD|apply zA);exact BK147.out) hb);have n3_:=Aside0.mk (below_step (by repeat (first|(with_reducible first|exact HB.out|apply below_alloc|apply pw_below_drewN|apply below_drew1|refine below_set ?_ GE147.out)|exact HB.out)) hb);have n4_:=Aside0.mk (hbox);have n5_:=Aside0.mk ((by rw [hg];exact (below_size (by repeat (first|(with_reducible first|exact HB.out|apply below_alloc|apply pw_below_drewN|apply below_drew1|refine below_set ?_ GE147.out)|exact HB.out))):w.heap.size ≤ gb156));have n6_:=Aside0.mk ((by rw [hg];exact (below_size (by repeat (first|(with_reducible first|exact HB.out|apply below_alloc|apply pw_below_drewN|apply below_drew1|refine below_set ?_ GE147.out)|exact HB.out))):w.heap.size ≤ gb156));have n7_:=Aside0.mk ((by rw [hg];exact Nat.ne_of_lt (blk_lt (g:=gb147) (o:=.cells #[.string t139,.string t140,.int .u64 t141,.slice Ao17 t142.length co17] 41 (0,0)) (by (with_reducible repeat first|apply zN|apply zD|apply zA);exact BK147.out)):gb147 ≠ gb156));have n8_:=Aside0.mk ((by rw [hg];exact Nat.ne_of_gt (blk_lt (g:=gb147) (o:=.cells #[.string t139,.string t140,.int .u64 t141,.slice Ao17 t142.length co17] 41 (0,0)) (by (with_reducible repeat first|apply zN|apply zD|apply zA);exact BK147.out)):gb156 ≠ gb147));clear HO144;clear HO153;clear BK147;clear HB;have HO144:=n0_;have HO153:=n1_;have BK147:=n2_;have HB:=n3_;have BK156:=n4_;have GW156:=n5_;have GE156:=n6_;have NB147_156:=n7_;have NB156_147:=n8_;clear n0_ n1_ n2_ n3_ n4_ n5_ n6_ n7_ n8_;clear hb hbox hg;have hnb20:=NB156_147.out;have hnc20:=NB147_156.out;have hcz21_0:w19.cell? ⟨gb156,0,none⟩ = some (.string ⟨#[]⟩):=(blk_cell BK156.out 0).trans rfl;have hcz21_1:w19.cell? ⟨gb156,1,none⟩ = some (.string ⟨#[]⟩):=(blk_cell BK156.out 1).trans rfl;have hcz21_2:w19.cell? ⟨gb156,2,none⟩ = some (.int .u64 0):=(blk_cell BK156.out 2).trans rfl;have hcz21_3:w19.cell? ⟨gb156,3,none⟩ = some (.slice none 0 0):=(blk_cell BK156.out 3).trans rfl;have hfz21_0:=blk_frozen BK156.out 0;have hfz21_1:=blk_frozen BK156.out 1;have hfz21_2:=blk_frozen BK156.out 2;have hfz21_3:=blk_frozen BK156.out 3;obtain ⟨Ao22,co22,eo22⟩:=Kd.N_slice HO153.out;subst eo22))
      (try simp only [Act.put, List.setIfInBounds_toArray, List.set_cons_zero, List.set_cons_succ])
      go_cut [43] (fun v43 wc => ∃ (kq:Nat) (x43_11:Bool),v43 = .bool x43_11 ∧ Aside0 (doorwardlaw15_ParseRules.j0 kq (a0.extract 0 ((ji3):Int).toNat) (a1.extract 0 ((ji6):Int).toNat) x43_11 t139 t140 t141 t142 t148 t149 t150 t151 = some r) ∧ Aside0 (kq ≤ k) ∧ Aside0 (Kd.N k81 81 wc w.heap.size (fun k_ => some k_ ≠ ((.slice Ao22 t151.length co22):Value).ownBlock ∧ k_ ≠ gb147 ∧ k_ ≠ gb156) (.slice Ao17 t142.length co17) t142) ∧ Aside0 (Kd.N k81 81 wc w.heap.size (fun k_ => some k_ ≠ ((.slice Ao17 t142.length co17):Value).ownBlock ∧ k_ ≠ gb147 ∧ k_ ≠ gb156) (.slice Ao22 t151.length co22) t151) ∧ Aside0 (wc.heap[gb147]? = some (.cells #[.string t139,.string t140,.int .u64 t141,(.slice Ao17 t142.length co17)] 41 (0,0))) ∧ Aside0 (wc.heap[gb156]? = some (.cells #[.string t148,.string t149,.int .u64 t150,(.slice Ao22 t151.length co22)] 41 (0,0))) ∧ Aside0 (Below w.heap.size w wc))
      case first =>
       have H := HC12.out
       clear HC12
       by_cases c23 : t145 = 0
       ·rw [if_pos c23] at H
        have c23b0 : (t145 == 0) = true := beq_iff_eq.mpr c23
        have c23b1 : (t145 != 0) = false := bne_eq_false_iff_eq.mpr c23
        clear c23
        (first | rw [c23b0] | (simp only [i64_w, i32_w]; rw [c23b0]) | skip)
        have H' := Aside0.mk H
        clear H
        go_wp2
        go_meet
        case rel => exact ⟨_,((t154 != 0)),(by first|rfl|(simp;done)|(simp [*];done)),H',⟨by first|omega|exact Nat.le_refl _⟩,⟨by (with_reducible repeat first|apply Kd.N_alloc|apply Kd.N_drewN|apply Kd.N_drew);exact Kd.N_mono (Kd.N_far (p:=⟨gb156,3,none⟩) (Kd.N_far (p:=⟨gb156,2,none⟩) (Kd.N_far (p:=⟨gb156,1,none⟩) (Kd.N_far (p:=⟨gb156,0,none⟩) (Kd.N_mono HO144.out (fun k_ hk => (⟨hk,hk.2⟩:_ ∧ k_ ≠ gb156))) (fun _ hk => hk.2) (.string t148)) (fun _ hk => hk.2) (.string t149)) (fun _ hk => hk.2) (.int .u64 t150)) (fun _ hk => hk.2) (.slice Ao22 t151.length co22)) (fun _ hk => ⟨hk.1.1.2,⟨hk.1.1.1.2,hk.1.2⟩⟩)⟩,⟨by (with_reducible repeat first|apply Kd.N_alloc|apply Kd.N_drewN|apply Kd.N_drew);exact Kd.N_mono (Kd.N_far (p:=⟨gb156,3,none⟩) (Kd.N_far (p:=⟨gb156,2,none⟩) (Kd.N_far (p:=⟨gb156,1,none⟩) (Kd.N_far (p:=⟨gb156,0,none⟩) (Kd.N_mono HO153.out (fun k_ hk => (⟨hk,hk.2⟩:_ ∧ k_ ≠ gb156))) (fun _ hk => hk.2) (.string t148)) (fun _ hk => hk.2) (.string t149)) (fun _ hk => hk.2) (.int .u64 t150)) (fun _ hk => hk.2) (.slice Ao22 t151.length co22)) (fun _ hk => ⟨hk.1.1.1,⟨hk.1.1.2,hk.1.2⟩⟩)⟩,⟨by (with_reducible repeat first|apply zN|apply zD|apply zA);refine blk_far ?_ NB147_156.out _;refine blk_far ?_ NB147_156.out _;refine blk_far ?_ NB147_156.out _;refine blk_far ?_ NB147_156.out _;(with_reducible repeat first|apply zN|apply zD|apply zA);exact BK147.out⟩,⟨by (with_reducible repeat first|apply zN|apply zD|apply zA);refine blk_put (cs:=#[.string t148,.string t149,.int .u64 t150,.slice none 0 0]) ?_ 3 _ rfl;refine blk_put (cs:=#[.string t148,.string t149,.int .u64 0,.slice none 0 0]) ?_ 2 _ rfl;refine blk_put (cs:=#[.string t148,.string ⟨#[]⟩,.int .u64 0,.slice none 0 0]) ?_ 1 _ rfl;refine blk_put (cs:=#[.string ⟨#[]⟩,.string ⟨#[]⟩,.int .u64 0,.slice none 0 0]) ?_ 0 _ rfl;(with_reducible repeat first|apply zN|apply zD|apply zA);exact BK156.out⟩,⟨by repeat (first|(with_reducible first|exact HB.out|apply below_alloc|apply pw_below_drewN|apply below_drew1|refine below_set ?_ GE147.out|refine below_set ?_ GE156.out)|exact HB.out)⟩⟩
       ·rw [if_neg c23] at H
        have c23b0 : (t145 == 0) = false := beq_eq_false_iff_ne.mpr c23
        have c23b1 : (t145 != 0) = true := bne_iff_ne.mpr c23
        (first | rw [c23b0] | (simp only [i64_w, i32_w]; rw [c23b0]) | skip)
        have H' := Aside0.mk H
        clear H
        go_wp2
        go_meet
        case rel => exact ⟨_,(true),(by first|rfl|(simp;done)|(simp [*];done)),H',⟨by first|omega|exact Nat.le_refl _⟩,⟨by (with_reducible repeat first|apply Kd.N_alloc|apply Kd.N_drewN|apply Kd.N_drew);exact Kd.N_mono (Kd.N_far (p:=⟨gb156,3,none⟩) (Kd.N_far (p:=⟨gb156,2,none⟩) (Kd.N_far (p:=⟨gb156,1,none⟩) (Kd.N_far (p:=⟨gb156,0,none⟩) (Kd.N_mono HO144.out (fun k_ hk => (⟨hk,hk.2⟩:_ ∧ k_ ≠ gb156))) (fun _ hk => hk.2) (.string t148)) (fun _ hk => hk.2) (.string t149)) (fun _ hk => hk.2) (.int .u64 t150)) (fun _ hk => hk.2) (.slice Ao22 t151.length co22)) (fun _ hk => ⟨hk.1.1.2,⟨hk.1.1.1.2,hk.1.2⟩⟩)⟩,⟨by (with_reducible repeat first|apply Kd.N_alloc|apply Kd.N_drewN|apply Kd.N_drew);exact Kd.N_mono (Kd.N_far (p:=⟨gb156,3,none⟩) (Kd.N_far (p:=⟨gb156,2,none⟩) (Kd.N_far (p:=⟨gb156,1,none⟩) (Kd.N_far (p:=⟨gb156,0,none⟩) (Kd.N_mono HO153.out (fun k_ hk => (⟨hk,hk.2⟩:_ ∧ k_ ≠ gb156))) (fun _ hk => hk.2) (.string t148)) (fun _ hk => hk.2) (.string t149)) (fun _ hk => hk.2) (.int .u64 t150)) (fun _ hk => hk.2) (.slice Ao22 t151.length co22)) (fun _ hk => ⟨hk.1.1.1,⟨hk.1.1.2,hk.1.2⟩⟩)⟩,⟨by (with_reducible repeat first|apply zN|apply zD|apply zA);refine blk_far ?_ NB147_156.out _;refine blk_far ?_ NB147_156.out _;refine blk_far ?_ NB147_156.out _;refine blk_far ?_ NB147_156.out _;(with_reducible repeat first|apply zN|apply zD|apply zA);exact BK147.out⟩,⟨by (with_reducible repeat first|apply zN|apply zD|apply zA);refine blk_put (cs:=#[.string t148,.string t149,.int .u64 t150,.slice none 0 0]) ?_ 3 _ rfl;refine blk_put (cs:=#[.string t148,.string t149,.int .u64 0,.slice none 0 0]) ?_ 2 _ rfl;refine blk_put (cs:=#[.string t148,.string ⟨#[]⟩,.int .u64 0,.slice none 0 0]) ?_ 1 _ rfl;refine blk_put (cs:=#[.string ⟨#[]⟩,.string ⟨#[]⟩,.int .u64 0,.slice none 0 0]) ?_ 0 _ rfl;(with_reducible repeat first|apply zN|apply zD|apply zA);exact BK156.out⟩,⟨by repeat (first|(with_reducible first|exact HB.out|apply below_alloc|apply pw_below_drewN|apply below_drew1|refine below_set ?_ GE147.out|refine below_set ?_ GE156.out)|exact HB.out)⟩⟩
      case rest =>
       clear HC12
       try clear c1
       try clear c2
       try clear p2
       try clear c4
       try clear c4b0
       try clear c4b1
       try clear c5
       try clear c5b0
       try clear c5b1
       try clear c7
       try clear c7b0
       try clear c7b1
       try clear c8
       try clear c8b0
       try clear c8b1
       try clear c10
       try clear c10b0
       try clear c10b1
       try clear c10b2
       try clear c20
       try clear c22
       try clear c23
       try clear c23b0
       try clear c23b1
       try clear hcz16_0
       try clear hcz16_1
       try clear hcz16_2
       try clear hcz16_3
       try clear hcz21_0
       try clear hcz21_1
       try clear hcz21_2
       try clear hcz21_3
       try clear hfz16_0
       try clear hfz16_1
       try clear hfz16_2
       try clear hfz16_3
       try clear hfz21_0
       try clear hfz21_1
       try clear hfz21_2
       try clear hfz21_3
       obtain ⟨kq, x43_11, rfl, HA, HJ11, HO_148003, HO_157003, BK147, BK156, HB⟩ := hcut
       cases kq with
       | zero => exact absurd HA.out (by simp [doorwardlaw15_ParseRules.j0])
       | succ kj11 =>
        have H := HA.out
        clear HA
        simp only [doorwardlaw15_ParseRules.j0] at H
        by_cases c24 : x43_11 = true
        ·subst c24
         have H1 : ((doorwardlaw15_alive.f).bind fun t157 => (some t157)) = some r := by rw [if_pos rfl] at H; exact H
         clear H
         have H := H1
         clear H1
         replace H := Option.bind_eq_some_iff.mp H
         obtain ⟨t157, A250, H⟩ := H
         replace H : (some t157) = some r := H
         have A25 := Aside0.mk A250
         clear A250
         obtain rfl := Option.some.inj H
         go_wp2_with (first|((with_reducible refine gate_callee (f:=23) rfl ?_);refine goesL_ (some 44) rfl rfl Tryd.func23 (by kernel_rfl) rfl #[] rfl (by (try simp only [List.map_toArray,List.map_cons,List.map_nil]);first|done|rfl|(simp only [List.length_drop,List.length_take];rfl)) ?_;(with_reducible refine (doorwardlaw15_alive.calls  t157 _ ?side1 A25.out).mono ?_);(case side1 => exact LaidAt.of HLD.out (by repeat (first|(with_reducible first|exact HB.out|apply below_alloc|apply pw_below_drewN|apply below_drew1|refine below_set ?_ GE147.out|refine below_set ?_ GE156.out)|exact HB.out)));rintro e w26 ⟨rfl,hb⟩;refine ⟨_,rfl,?_⟩;have n0_:=Aside0.mk (Kd.N_below (by (with_reducible repeat first|apply Kd.N_alloc|apply Kd.N_drewN|apply Kd.N_drew);exact HO_148003.out) hb);have n1_:=Aside0.mk (Kd.N_below (by (with_reducible repeat first|apply Kd.N_alloc|apply Kd.N_drewN|apply Kd.N_drew);exact HO_157003.out) hb);have n2_:=Aside0.mk (blk_below (g:=gb147) (o:=.cells #[.string t139,.string t140,.int .u64 t141,.slice Ao17 t142.length co17] 41 (0,0)) (by (with_reducible repeat first|apply zN|apply zD|apply zA);exact BK147.out) hb);have n3_:=Aside0.mk (blk_below (g:=gb156) (o:=.cells #[.string t148,.string t149,.int .u64 t150,.slice Ao22 t151.length co22] 41 (0,0)) (by (with_reducible repeat first|apply zN|apply zD|apply zA);exact BK156.out) hb);have n4_:=Aside0.mk (below_step (by repeat (first|(with_reducible first|exact HB.out|apply below_alloc|apply pw_below_drewN|apply below_drew1|refine below_set ?_ GE147.out|refine below_set ?_ GE156.out)|exact HB.out)) hb);clear HO_148003;clear HO_157003;clear BK147;clear BK156;clear HB;have HO_148003:=n0_;have HO_157003:=n1_;have BK147:=n2_;have BK156:=n3_;have HB:=n4_;clear n0_ n1_ n2_ n3_ n4_;(try clear hb);(try clear hb2);(try clear hk);(try clear hi)))
         go_ret
         exact ⟨by first|rfl|(simp [errW_none,errW_some] <;> rfl)|(simp only [← hji3,← hji6];first|rfl|(simp [errW_none,errW_some] <;> rfl))|(simp [*,errW_none,errW_some] <;> rfl),by repeat (first|(with_reducible first|exact HB.out|apply below_alloc|apply pw_below_drewN|apply below_drew1|refine below_set ?_ GE147.out|refine below_set ?_ GE156.out)|exact HB.out)⟩
        ·replace c24 := Bool.eq_false_iff.mpr c24
         subst c24
         have H1:(if (a0.extract 0 ((ji3):Int).toNat).size+1 ≤ 9223372036854775807 then (if ((a0.extract 0 ((ji3):Int).toNat) ++ (⟨#[10]⟩:ByteArray)).size+(a1.extract 0 ((ji6):Int).toNat).size ≤ 9223372036854775807 then ((parse_Parse.f (((a0.extract 0 ((ji3):Int).toNat) ++ (⟨#[10]⟩:ByteArray)) ++ (a1.extract 0 ((ji6):Int).toNat))).bind fun bt158 => ((some (([]:List (S81)):List (S81))).bind fun y168 => (if y168.length+t142.length < 1172812402961 then ((some (y168 ++ t142:List (S81))).bind fun y171 => (if y171.length+t151.length < 1172812402961 then ((doorwardlaw15_alive.f).bind fun t177 => (if t177 = true then (if bt158.2.2.2.2.1 = 0 then ((doorwardref15_Like.f kj11 bt158.1 bt158.2.1 bt158.2.2.1 bt158.2.2.2.1 t139 t140 t141 (y171 ++ t151)).bind fun t178 => (some t178)) else (some false)) else (some false))) else (none))) else (none)))) else (none)) else (none)) = some r:=by rw [if_neg (show ¬ (false = true) by decide)] at H;exact H
         clear H
         have H := H1
         clear H1
         by_cases c27 : (a0.extract 0 ((ji3) : Int).toNat).size + 1 ≤ 9223372036854775807
         ·rw [if_pos c27] at H
          have c27b0 := eq_true c27
          have c27b1 : decide ((a0.extract 0 ((ji3) : Int).toNat).size + 1 ≤ 9223372036854775807) = true := decide_eq_true c27
          try have c27b2 : (9223372036854775807 < (a0.extract 0 ((ji3) : Int).toNat).size + 1) = False := eq_false (Nat.not_lt.2 c27)
          try have c27b3:(9223372036854775807 < ((ji3):Int).toNat+1) = False:=eq_false (by have h0_:=c27;have f0_:=of_eq_true c5b0;simp only [ByteArray.size_append,ByteArray.size_extract] at h0_ ⊢;omega)
          by_cases c28 : ((a0.extract 0 ((ji3) : Int).toNat) ++ (⟨#[10]⟩ : ByteArray)).size + (a1.extract 0 ((ji6) : Int).toNat).size ≤ 9223372036854775807
          ·rw [if_pos c28] at H
           have c28b0 := eq_true c28
           have c28b1 : decide (((a0.extract 0 ((ji3) : Int).toNat) ++ (⟨#[10]⟩ : ByteArray)).size + (a1.extract 0 ((ji6) : Int).toNat).size ≤ 9223372036854775807) = true := decide_eq_true c28
           try have c28b2 : (9223372036854775807 < ((a0.extract 0 ((ji3) : Int).toNat) ++ (⟨#[10]⟩ : ByteArray)).size + (a1.extract 0 ((ji6) : Int).toNat).size) = False := eq_false (Nat.not_lt.2 c28)
           try have c28b3:(9223372036854775807 < ((a0.extract 0 ((ji3):Int).toNat) ++ (⟨#[10]⟩:ByteArray)).size+((ji6):Int).toNat) = False:=eq_false (by have h0_:=c28;have f0_:=of_eq_true c5b0;have f1_:=of_eq_true c8b0;simp only [ByteArray.size_append,ByteArray.size_extract] at h0_ ⊢;omega)
           replace H := Option.bind_eq_some_iff.mp H
           obtain ⟨⟨t158, t159, t160, t161, t164, t165⟩, A290, H⟩ := H
           replace H:((some (([]:List (S81)):List (S81))).bind fun y168 => (if y168.length+t142.length < 1172812402961 then ((some (y168 ++ t142:List (S81))).bind fun y171 => (if y171.length+t151.length < 1172812402961 then ((doorwardlaw15_alive.f).bind fun t177 => (if t177 = true then (if t164 = 0 then ((doorwardref15_Like.f kj11 t158 t159 t160 t161 t139 t140 t141 (y171 ++ t151)).bind fun t178 => (some t178)) else (some false)) else (some false))) else (none))) else (none))) = some r:=H
           have A29 := Aside0.mk A290
           clear A290
           obtain ⟨y168, hy168⟩ : ∃ y_ : List (S81), y_ = (([] : List (S81))) := ⟨_, rfl⟩
           replace H:(if y168.length+t142.length < 1172812402961 then ((some (y168 ++ t142:List (S81))).bind fun y171 => (if y171.length+t151.length < 1172812402961 then ((doorwardlaw15_alive.f).bind fun t177 => (if t177 = true then (if t164 = 0 then ((doorwardref15_Like.f kj11 t158 t159 t160 t161 t139 t140 t141 (y171 ++ t151)).bind fun t178 => (some t178)) else (some false)) else (some false))) else (none))) else (none)) = some r:=by first|(rw [hy168];with_reducible exact H)|(have H2_:=(Option.bind_some _ _).symm.trans H;rw [hy168];with_reducible exact H2_)|(have H2_:=(Option.bind_some _ _).symm.trans H;with_reducible exact H2_)|with_reducible exact H|(rw [hy168];exact H)|exact H
           have Ny168 := Aside0.mk hy168
           clear hy168
           by_cases c30 : y168.length + t142.length < 1172812402961
           ·rw [if_pos c30] at H
            have LMc30 := Aside0.mk c30
            clear c30
            obtain ⟨y171, hy171⟩ : ∃ y_ : List (S81), y_ = (y168 ++ t142) := ⟨_, rfl⟩
            replace H:(if y171.length+t151.length < 1172812402961 then ((doorwardlaw15_alive.f).bind fun t177 => (if t177 = true then (if t164 = 0 then ((doorwardref15_Like.f kj11 t158 t159 t160 t161 t139 t140 t141 (y171 ++ t151)).bind fun t178 => (some t178)) else (some false)) else (some false))) else (none)) = some r:=by first|(rw [hy171];with_reducible exact H)|(have H2_:=(Option.bind_some _ _).symm.trans H;rw [hy171];with_reducible exact H2_)|(have H2_:=(Option.bind_some _ _).symm.trans H;with_reducible exact H2_)|with_reducible exact H|(rw [hy171];exact H)|exact H
            have Ny171 := Aside0.mk hy171
            clear hy171
            by_cases c31 : y171.length + t151.length < 1172812402961
            ·rw [if_pos c31] at H
             have LMc31 := Aside0.mk c31
             clear c31
             obtain ⟨y174, hy174⟩ : ∃ y_ : List (S81), y_ = (y171 ++ t151) := ⟨_, rfl⟩
             replace H:((doorwardlaw15_alive.f).bind fun t177 => (if t177 = true then (if t164 = 0 then ((doorwardref15_Like.f kj11 t158 t159 t160 t161 t139 t140 t141 y174).bind fun t178 => (some t178)) else (some false)) else (some false))) = some r:=by first|(rw [hy174];with_reducible exact H)|(have H2_:=(Option.bind_some _ _).symm.trans H;rw [hy174];with_reducible exact H2_)|(have H2_:=(Option.bind_some _ _).symm.trans H;with_reducible exact H2_)|with_reducible exact H|(rw [hy174];exact H)|exact H
             have Ny174 := Aside0.mk hy174
             clear hy174
             replace H := Option.bind_eq_some_iff.mp H
             obtain ⟨t177, A320, H⟩ := H
             replace H:(if t177 = true then (if t164 = 0 then ((doorwardref15_Like.f kj11 t158 t159 t160 t161 t139 t140 t141 y174).bind fun t178 => (some t178)) else (some false)) else (some false)) = some r:=H
             have A32 := Aside0.mk A320
             clear A320
             by_cases c33 : t177 = true
             ·subst c33
              have H1 : (if t164 = 0 then ((doorwardref15_Like.f kj11 t158 t159 t160 t161 t139 t140 t141 y174).bind fun t178 => (some t178)) else (some false)) = some r := by rw [if_pos rfl] at H; exact H
              clear H
              have H := H1
              clear H1
              by_cases c34 : t164 = 0
              ·rw [if_pos c34] at H
               have c34b0 : (t164 == 0) = true := beq_iff_eq.mpr c34
               have c34b1 : (t164 != 0) = false := bne_eq_false_iff_eq.mpr c34
               clear c34
               replace H := Option.bind_eq_some_iff.mp H
               obtain ⟨t178, A350, H⟩ := H
               replace H : (some t178) = some r := H
               have A35 := Aside0.mk A350
               clear A350
               obtain rfl := Option.some.inj H
               try go_wp2_with (first|((with_reducible refine gate_callee (f:=22) rfl ?_);refine goesL_ (some 50) rfl rfl Tryd.func22 (by kernel_rfl) rfl #[.string (((a0.extract 0 ((ji3):Int).toNat) ++ (⟨#[10]⟩:ByteArray)) ++ (a1.extract 0 ((ji6):Int).toNat))] rfl (by (try simp only [List.map_toArray,List.map_cons,List.map_nil]);first|done|(simp only [hji3,hji6];rfl)|rfl|(simp only [List.length_drop,List.length_take];rfl)) ?_;(with_reducible refine (parse_Parse.calls (((a0.extract 0 ((ji3):Int).toNat) ++ (⟨#[10]⟩:ByteArray)) ++ (a1.extract 0 ((ji6):Int).toNat)) t158 t159 t160 t161 t164 t165 _ ?side1 A29.out).mono ?_);(case side1 => exact LaidAt.of HLD.out (by repeat (first|(with_reducible first|exact HB.out|apply below_alloc|apply pw_below_drewN|apply below_drew1|refine below_set ?_ GE147.out|refine below_set ?_ GE156.out)|exact HB.out)));rintro e w36 ⟨v162,rfl,ho0,hb⟩;refine ⟨_,rfl,?_⟩;have n0_:=Aside0.mk (Kd.N_elder' (by (with_reducible repeat first|apply Kd.N_alloc|apply Kd.N_drewN|apply Kd.N_drew);exact HO_148003.out) (by first|exact Kd.R_base ho0|exact Kd.N_base ho0) hb);have n1_:=Aside0.mk (Kd.N_elder' (by (with_reducible repeat first|apply Kd.N_alloc|apply Kd.N_drewN|apply Kd.N_drew);exact HO_157003.out) (by first|exact Kd.R_base ho0|exact Kd.N_base ho0) hb);have n2_:=Aside0.mk (Kd.N_lower (Kd.N_mono (ok':=fun k_ => some k_ ≠ (.slice Ao17 t142.length co17:Value).ownBlock ∧ some k_ ≠ (.slice Ao22 t151.length co22:Value).ownBlock ∧ k_ ≠ gb147 ∧ k_ ≠ gb156) (Kd.R_N (Kd.R_bound ho0)) (fun k_ hk_ => ⟨(Kd.fresh' (Kd.N_lt (by (with_reducible repeat first|apply Kd.N_alloc|apply Kd.N_drewN|apply Kd.N_drew);exact HO_148003.out)) k_ hk_.2.1),(Kd.fresh' (Kd.N_lt (by (with_reducible repeat first|apply Kd.N_alloc|apply Kd.N_drewN|apply Kd.N_drew);exact HO_157003.out)) k_ hk_.2.1),(Kd.freshB (g:=gb147) (o:=.cells #[.string t139,.string t140,.int .u64 t141,.slice Ao17 t142.length co17] 41 (0,0)) (by (with_reducible repeat first|apply zN|apply zD|apply zA);exact BK147.out) k_ hk_.2.1),(Kd.freshB (g:=gb156) (o:=.cells #[.string t148,.string t149,.int .u64 t150,.slice Ao22 t151.length co22] 41 (0,0)) (by (with_reducible repeat first|apply zN|apply zD|apply zA);exact BK156.out) k_ hk_.2.1)⟩)) (below_size (by repeat (first|(with_reducible first|exact HB.out|apply below_alloc|apply pw_below_drewN|apply below_drew1|refine below_set ?_ GE147.out|refine below_set ?_ GE156.out)|exact HB.out))));have n3_:=Aside0.mk (blk_below (g:=gb147) (o:=.cells #[.string t139,.string t140,.int .u64 t141,.slice Ao17 t142.length co17] 41 (0,0)) (by (with_reducible repeat first|apply zN|apply zD|apply zA);exact BK147.out) hb);have n4_:=Aside0.mk (blk_below (g:=gb156) (o:=.cells #[.string t148,.string t149,.int .u64 t150,.slice Ao22 t151.length co22] 41 (0,0)) (by (with_reducible repeat first|apply zN|apply zD|apply zA);exact BK156.out) hb);have n5_:=Aside0.mk (below_step (by repeat (first|(with_reducible first|exact HB.out|apply below_alloc|apply pw_below_drewN|apply below_drew1|refine below_set ?_ GE147.out|refine below_set ?_ GE156.out)|exact HB.out)) hb);clear HO_148003;clear HO_157003;clear BK147;clear BK156;clear HB;have HO_148003:=n0_;have HO_157003:=n1_;have HO163:=n2_;have BK147:=n3_;have BK156:=n4_;have HB:=n5_;clear n0_ n1_ n2_ n3_ n4_ n5_;(try clear hb);(try clear hb2);(try clear hk);(try clear hi);(try clear ho0))|((with_reducible refine gate_dst (N:=11) rfl ?_);refine box_event ?hg (N:=11) ?hd (cs:=#[.string ⟨#[]⟩,.string ⟨#[]⟩,.int .u64 0,.slice none 0 0]) (t:=41) ?hr ?_;(case hd => rfl);(case hg => rfl);(case hr => first|(go_simp;done)|(go_simp;rfl));intro gb166 hg w37 hbox hb;have n0_:=Aside0.mk (Kd.N_below (Kd.N_elderB (by (with_reducible repeat first|apply Kd.N_alloc|apply Kd.N_drewN|apply Kd.N_drew);exact HO_148003.out) gb166 (Nat.le_of_eq hg.symm)) hb);have n1_:=Aside0.mk (Kd.N_below (Kd.N_elderB (by (with_reducible repeat first|apply Kd.N_alloc|apply Kd.N_drewN|apply Kd.N_drew);exact HO_157003.out) gb166 (Nat.le_of_eq hg.symm)) hb);have n2_:=Aside0.mk (Kd.N_below (Kd.N_elderB (by (with_reducible repeat first|apply Kd.N_alloc|apply Kd.N_drewN|apply Kd.N_drew);exact HO163.out) gb166 (Nat.le_of_eq hg.symm)) hb);have n3_:=Aside0.mk (blk_below (g:=gb147) (o:=.cells #[.string t139,.string t140,.int .u64 t141,.slice Ao17 t142.length co17] 41 (0,0)) (by (with_reducible repeat first|apply zN|apply zD|apply zA);exact BK147.out) hb);have n4_:=Aside0.mk (blk_below (g:=gb156) (o:=.cells #[.string t148,.string t149,.int .u64 t150,.slice Ao22 t151.length co22] 41 (0,0)) (by (with_reducible repeat first|apply zN|apply zD|apply zA);exact BK156.out) hb);have n5_:=Aside0.mk (below_step (by repeat (first|(with_reducible first|exact HB.out|apply below_alloc|apply pw_below_drewN|apply below_drew1|refine below_set ?_ GE147.out|refine below_set ?_ GE156.out)|exact HB.out)) hb);have n6_:=Aside0.mk (hbox);have n7_:=Aside0.mk ((by rw [hg];exact (below_size (by repeat (first|(with_reducible first|exact HB.out|apply below_alloc|apply pw_below_drewN|apply below_drew1|refine below_set ?_ GE147.out|refine below_set ?_ GE156.out)|exact HB.out))):w.heap.size ≤ gb166));have n8_:=Aside0.mk ((by rw [hg];exact (below_size (by repeat (first|(with_reducible first|exact HB.out|apply below_alloc|apply pw_below_drewN|apply below_drew1|refine below_set ?_ GE147.out|refine below_set ?_ GE156.out)|exact HB.out))):w.heap.size ≤ gb166));have n9_:=Aside0.mk ((by rw [hg];exact Nat.ne_of_lt (blk_lt (g:=gb147) (o:=.cells #[.string t139,.string t140,.int .u64 t141,.slice Ao17 t142.length co17] 41 (0,0)) (by (with_reducible repeat first|apply zN|apply zD|apply zA);exact BK147.out)):gb147 ≠ gb166));have n10_:=Aside0.mk ((by rw [hg];exact Nat.ne_of_gt (blk_lt (g:=gb147) (o:=.cells #[.string t139,.string t140,.int .u64 t141,.slice Ao17 t142.length co17] 41 (0,0)) (by (with_reducible repeat first|apply zN|apply zD|apply zA);exact BK147.out)):gb166 ≠ gb147));have n11_:=Aside0.mk ((by rw [hg];exact Nat.ne_of_lt (blk_lt (g:=gb156) (o:=.cells #[.string t148,.string t149,.int .u64 t150,.slice Ao22 t151.length co22] 41 (0,0)) (by (with_reducible repeat first|apply zN|apply zD|apply zA);exact BK156.out)):gb156 ≠ gb166));have n12_:=Aside0.mk ((by rw [hg];exact Nat.ne_of_gt (blk_lt (g:=gb156) (o:=.cells #[.string t148,.string t149,.int .u64 t150,.slice Ao22 t151.length co22] 41 (0,0)) (by (with_reducible repeat first|apply zN|apply zD|apply zA);exact BK156.out)):gb166 ≠ gb156));clear HO_148003;clear HO_157003;clear HO163;clear BK147;clear BK156;clear HB;have HO_148003:=n0_;have HO_157003:=n1_;have HO163:=n2_;have BK147:=n3_;have BK156:=n4_;have HB:=n5_;have BK166:=n6_;have GW166:=n7_;have GE166:=n8_;have NB147_166:=n9_;have NB166_147:=n10_;have NB156_166:=n11_;have NB166_156:=n12_;clear n0_ n1_ n2_ n3_ n4_ n5_ n6_ n7_ n8_ n9_ n10_ n11_ n12_;clear hb hbox hg;have hnb38:=NB166_147.out;have hnc38:=NB147_166.out;have hnb39:=NB166_156.out;have hnc39:=NB156_166.out;have hcz40_0:w37.cell? ⟨gb166,0,none⟩ = some (.string ⟨#[]⟩):=(blk_cell BK166.out 0).trans rfl;have hcz40_1:w37.cell? ⟨gb166,1,none⟩ = some (.string ⟨#[]⟩):=(blk_cell BK166.out 1).trans rfl;have hcz40_2:w37.cell? ⟨gb166,2,none⟩ = some (.int .u64 0):=(blk_cell BK166.out 2).trans rfl;have hcz40_3:w37.cell? ⟨gb166,3,none⟩ = some (.slice none 0 0):=(blk_cell BK166.out 3).trans rfl;have hfz40_0:=blk_frozen BK166.out 0;have hfz40_1:=blk_frozen BK166.out 1;have hfz40_2:=blk_frozen BK166.out 2;have hfz40_3:=blk_frozen BK166.out 3;obtain ⟨Ao41,co41,eo41⟩:=Kd.N_slice HO163.out;subst eo41;have hnb42:=NB147_156.out;have hnc42:=NB156_147.out;have hcz43_0:w37.cell? ⟨gb147,0,none⟩ = some (.string t139):=(blk_cell BK147.out 0).trans rfl;have hcz43_1:w37.cell? ⟨gb147,1,none⟩ = some (.string t140):=(blk_cell BK147.out 1).trans rfl;have hcz43_2:w37.cell? ⟨gb147,2,none⟩ = some (.int .u64 t141):=(blk_cell BK147.out 2).trans rfl;have hcz43_3:w37.cell? ⟨gb147,3,none⟩ = some (.slice Ao17 t142.length co17):=(blk_cell BK147.out 3).trans rfl;have hfz43_0:=blk_frozen BK147.out 0;have hfz43_1:=blk_frozen BK147.out 1;have hfz43_2:=blk_frozen BK147.out 2;have hfz43_3:=blk_frozen BK147.out 3)|((with_reducible refine gate_dst (N:=14) rfl ?_);refine box_event ?hg (N:=14) ?hd (cs:=#[.string ⟨#[]⟩,.string ⟨#[]⟩,.int .u64 0,.slice none 0 0]) (t:=41) ?hr ?_;(case hd => rfl);(case hg => rfl);(case hr => first|(go_simp;done)|(go_simp;rfl));intro gb167 hg w44 hbox hb;have n0_:=Aside0.mk (Kd.N_below (Kd.N_elderB (by (with_reducible repeat first|apply Kd.N_alloc|apply Kd.N_drewN|apply Kd.N_drew);exact (Kd.N_mono (Kd.N_far (p:=⟨gb166,3,none⟩) (Kd.N_far (p:=⟨gb166,2,none⟩) (Kd.N_far (p:=⟨gb166,1,none⟩) (Kd.N_far (p:=⟨gb166,0,none⟩) (Kd.N_mono HO_148003.out (fun k_ hk => (⟨hk,hk.2⟩:_ ∧ k_ ≠ gb166))) (fun _ hk => hk.2) (.string t158)) (fun _ hk => hk.2) (.string t159)) (fun _ hk => hk.2) (.int .u64 t160)) (fun _ hk => hk.2) (.slice Ao41 t161.length co41)) (fun _ h_ => h_.1))) gb167 (Nat.le_of_eq hg.symm)) hb);have n1_:=Aside0.mk (Kd.N_below (Kd.N_elderB (by (with_reducible repeat first|apply Kd.N_alloc|apply Kd.N_drewN|apply Kd.N_drew);exact (Kd.N_mono (Kd.N_far (p:=⟨gb166,3,none⟩) (Kd.N_far (p:=⟨gb166,2,none⟩) (Kd.N_far (p:=⟨gb166,1,none⟩) (Kd.N_far (p:=⟨gb166,0,none⟩) (Kd.N_mono HO_157003.out (fun k_ hk => (⟨hk,hk.2⟩:_ ∧ k_ ≠ gb166))) (fun _ hk => hk.2) (.string t158)) (fun _ hk => hk.2) (.string t159)) (fun _ hk => hk.2) (.int .u64 t160)) (fun _ hk => hk.2) (.slice Ao41 t161.length co41)) (fun _ h_ => h_.1))) gb167 (Nat.le_of_eq hg.symm)) hb);have n2_:=Aside0.mk (Kd.N_below (Kd.N_elderB (by (with_reducible repeat first|apply Kd.N_alloc|apply Kd.N_drewN|apply Kd.N_drew);exact (Kd.N_mono (Kd.N_far (p:=⟨gb166,3,none⟩) (Kd.N_far (p:=⟨gb166,2,none⟩) (Kd.N_far (p:=⟨gb166,1,none⟩) (Kd.N_far (p:=⟨gb166,0,none⟩) (Kd.N_mono HO163.out (fun k_ hk => (⟨hk,hk.2⟩:_ ∧ k_ ≠ gb166))) (fun _ hk => hk.2) (.string t158)) (fun _ hk => hk.2) (.string t159)) (fun _ hk => hk.2) (.int .u64 t160)) (fun _ hk => hk.2) (.slice Ao41 t161.length co41)) (fun _ h_ => h_.1))) gb167 (Nat.le_of_eq hg.symm)) hb);have n3_:=Aside0.mk (blk_below (g:=gb147) (o:=.cells #[.string t139,.string t140,.int .u64 t141,.slice Ao17 t142.length co17] 41 (0,0)) (by (with_reducible repeat first|apply zN|apply zD|apply zA);refine blk_far ?_ NB147_166.out _;refine blk_far ?_ NB147_166.out _;refine blk_far ?_ NB147_166.out _;refine blk_far ?_ NB147_166.out _;(with_reducible repeat first|apply zN|apply zD|apply zA);exact BK147.out) hb);have n4_:=Aside0.mk (blk_below (g:=gb156) (o:=.cells #[.string t148,.string t149,.int .u64 t150,.slice Ao22 t151.length co22] 41 (0,0)) (by (with_reducible repeat first|apply zN|apply zD|apply zA);refine blk_far ?_ NB156_166.out _;refine blk_far ?_ NB156_166.out _;refine blk_far ?_ NB156_166.out _;refine blk_far ?_ NB156_166.out _;(with_reducible repeat first|apply zN|apply zD|apply zA);exact BK156.out) hb);have n5_:=Aside0.mk (blk_below (g:=gb166) (o:=.cells #[.string t158,.string t159,.int .u64 t160,.slice Ao41 t161.length co41] 41 (0,0)) (by (with_reducible repeat first|apply zN|apply zD|apply zA);refine blk_put (cs:=#[.string t158,.string t159,.int .u64 t160,.slice none 0 0]) ?_ 3 _ rfl;refine blk_put (cs:=#[.string t158,.string t159,.int .u64 0,.slice none 0 0]) ?_ 2 _ rfl;refine blk_put (cs:=#[.string t158,.string ⟨#[]⟩,.int .u64 0,.slice none 0 0]) ?_ 1 _ rfl;refine blk_put (cs:=#[.string ⟨#[]⟩,.string ⟨#[]⟩,.int .u64 0,.slice none 0 0]) ?_ 0 _ rfl;(with_reducible repeat first|apply zN|apply zD|apply zA);exact BK166.out) hb);have n6_:=Aside0.mk (below_step (by repeat (first|(with_reducible first|exact HB.out|apply below_alloc|apply pw_below_drewN|apply below_drew1|refine below_set ?_ GE147.out|refine below_set ?_ GE156.out|refine below_set ?_ GE166.out)|exact HB.out)) hb);have n7_:=Aside0.mk (hbox);have n8_:=Aside0.mk ((by rw [hg];exact (below_size (by repeat (first|(with_reducible first|exact HB.out|apply below_alloc|apply pw_below_drewN|apply below_drew1|refine below_set ?_ GE147.out|refine below_set ?_ GE156.out|refine below_set ?_ GE166.out)|exact HB.out))):w.heap.size ≤ gb167));have n9_:=Aside0.mk ((by rw [hg];exact (below_size (by repeat (first|(with_reducible first|exact HB.out|apply below_alloc|apply pw_below_drewN|apply below_drew1|refine below_set ?_ GE147.out|refine below_set ?_ GE156.out|refine below_set ?_ GE166.out)|exact HB.out))):w.heap.size ≤ gb167));have n10_:=Aside0.mk ((by rw [hg];exact Nat.ne_of_lt (blk_lt (g:=gb147) (o:=.cells #[.string t139,.string t140,.int .u64 t141,.slice Ao17 t142.length co17] 41 (0,0)) (by (with_reducible repeat first|apply zN|apply zD|apply zA);refine blk_far ?_ NB147_166.out _;refine blk_far ?_ NB147_166.out _;refine blk_far ?_ NB147_166.out _;refine blk_far ?_ NB147_166.out _;(with_reducible repeat first|apply zN|apply zD|apply zA);exact BK147.out)):gb147 ≠ gb167));have n11_:=Aside0.mk ((by rw [hg];exact Nat.ne_of_gt (blk_lt (g:=gb147) (o:=.cells #[.string t139,.string t140,.int .u64 t141,.slice Ao17 t142.length co17] 41 (0,0)) (by (with_reducible repeat first|apply zN|apply zD|apply zA);refine blk_far ?_ NB147_166.out _;refine blk_far ?_ NB147_166.out _;refine blk_far ?_ NB147_166.out _;refine blk_far ?_ NB147_166.out _;(with_reducible repeat first|apply zN|apply zD|apply zA);exact BK147.out)):gb167 ≠ gb147));have n12_:=Aside0.mk ((by rw [hg];exact Nat.ne_of_lt (blk_lt (g:=gb156) (o:=.cells #[.string t148,.string t149,.int .u64 t150,.slice Ao22 t151.length co22] 41 (0,0)) (by (with_reducible repeat first|apply zN|apply zD|apply zA);refine blk_far ?_ NB156_166.out _;refine blk_far ?_ NB156_166.out _;refine blk_far ?_ NB156_166.out _;refine blk_far ?_ NB156_166.out _;(with_reducible repeat first|apply zN|apply zD|apply zA);exact BK156.out)):gb156 ≠ gb167));have n13_:=Aside0.mk ((by rw [hg];exact Nat.ne_of_gt (blk_lt (g:=gb156) (o:=.cells #[.string t148,.string t149,.int .u64 t150,.slice Ao22 t151.length co22] 41 (0,0)) (by (with_reducible repeat first|apply zN|apply zD|apply zA);refine blk_far ?_ NB156_166.out _;refine blk_far ?_ NB156_166.out _;refine blk_far ?_ NB156_166.out _;refine blk_far ?_ NB156_166.out _;(with_reducible repeat first|apply zN|apply zD|apply zA);exact BK156.out)):gb167 ≠ gb156));have n14_:=Aside0.mk ((by rw [hg];exact Nat.ne_of_lt (blk_lt (g:=gb166) (o:=.cells #[.string t158,.string t159,.int .u64 t160,.slice Ao41 t161.length co41] 41 (0,0)) (by (with_reducible repeat first|apply zN|apply zD|apply zA);refine blk_put (cs:=#[.string t158,.string t159,.int .u64 t160,.slice none 0 0]) ?_ 3 _ rfl;refine blk_put (cs:=#[.string t158,.string t159,.int .u64 0,.slice none 0 0]) ?_ 2 _ rfl;refine blk_put (cs:=#[.string t158,.string ⟨#[]⟩,.int .u64 0,.slice none 0 0]) ?_ 1 _ rfl;refine blk_put (cs:=#[.string ⟨#[]⟩,.string ⟨#[]⟩,.int .u64 0,.slice none 0 0]) ?_ 0 _ rfl;(with_reducible repeat first|apply zN|apply zD|apply zA);exact BK166.out)):gb166 ≠ gb167));have n15_:=Aside0.mk ((by rw [hg];exact Nat.ne_of_gt (blk_lt (g:=gb166) (o:=.cells #[.string t158,.string t159,.int .u64 t160,.slice Ao41 t161.length co41] 41 (0,0)) (by (with_reducible repeat first|apply zN|apply zD|apply zA);refine blk_put (cs:=#[.string t158,.string t159,.int .u64 t160,.slice none 0 0]) ?_ 3 _ rfl;refine blk_put (cs:=#[.string t158,.string t159,.int .u64 0,.slice none 0 0]) ?_ 2 _ rfl;refine blk_put (cs:=#[.string t158,.string ⟨#[]⟩,.int .u64 0,.slice none 0 0]) ?_ 1 _ rfl;refine blk_put (cs:=#[.string ⟨#[]⟩,.string ⟨#[]⟩,.int .u64 0,.slice none 0 0]) ?_ 0 _ rfl;(with_reducible repeat first|apply zN|apply zD|apply zA);exact BK166.out)):gb167 ≠ gb166));clear HO_148003;clear HO_157003;clear HO163;clear BK147;clear BK156;clear BK166;clear HB;have HO_148003:=n0_;have HO_157003:=n1_;have HO163:=n2_;have BK147:=n3_;have BK156:=n4_;have BK166:=n5_;have HB:=n6_;have BK167:=n7_;have GW167:=n8_;have GE167:=n9_;have NB147_167:=n10_;have NB167_147:=n11_;have NB156_167:=n12_;have NB167_156:=n13_;have NB166_167:=n14_;have NB167_166:=n15_;clear n0_ n1_ n2_ n3_ n4_ n5_ n6_ n7_ n8_ n9_ n10_ n11_ n12_ n13_ n14_ n15_;clear hb hbox hg;have hnb45:=NB167_147.out;have hnc45:=NB147_167.out;have hnb46:=NB167_156.out;have hnc46:=NB156_167.out;have hnb47:=NB167_166.out;have hnc47:=NB166_167.out;have hcz48_0:w44.cell? ⟨gb167,0,none⟩ = some (.string ⟨#[]⟩):=(blk_cell BK167.out 0).trans rfl;have hcz48_1:w44.cell? ⟨gb167,1,none⟩ = some (.string ⟨#[]⟩):=(blk_cell BK167.out 1).trans rfl;have hcz48_2:w44.cell? ⟨gb167,2,none⟩ = some (.int .u64 0):=(blk_cell BK167.out 2).trans rfl;have hcz48_3:w44.cell? ⟨gb167,3,none⟩ = some (.slice none 0 0):=(blk_cell BK167.out 3).trans rfl;have hfz48_0:=blk_frozen BK167.out 0;have hfz48_1:=blk_frozen BK167.out 1;have hfz48_2:=blk_frozen BK167.out 2;have hfz48_3:=blk_frozen BK167.out 3))
               have n0_:Aside0 (Kd.N k81 81 ((((w44.setCell ⟨gb167,0,none⟩ (.string t139)).setCell ⟨gb167,1,none⟩ (.string t140)).setCell ⟨gb167,2,none⟩ (.int .u64 t141)).setCell ⟨gb167,3,none⟩ (.slice Ao17 t142.length co17)) w.heap.size (fun k_ => some k_ ≠ (.slice Ao22 t151.length co22:Value).ownBlock ∧ some k_ ≠ (.slice Ao41 t161.length co41:Value).ownBlock ∧ k_ ≠ gb147 ∧ k_ ≠ gb156 ∧ k_ ≠ gb166 ∧ k_ ≠ gb167) (.slice Ao17 t142.length co17) t142):=⟨by (with_reducible repeat first|apply Kd.N_alloc|apply Kd.N_drewN|apply Kd.N_drew);exact Kd.N_mono (Kd.N_far (p:=⟨gb167,3,none⟩) (Kd.N_far (p:=⟨gb167,2,none⟩) (Kd.N_far (p:=⟨gb167,1,none⟩) (Kd.N_far (p:=⟨gb167,0,none⟩) (Kd.N_mono HO_148003.out (fun k_ hk => (⟨hk,hk.2⟩:_ ∧ k_ ≠ gb167))) (fun _ hk => hk.2) (.string t139)) (fun _ hk => hk.2) (.string t140)) (fun _ hk => hk.2) (.int .u64 t141)) (fun _ hk => hk.2) (.slice Ao17 t142.length co17)) (fun _ hk => ⟨hk.1.1.1.1.1,⟨hk.1.1.1.2,⟨hk.1.1.1.1.2.1,⟨hk.1.1.1.1.2.2,⟨hk.1.1.2,hk.1.2⟩⟩⟩⟩⟩)⟩
               have n1_:Aside0 (Kd.N k81 81 ((((w44.setCell ⟨gb167,0,none⟩ (.string t139)).setCell ⟨gb167,1,none⟩ (.string t140)).setCell ⟨gb167,2,none⟩ (.int .u64 t141)).setCell ⟨gb167,3,none⟩ (.slice Ao17 t142.length co17)) w.heap.size (fun k_ => some k_ ≠ (.slice Ao17 t142.length co17:Value).ownBlock ∧ some k_ ≠ (.slice Ao41 t161.length co41:Value).ownBlock ∧ k_ ≠ gb147 ∧ k_ ≠ gb156 ∧ k_ ≠ gb166 ∧ k_ ≠ gb167) (.slice Ao22 t151.length co22) t151):=⟨by (with_reducible repeat first|apply Kd.N_alloc|apply Kd.N_drewN|apply Kd.N_drew);exact Kd.N_mono (Kd.N_far (p:=⟨gb167,3,none⟩) (Kd.N_far (p:=⟨gb167,2,none⟩) (Kd.N_far (p:=⟨gb167,1,none⟩) (Kd.N_far (p:=⟨gb167,0,none⟩) (Kd.N_mono HO_157003.out (fun k_ hk => (⟨hk,hk.2⟩:_ ∧ k_ ≠ gb167))) (fun _ hk => hk.2) (.string t139)) (fun _ hk => hk.2) (.string t140)) (fun _ hk => hk.2) (.int .u64 t141)) (fun _ hk => hk.2) (.slice Ao17 t142.length co17)) (fun _ hk => ⟨hk.1.1.1.1.1,⟨hk.1.1.1.2,⟨hk.1.1.1.1.2.1,⟨hk.1.1.1.1.2.2,⟨hk.1.1.2,hk.1.2⟩⟩⟩⟩⟩)⟩
               have n2_:Aside0 (Kd.N k81 81 ((((w44.setCell ⟨gb167,0,none⟩ (.string t139)).setCell ⟨gb167,1,none⟩ (.string t140)).setCell ⟨gb167,2,none⟩ (.int .u64 t141)).setCell ⟨gb167,3,none⟩ (.slice Ao17 t142.length co17)) w.heap.size (fun k_ => some k_ ≠ (.slice Ao17 t142.length co17:Value).ownBlock ∧ some k_ ≠ (.slice Ao22 t151.length co22:Value).ownBlock ∧ k_ ≠ gb147 ∧ k_ ≠ gb156 ∧ k_ ≠ gb166 ∧ k_ ≠ gb167) (.slice Ao41 t161.length co41) t161):=⟨by (with_reducible repeat first|apply Kd.N_alloc|apply Kd.N_drewN|apply Kd.N_drew);exact Kd.N_mono (Kd.N_far (p:=⟨gb167,3,none⟩) (Kd.N_far (p:=⟨gb167,2,none⟩) (Kd.N_far (p:=⟨gb167,1,none⟩) (Kd.N_far (p:=⟨gb167,0,none⟩) (Kd.N_mono HO163.out (fun k_ hk => (⟨hk,hk.2⟩:_ ∧ k_ ≠ gb167))) (fun _ hk => hk.2) (.string t139)) (fun _ hk => hk.2) (.string t140)) (fun _ hk => hk.2) (.int .u64 t141)) (fun _ hk => hk.2) (.slice Ao17 t142.length co17)) (fun _ hk => ⟨hk.1.1.1.1,⟨hk.1.1.1.2.1,⟨hk.1.1.1.2.2.1,⟨hk.1.1.1.2.2.2,⟨hk.1.1.2,hk.1.2⟩⟩⟩⟩⟩)⟩
               have n3_:Aside0 (((((w44.setCell ⟨gb167,0,none⟩ (.string t139)).setCell ⟨gb167,1,none⟩ (.string t140)).setCell ⟨gb167,2,none⟩ (.int .u64 t141)).setCell ⟨gb167,3,none⟩ (.slice Ao17 t142.length co17)).heap[gb147]? = some (.cells #[.string t139,.string t140,.int .u64 t141,.slice Ao17 t142.length co17] 41 (0,0))):=⟨by (with_reducible repeat first|apply zN|apply zD|apply zA);refine blk_far ?_ NB147_167.out _;refine blk_far ?_ NB147_167.out _;refine blk_far ?_ NB147_167.out _;refine blk_far ?_ NB147_167.out _;(with_reducible repeat first|apply zN|apply zD|apply zA);exact BK147.out⟩
               have n4_:Aside0 (((((w44.setCell ⟨gb167,0,none⟩ (.string t139)).setCell ⟨gb167,1,none⟩ (.string t140)).setCell ⟨gb167,2,none⟩ (.int .u64 t141)).setCell ⟨gb167,3,none⟩ (.slice Ao17 t142.length co17)).heap[gb156]? = some (.cells #[.string t148,.string t149,.int .u64 t150,.slice Ao22 t151.length co22] 41 (0,0))):=⟨by (with_reducible repeat first|apply zN|apply zD|apply zA);refine blk_far ?_ NB156_167.out _;refine blk_far ?_ NB156_167.out _;refine blk_far ?_ NB156_167.out _;refine blk_far ?_ NB156_167.out _;(with_reducible repeat first|apply zN|apply zD|apply zA);exact BK156.out⟩
               have n5_:Aside0 (((((w44.setCell ⟨gb167,0,none⟩ (.string t139)).setCell ⟨gb167,1,none⟩ (.string t140)).setCell ⟨gb167,2,none⟩ (.int .u64 t141)).setCell ⟨gb167,3,none⟩ (.slice Ao17 t142.length co17)).heap[gb166]? = some (.cells #[.string t158,.string t159,.int .u64 t160,.slice Ao41 t161.length co41] 41 (0,0))):=⟨by (with_reducible repeat first|apply zN|apply zD|apply zA);refine blk_far ?_ NB166_167.out _;refine blk_far ?_ NB166_167.out _;refine blk_far ?_ NB166_167.out _;refine blk_far ?_ NB166_167.out _;(with_reducible repeat first|apply zN|apply zD|apply zA);exact BK166.out⟩
               have n6_:Aside0 (((((w44.setCell ⟨gb167,0,none⟩ (.string t139)).setCell ⟨gb167,1,none⟩ (.string t140)).setCell ⟨gb167,2,none⟩ (.int .u64 t141)).setCell ⟨gb167,3,none⟩ (.slice Ao17 t142.length co17)).heap[gb167]? = some (.cells #[.string t139,.string t140,.int .u64 t141,.slice Ao17 t142.length co17] 41 (0,0))):=⟨by (with_reducible repeat first|apply zN|apply zD|apply zA);refine blk_put (cs:=#[.string t139,.string t140,.int .u64 t141,.slice none 0 0]) ?_ 3 _ rfl;refine blk_put (cs:=#[.string t139,.string t140,.int .u64 0,.slice none 0 0]) ?_ 2 _ rfl;refine blk_put (cs:=#[.string t139,.string ⟨#[]⟩,.int .u64 0,.slice none 0 0]) ?_ 1 _ rfl;refine blk_put (cs:=#[.string ⟨#[]⟩,.string ⟨#[]⟩,.int .u64 0,.slice none 0 0]) ?_ 0 _ rfl;(with_reducible repeat first|apply zN|apply zD|apply zA);exact BK167.out⟩
               have n7_:Aside0 (Below w.heap.size w ((((w44.setCell ⟨gb167,0,none⟩ (.string t139)).setCell ⟨gb167,1,none⟩ (.string t140)).setCell ⟨gb167,2,none⟩ (.int .u64 t141)).setCell ⟨gb167,3,none⟩ (.slice Ao17 t142.length co17))):=⟨by repeat (first|(with_reducible first|exact HB.out|apply below_alloc|apply pw_below_drewN|apply below_drew1|refine below_set ?_ GE147.out|refine below_set ?_ GE156.out|refine below_set ?_ GE166.out|refine below_set ?_ GE167.out)|exact HB.out)⟩
               (try clear HO_148003)
               (try clear HO_157003)
               (try clear HO163)
               (try clear BK147)
               (try clear BK156)
               (try clear BK166)
               (try clear BK167)
               (try clear HB)
               generalize ((((w44.setCell ⟨gb167,0,none⟩ (.string t139)).setCell ⟨gb167,1,none⟩ (.string t140)).setCell ⟨gb167,2,none⟩ (.int .u64 t141)).setCell ⟨gb167,3,none⟩ (.slice Ao17 t142.length co17)) = w49 at n0_ n1_ n2_ n3_ n4_ n5_ n6_ n7_ ⊢
               have HO_148003 := n0_
               have HO_157003 := n1_
               have HO163 := n2_
               have BK147 := n3_
               have BK156 := n4_
               have BK166 := n5_
               have BK167 := n6_
               have HB := n7_
               clear n0_ n1_ n2_ n3_ n4_ n5_ n6_ n7_
               have n0_ := Aside0.mk (Kd.N_drew HO_148003.out)
               have n1_ := Aside0.mk (Kd.N_drew HO_157003.out)
               have n2_ := Aside0.mk (Kd.N_drew HO163.out)
               have n3_ := Aside0.mk (blk_drew BK147.out)
               have n4_ := Aside0.mk (blk_drew BK156.out)
               have n5_ := Aside0.mk (blk_drew BK166.out)
               have n6_ := Aside0.mk (blk_drew BK167.out)
               have n7_ := Aside0.mk (below_drew1 HB.out)
               clear HO_148003
               clear HO_157003
               clear HO163
               clear BK147
               clear BK156
               clear BK166
               clear BK167
               clear HB
               have HO_148003 := n0_
               have HO_157003 := n1_
               have HO163 := n2_
               have BK147 := n3_
               have BK156 := n4_
               have BK166 := n5_
               have BK167 := n6_
               have HB := n7_
               clear n0_ n1_ n2_ n3_ n4_ n5_ n6_ n7_
               refine start_ (n:=9) (S:=fun w' => w'.cell? ⟨gb147,0,none⟩ = some (.string t139) ∧ w'.cell? ⟨gb147,1,none⟩ = some (.string t140) ∧ w'.cell? ⟨gb147,2,none⟩ = some (.int .u64 t141) ∧ w'.cell? ⟨gb147,3,none⟩ = some (.slice Ao17 t142.length co17) ∧ w'.cell? ⟨gb156,0,none⟩ = some (.string t148) ∧ w'.cell? ⟨gb156,1,none⟩ = some (.string t149) ∧ w'.cell? ⟨gb156,2,none⟩ = some (.int .u64 t150) ∧ w'.cell? ⟨gb156,3,none⟩ = some (.slice Ao22 t151.length co22)) (ds:=[]) #[false,false,false,false,false,false,false,false,false] (by kernel_rfl) rfl rfl ⟨(blk_cell BK147.out 0).trans rfl,(blk_cell BK147.out 1).trans rfl,(blk_cell BK147.out 2).trans rfl,(blk_cell BK147.out 3).trans rfl,(blk_cell BK156.out 0).trans rfl,(blk_cell BK156.out 1).trans rfl,(blk_cell BK156.out 2).trans rfl,(blk_cell BK156.out 3).trans rfl⟩ (fun hHeld => ?_);refine with_tabW doorwardlaw15_ParseRules.tab8 doorwardlaw15_ParseRules.bits8 (fun HT_ HW_ => ?_)
               generalize w49.drew = w50 at HO_148003 HO_157003 HO163 BK147 BK156 BK166 BK167 HB hHeld ⊢
               refine pure_ (i:=1) (N:=some 56) (v:=?_) (a':=?_) #[false,true,false,false,false,false,false,false,false] rfl rfl (any_of HT_.out (by kernel_rfl)) (fun _ _ _ h => h) (Or.inl ⟨by rfl,?_⟩) ?_ ?_
               rotate_left
               ·intro w'
                go_simp
                with_reducible rfl
               rotate_left
               ·simp only [Act.put, List.setIfInBounds_toArray, List.set_cons_zero, List.set_cons_succ, i64_w, i32_w]
                rfl
               refine pure_ (i:=4) (N:=some 59) (v:=?_) (a':=?_) #[false,true,false,false,true,false,false,false,false] rfl rfl (any_of HT_.out (by kernel_rfl)) (fun _ _ _ h => h) (Or.inl ⟨by rfl,?_⟩) ?_ ?_
               rotate_left
               ·intro w'
                go_simp
                with_reducible rfl
               rotate_left
               ·simp only [Act.put, List.setIfInBounds_toArray, List.set_cons_zero, List.set_cons_succ, i64_w, i32_w]
                rfl
               refine take_ (i:=2) (N:=some 57) (v:=?_) (a':=?_) #[false,true,true,false,true,false,false,false,false] rfl rfl (take_ofW HT_.out HW_.out (by kernel_rfl)) (fun _ _ _ h => h) (Or.inl ⟨by rfl,?_⟩) hHeld ?_ ?_
               rotate_left
               ·rintro w' ⟨s0, s1, s2, s3, s4, s5, s6, s7⟩
                go_simp
                with_reducible rfl
               rotate_left
               ·simp only [Act.put, List.setIfInBounds_toArray, List.set_cons_zero, List.set_cons_succ, i64_w, i32_w]
                rfl
               refine take_ (i:=5) (N:=some 60) (v:=?_) (a':=?_) #[false,true,true,false,true,true,false,false,false] rfl rfl (take_ofW HT_.out HW_.out (by kernel_rfl)) (fun _ _ _ h => h) (Or.inl ⟨by rfl,?_⟩) hHeld ?_ ?_
               rotate_left
               ·rintro w' ⟨s0, s1, s2, s3, s4, s5, s6, s7⟩
                go_simp
                with_reducible rfl
               rotate_left
               ·simp only [Act.put, List.setIfInBounds_toArray, List.set_cons_zero, List.set_cons_succ, i64_w, i32_w]
                rfl
               refine one_ (i := 0) (N := some 55) #[true, true, true, false, true, true, false, false, false] rfl rfl (one_of HT_.out (by kernel_rfl)) (by decide) (fun K hK => ?_)
               refine Kd.N_lit_step k81 _ 81 ?hg (N':=55) ?hd (xs:=([]:List (S81))) (inner:=[]) (ok:=(fun k_ => some k_ ≠ (.slice Ao17 t142.length co17:Value).ownBlock ∧ some k_ ≠ (.slice Ao22 t151.length co22:Value).ownBlock ∧ some k_ ≠ (.slice Ao41 t161.length co41:Value).ownBlock ∧ k_ ≠ gb147 ∧ k_ ≠ gb156 ∧ k_ ≠ gb166 ∧ k_ ≠ gb167)) (okp:=(fun k_ => some k_ ≠ (.slice Ao17 t142.length co17:Value).ownBlock ∧ some k_ ≠ (.slice Ao22 t151.length co22:Value).ownBlock ∧ some k_ ≠ (.slice Ao41 t161.length co41:Value).ownBlock ∧ k_ ≠ gb147 ∧ k_ ≠ gb156 ∧ k_ ≠ gb166 ∧ k_ ≠ gb167)) ?hr ?hp (fun _ hk => hk) ((show ∀ k_,w50.heap.size ≤ k_ → (fun k_ => some k_ ≠ (.slice Ao17 t142.length co17:Value).ownBlock ∧ some k_ ≠ (.slice Ao22 t151.length co22:Value).ownBlock ∧ some k_ ≠ (.slice Ao41 t161.length co41:Value).ownBlock ∧ k_ ≠ gb147 ∧ k_ ≠ gb156 ∧ k_ ≠ gb166 ∧ k_ ≠ gb167) k_ from fun k_ hk => ⟨Kd.fresh' (Kd.N_lt (by (with_reducible repeat first|apply Kd.N_alloc|apply Kd.N_drewN|apply Kd.N_drew);exact HO_148003.out)) k_ hk,Kd.fresh' (Kd.N_lt (by (with_reducible repeat first|apply Kd.N_alloc|apply Kd.N_drewN|apply Kd.N_drew);exact HO_157003.out)) k_ hk,Kd.fresh' (Kd.N_lt (by (with_reducible repeat first|apply Kd.N_alloc|apply Kd.N_drewN|apply Kd.N_drew);exact HO163.out)) k_ hk,Kd.freshB (g:=gb147) (o:=.cells #[.string t139,.string t140,.int .u64 t141,.slice Ao17 t142.length co17] 41 (0,0)) (by (with_reducible repeat first|apply zN|apply zD|apply zA);exact BK147.out) k_ hk,Kd.freshB (g:=gb156) (o:=.cells #[.string t148,.string t149,.int .u64 t150,.slice Ao22 t151.length co22] 41 (0,0)) (by (with_reducible repeat first|apply zN|apply zD|apply zA);exact BK156.out) k_ hk,Kd.freshB (g:=gb166) (o:=.cells #[.string t158,.string t159,.int .u64 t160,.slice Ao41 t161.length co41] 41 (0,0)) (by (with_reducible repeat first|apply zN|apply zD|apply zA);exact BK166.out) k_ hk,Kd.freshB (g:=gb167) (o:=.cells #[.string t139,.string t140,.int .u64 t141,.slice Ao17 t142.length co17] 41 (0,0)) (by (with_reducible repeat first|apply zN|apply zD|apply zA);exact BK167.out) k_ hk⟩) _ (Nat.le_refl _)) (Below.refl _ _) (Nat.le_refl _) (by simp) ?_;(case hd => rfl);(case hg => rfl);(case hr => first|(go_simp;done)|(go_simp;rfl));(case hp => exact (Reps.none _ _))
               intro v169 w51 ho52 hb hg_ hnew_
               clear hg_ hnew_
               (first | rw [← Ny168.out] at ho52 | (simp only [Int.reduceToNat] at ho52; rw [← Ny168.out] at ho52))
               have n0_ := Aside0.mk (Kd.N_elder' (by (with_reducible repeat (first | apply Kd.N_alloc | apply Kd.N_drewN | apply Kd.N_drew)); exact HO_148003.out) (by first|exact Kd.R_base ho52|exact Kd.N_base ho52) hb)
               have n1_ := Aside0.mk (Kd.N_elder' (by (with_reducible repeat (first | apply Kd.N_alloc | apply Kd.N_drewN | apply Kd.N_drew)); exact HO_157003.out) (by first|exact Kd.R_base ho52|exact Kd.N_base ho52) hb)
               have n2_ := Aside0.mk (Kd.N_elder' (by (with_reducible repeat (first | apply Kd.N_alloc | apply Kd.N_drewN | apply Kd.N_drew)); exact HO163.out) (by first|exact Kd.R_base ho52|exact Kd.N_base ho52) hb)
               have n3_:=Aside0.mk (Kd.N_lower ho52 (below_size (by repeat (first|(with_reducible first|exact HB.out|apply below_alloc|apply pw_below_drewN|apply below_drew1|refine below_set ?_ GE147.out|refine below_set ?_ GE156.out|refine below_set ?_ GE166.out|refine below_set ?_ GE167.out)|exact HB.out))))
               have n4_:=Aside0.mk (blk_below (g:=gb147) (o:=.cells #[.string t139,.string t140,.int .u64 t141,.slice Ao17 t142.length co17] 41 (0,0)) (by (with_reducible repeat first|apply zN|apply zD|apply zA);exact BK147.out) hb)
               have n5_:=Aside0.mk (blk_below (g:=gb156) (o:=.cells #[.string t148,.string t149,.int .u64 t150,.slice Ao22 t151.length co22] 41 (0,0)) (by (with_reducible repeat first|apply zN|apply zD|apply zA);exact BK156.out) hb)
               have n6_:=Aside0.mk (blk_below (g:=gb166) (o:=.cells #[.string t158,.string t159,.int .u64 t160,.slice Ao41 t161.length co41] 41 (0,0)) (by (with_reducible repeat first|apply zN|apply zD|apply zA);exact BK166.out) hb)
               have n7_:=Aside0.mk (blk_below (g:=gb167) (o:=.cells #[.string t139,.string t140,.int .u64 t141,.slice Ao17 t142.length co17] 41 (0,0)) (by (with_reducible repeat first|apply zN|apply zD|apply zA);exact BK167.out) hb)
               have n8_:=Aside0.mk (below_step (by repeat (first|(with_reducible first|exact HB.out|apply below_alloc|apply pw_below_drewN|apply below_drew1|refine below_set ?_ GE147.out|refine below_set ?_ GE156.out|refine below_set ?_ GE166.out|refine below_set ?_ GE167.out)|exact HB.out)) hb)
               clear HO_148003
               clear HO_157003
               clear HO163
               clear BK147
               clear BK156
               clear BK166
               clear BK167
               clear HB
               have HO_148003 := n0_
               have HO_157003 := n1_
               have HO163 := n2_
               have HO170 := n3_
               have BK147 := n4_
               have BK156 := n5_
               have BK166 := n6_
               have BK167 := n7_
               have HB := n8_
               clear n0_ n1_ n2_ n3_ n4_ n5_ n6_ n7_ n8_
               clear hb ho52
               refine hK.out _ _ ⟨(blk_cell BK147.out 0).trans rfl,(blk_cell BK147.out 1).trans rfl,(blk_cell BK147.out 2).trans rfl,(blk_cell BK147.out 3).trans rfl,(blk_cell BK156.out 0).trans rfl,(blk_cell BK156.out 1).trans rfl,(blk_cell BK156.out 2).trans rfl,(blk_cell BK156.out 3).trans rfl⟩ (fun hHeld => ?_)
               clear hK K
               refine norm_ (a' := ?_) ?_ ?_
               rotate_left
               ·show Act.put _ (some 55) _ = _
                simp only [Act.put, List.setIfInBounds_toArray, List.set_cons_zero, List.set_cons_succ, i64_w, i32_w]
                rfl
               refine one_ (i := 3) (N := some 58) #[true, true, true, true, true, true, false, false, false] rfl rfl (one_of HT_.out (by kernel_rfl)) (by decide) (fun K hK => ?_)
               refine Kd.N_append_rows_step k81 (w0:=w) w.heap.size (by rfl) (.tmp 55) (.tmp 57) 39 81 (.agg #[(.string ⟨#[]⟩),(.int .u64 0),(.slice none 0 0),(.int .i64 0),(.slice none 0 0),(.int .i64 0),(.int .u64 0),(.string ⟨#[]⟩),(.int .u64 0)]) 120 rfl Tryd.underlying39 info81 rfl (by decide) (by omega) v169 y168 t142 _ _ _ (fun k_ => some k_ ≠ (.slice Ao22 t151.length co22:Value).ownBlock ∧ some k_ ≠ (.slice Ao41 t161.length co41:Value).ownBlock ∧ k_ ≠ gb147 ∧ k_ ≠ gb156 ∧ k_ ≠ gb166 ∧ k_ ≠ gb167) (fun k_ => ((fun k_ => some k_ ≠ (.slice Ao22 t151.length co22:Value).ownBlock ∧ some k_ ≠ (.slice Ao41 t161.length co41:Value).ownBlock ∧ k_ ≠ gb147 ∧ k_ ≠ gb156 ∧ k_ ≠ gb166 ∧ k_ ≠ gb167)) k_ ∧ some k_ ≠ (v169:Value).ownBlock) rfl rfl ?aO ?aR (fun _ hk => hk) ?aF ?aB ?aS ?aL ?_
               (case aR => exact (by skip;exact Kd.N_F (Kd.N_mono (ok':=(fun k_ => ((fun k_ => some k_ ≠ (.slice Ao22 t151.length co22:Value).ownBlock ∧ some k_ ≠ (.slice Ao41 t161.length co41:Value).ownBlock ∧ k_ ≠ gb147 ∧ k_ ≠ gb156 ∧ k_ ≠ gb166 ∧ k_ ≠ gb167)) k_ ∧ some k_ ≠ (v169:Value).ownBlock)) (HO_148003.out) (fun k_ hk => ⟨⟨hk.1.1,⟨hk.1.2.1,⟨hk.1.2.2.1,⟨hk.1.2.2.2.1,⟨hk.1.2.2.2.2.1,hk.1.2.2.2.2.2⟩⟩⟩⟩⟩,hk.2⟩))))
               (case aB => exact (by repeat (first|(with_reducible first|exact HB.out|apply below_alloc|apply pw_below_drewN|apply below_drew1|refine below_set ?_ GE147.out|refine below_set ?_ GE156.out|refine below_set ?_ GE166.out|refine below_set ?_ GE167.out)|exact HB.out)))
               (case aF => exact (fun k_ hk => ⟨Kd.fresh' (Kd.N_lt (by (with_reducible repeat first|apply Kd.N_alloc|apply Kd.N_drewN|apply Kd.N_drew);exact HO_157003.out)) k_ hk,Kd.fresh' (Kd.N_lt (by (with_reducible repeat first|apply Kd.N_alloc|apply Kd.N_drewN|apply Kd.N_drew);exact HO163.out)) k_ hk,Kd.freshB (g:=gb147) (o:=.cells #[.string t139,.string t140,.int .u64 t141,.slice Ao17 t142.length co17] 41 (0,0)) (by (with_reducible repeat first|apply zN|apply zD|apply zA);exact BK147.out) k_ hk,Kd.freshB (g:=gb156) (o:=.cells #[.string t148,.string t149,.int .u64 t150,.slice Ao22 t151.length co22] 41 (0,0)) (by (with_reducible repeat first|apply zN|apply zD|apply zA);exact BK156.out) k_ hk,Kd.freshB (g:=gb166) (o:=.cells #[.string t158,.string t159,.int .u64 t160,.slice Ao41 t161.length co41] 41 (0,0)) (by (with_reducible repeat first|apply zN|apply zD|apply zA);exact BK166.out) k_ hk,Kd.freshB (g:=gb167) (o:=.cells #[.string t139,.string t140,.int .u64 t141,.slice Ao17 t142.length co17] 41 (0,0)) (by (with_reducible repeat first|apply zN|apply zD|apply zA);exact BK167.out) k_ hk⟩))
               (case aO => exact (by (with_reducible repeat first|apply Kd.N_alloc|apply Kd.N_drewN|apply Kd.N_drew);exact Kd.N_mono HO170.out (fun _ hk => ⟨hk.2.1,⟨hk.2.2.1,⟨hk.2.2.2.1,⟨hk.2.2.2.2.1,⟨hk.2.2.2.2.2.1,hk.2.2.2.2.2.2⟩⟩⟩⟩⟩)))
               (case aS => exact (below_size (by repeat (first|(with_reducible first|exact HB.out|apply below_alloc|apply pw_below_drewN|apply below_drew1|refine below_set ?_ GE147.out|refine below_set ?_ GE156.out|refine below_set ?_ GE166.out|refine below_set ?_ GE167.out)|exact HB.out))))
               (case aL => have := LMc30.out; omega)
               intro v172 w53 ho hb hg hat
               rw [← Ny171.out] at ho
               have n0_:=Aside0.mk (Kd.N_afterv (ok:=(fun k_ => some k_ ≠ (.slice Ao22 t151.length co22:Value).ownBlock ∧ some k_ ≠ (.slice Ao41 t161.length co41:Value).ownBlock ∧ k_ ≠ gb147 ∧ k_ ≠ gb156 ∧ k_ ≠ gb166 ∧ k_ ≠ gb167)) (by (with_reducible repeat first|apply Kd.N_alloc|apply Kd.N_drewN|apply Kd.N_drew);exact HO_148003.out) hg hat)
               have n1_:=Aside0.mk (Kd.N_afterv (ok:=(fun k_ => some k_ ≠ (.slice Ao17 t142.length co17:Value).ownBlock ∧ some k_ ≠ (.slice Ao41 t161.length co41:Value).ownBlock ∧ k_ ≠ gb147 ∧ k_ ≠ gb156 ∧ k_ ≠ gb166 ∧ k_ ≠ gb167)) (by (with_reducible repeat first|apply Kd.N_alloc|apply Kd.N_drewN|apply Kd.N_drew);exact HO_157003.out) hg hat)
               have n2_:=Aside0.mk (blk_grown (g:=gb147) (o:=.cells #[.string t139,.string t140,.int .u64 t141,.slice Ao17 t142.length co17] 41 (0,0)) (by (with_reducible repeat first|apply zN|apply zD|apply zA);exact BK147.out) hg (Kd.N_ne HO170.out BK147.out (by decide)))
               have n3_:=Aside0.mk (blk_grown (g:=gb156) (o:=.cells #[.string t148,.string t149,.int .u64 t150,.slice Ao22 t151.length co22] 41 (0,0)) (by (with_reducible repeat first|apply zN|apply zD|apply zA);exact BK156.out) hg (Kd.N_ne HO170.out BK156.out (by decide)))
               have n4_:=Aside0.mk (Kd.N_afterv (ok:=(fun k_ => some k_ ≠ (.slice Ao17 t142.length co17:Value).ownBlock ∧ some k_ ≠ (.slice Ao22 t151.length co22:Value).ownBlock ∧ k_ ≠ gb147 ∧ k_ ≠ gb156 ∧ k_ ≠ gb166 ∧ k_ ≠ gb167)) (by (with_reducible repeat first|apply Kd.N_alloc|apply Kd.N_drewN|apply Kd.N_drew);exact HO163.out) hg hat)
               have n5_:=Aside0.mk (blk_grown (g:=gb166) (o:=.cells #[.string t158,.string t159,.int .u64 t160,.slice Ao41 t161.length co41] 41 (0,0)) (by (with_reducible repeat first|apply zN|apply zD|apply zA);exact BK166.out) hg (Kd.N_ne HO170.out BK166.out (by decide)))
               have n6_:=Aside0.mk (blk_grown (g:=gb167) (o:=.cells #[.string t139,.string t140,.int .u64 t141,.slice Ao17 t142.length co17] 41 (0,0)) (by (with_reducible repeat first|apply zN|apply zD|apply zA);exact BK167.out) hg (Kd.N_ne HO170.out BK167.out (by decide)))
               have n7_ := Aside0.mk (hb)
               have n8_ := Aside0.mk (ho)
               clear HO_148003
               clear HO_157003
               clear BK147
               clear BK156
               clear HO163
               clear BK166
               clear BK167
               clear HB
               clear HO170
               have HO_148003 := n0_
               have HO_157003 := n1_
               have BK147 := n2_
               have BK156 := n3_
               have HO163 := n4_
               have BK166 := n5_
               have BK167 := n6_
               have HB := n7_
               have HO173 := n8_
               clear n0_ n1_ n2_ n3_ n4_ n5_ n6_ n7_ n8_
               clear ho hb hg hat
               refine hK.out _ _ ⟨(blk_cell BK147.out 0).trans rfl,(blk_cell BK147.out 1).trans rfl,(blk_cell BK147.out 2).trans rfl,(blk_cell BK147.out 3).trans rfl,(blk_cell BK156.out 0).trans rfl,(blk_cell BK156.out 1).trans rfl,(blk_cell BK156.out 2).trans rfl,(blk_cell BK156.out 3).trans rfl⟩ (fun hHeld => ?_)
               clear hK K
               refine norm_ (a' := ?_) ?_ ?_
               rotate_left
               ·show Act.put _ (some 58) _ = _
                simp only [Act.put, List.setIfInBounds_toArray, List.set_cons_zero, List.set_cons_succ, i64_w, i32_w]
                rfl
               refine one_ (i := 6) (N := some 61) #[true, true, true, true, true, true, true, false, false] rfl rfl (one_of HT_.out (by kernel_rfl)) (by decide) (fun K hK => ?_)
               refine Kd.N_append_rows_step k81 (w0:=w) w.heap.size (by rfl) (.tmp 58) (.tmp 60) 39 81 (.agg #[(.string ⟨#[]⟩),(.int .u64 0),(.slice none 0 0),(.int .i64 0),(.slice none 0 0),(.int .i64 0),(.int .u64 0),(.string ⟨#[]⟩),(.int .u64 0)]) 120 rfl Tryd.underlying39 info81 rfl (by decide) (by omega) v172 y171 t151 _ _ _ (fun k_ => some k_ ≠ (.slice Ao41 t161.length co41:Value).ownBlock ∧ k_ ≠ gb147 ∧ k_ ≠ gb156 ∧ k_ ≠ gb166 ∧ k_ ≠ gb167) (fun k_ => ((fun k_ => some k_ ≠ (.slice Ao41 t161.length co41:Value).ownBlock ∧ k_ ≠ gb147 ∧ k_ ≠ gb156 ∧ k_ ≠ gb166 ∧ k_ ≠ gb167)) k_ ∧ some k_ ≠ (v172:Value).ownBlock) rfl rfl ?aO ?aR (fun _ hk => hk) ?aF ?aB ?aS ?aL ?_
               (case aR => exact (by skip;exact Kd.N_F (Kd.N_mono (ok':=(fun k_ => ((fun k_ => some k_ ≠ (.slice Ao41 t161.length co41:Value).ownBlock ∧ k_ ≠ gb147 ∧ k_ ≠ gb156 ∧ k_ ≠ gb166 ∧ k_ ≠ gb167)) k_ ∧ some k_ ≠ (v172:Value).ownBlock)) (HO_157003.out) (fun k_ hk => ⟨⟨hk.1.2.1,⟨hk.1.2.2.1,⟨hk.1.2.2.2.1,⟨hk.1.2.2.2.2.1,hk.1.2.2.2.2.2⟩⟩⟩⟩,hk.2⟩))))
               (case aB => exact (by repeat (first|(with_reducible first|exact HB.out|apply below_alloc|apply pw_below_drewN|apply below_drew1|refine below_set ?_ GE147.out|refine below_set ?_ GE156.out|refine below_set ?_ GE166.out|refine below_set ?_ GE167.out)|exact HB.out)))
               (case aF => exact (fun k_ hk => ⟨Kd.fresh' (Kd.N_lt (by (with_reducible repeat first|apply Kd.N_alloc|apply Kd.N_drewN|apply Kd.N_drew);exact HO163.out)) k_ hk,Kd.freshB (g:=gb147) (o:=.cells #[.string t139,.string t140,.int .u64 t141,.slice Ao17 t142.length co17] 41 (0,0)) (by (with_reducible repeat first|apply zN|apply zD|apply zA);exact BK147.out) k_ hk,Kd.freshB (g:=gb156) (o:=.cells #[.string t148,.string t149,.int .u64 t150,.slice Ao22 t151.length co22] 41 (0,0)) (by (with_reducible repeat first|apply zN|apply zD|apply zA);exact BK156.out) k_ hk,Kd.freshB (g:=gb166) (o:=.cells #[.string t158,.string t159,.int .u64 t160,.slice Ao41 t161.length co41] 41 (0,0)) (by (with_reducible repeat first|apply zN|apply zD|apply zA);exact BK166.out) k_ hk,Kd.freshB (g:=gb167) (o:=.cells #[.string t139,.string t140,.int .u64 t141,.slice Ao17 t142.length co17] 41 (0,0)) (by (with_reducible repeat first|apply zN|apply zD|apply zA);exact BK167.out) k_ hk⟩))
               (case aO => exact (by (with_reducible repeat first|apply Kd.N_alloc|apply Kd.N_drewN|apply Kd.N_drew);exact Kd.N_mono HO173.out (fun _ hk => ⟨hk.2.1,⟨hk.2.2.1,⟨hk.2.2.2.1,⟨hk.2.2.2.2.1,hk.2.2.2.2.2⟩⟩⟩⟩)))
               (case aS => exact (below_size (by repeat (first|(with_reducible first|exact HB.out|apply below_alloc|apply pw_below_drewN|apply below_drew1|refine below_set ?_ GE147.out|refine below_set ?_ GE156.out|refine below_set ?_ GE166.out|refine below_set ?_ GE167.out)|exact HB.out))))
               (case aL => have := LMc31.out; omega)
               intro v175 w54 ho hb hg hat
               rw [← Ny174.out] at ho
               have n0_:=Aside0.mk (Kd.N_afterv (ok:=(fun k_ => some k_ ≠ (.slice Ao22 t151.length co22:Value).ownBlock ∧ some k_ ≠ (.slice Ao41 t161.length co41:Value).ownBlock ∧ k_ ≠ gb147 ∧ k_ ≠ gb156 ∧ k_ ≠ gb166 ∧ k_ ≠ gb167)) (by (with_reducible repeat first|apply Kd.N_alloc|apply Kd.N_drewN|apply Kd.N_drew);exact HO_148003.out) hg hat)
               have n1_:=Aside0.mk (Kd.N_afterv (ok:=(fun k_ => some k_ ≠ (.slice Ao17 t142.length co17:Value).ownBlock ∧ some k_ ≠ (.slice Ao41 t161.length co41:Value).ownBlock ∧ k_ ≠ gb147 ∧ k_ ≠ gb156 ∧ k_ ≠ gb166 ∧ k_ ≠ gb167)) (by (with_reducible repeat first|apply Kd.N_alloc|apply Kd.N_drewN|apply Kd.N_drew);exact HO_157003.out) hg hat)
               have n2_:=Aside0.mk (blk_grown (g:=gb147) (o:=.cells #[.string t139,.string t140,.int .u64 t141,.slice Ao17 t142.length co17] 41 (0,0)) (by (with_reducible repeat first|apply zN|apply zD|apply zA);exact BK147.out) hg (Kd.N_ne HO173.out BK147.out (by decide)))
               have n3_:=Aside0.mk (blk_grown (g:=gb156) (o:=.cells #[.string t148,.string t149,.int .u64 t150,.slice Ao22 t151.length co22] 41 (0,0)) (by (with_reducible repeat first|apply zN|apply zD|apply zA);exact BK156.out) hg (Kd.N_ne HO173.out BK156.out (by decide)))
               have n4_:=Aside0.mk (Kd.N_afterv (ok:=(fun k_ => some k_ ≠ (.slice Ao17 t142.length co17:Value).ownBlock ∧ some k_ ≠ (.slice Ao22 t151.length co22:Value).ownBlock ∧ k_ ≠ gb147 ∧ k_ ≠ gb156 ∧ k_ ≠ gb166 ∧ k_ ≠ gb167)) (by (with_reducible repeat first|apply Kd.N_alloc|apply Kd.N_drewN|apply Kd.N_drew);exact HO163.out) hg hat)
               have n5_:=Aside0.mk (blk_grown (g:=gb166) (o:=.cells #[.string t158,.string t159,.int .u64 t160,.slice Ao41 t161.length co41] 41 (0,0)) (by (with_reducible repeat first|apply zN|apply zD|apply zA);exact BK166.out) hg (Kd.N_ne HO173.out BK166.out (by decide)))
               have n6_:=Aside0.mk (blk_grown (g:=gb167) (o:=.cells #[.string t139,.string t140,.int .u64 t141,.slice Ao17 t142.length co17] 41 (0,0)) (by (with_reducible repeat first|apply zN|apply zD|apply zA);exact BK167.out) hg (Kd.N_ne HO173.out BK167.out (by decide)))
               have n7_ := Aside0.mk (hb)
               have n8_ := Aside0.mk (ho)
               clear HO_148003
               clear HO_157003
               clear BK147
               clear BK156
               clear HO163
               clear BK166
               clear BK167
               clear HB
               clear HO173
               have HO_148003 := n0_
               have HO_157003 := n1_
               have BK147 := n2_
               have BK156 := n3_
               have HO163 := n4_
               have BK166 := n5_
               have BK167 := n6_
               have HB := n7_
               have HO176 := n8_
               clear n0_ n1_ n2_ n3_ n4_ n5_ n6_ n7_ n8_
               clear ho hb hg hat
               obtain ⟨Ao55, co55, eo55⟩ := Kd.N_slice HO176.out
               (first | subst eo55 | (injection eo55 with f1_ f2_ f3_; have f4_ := f1_.symm; have f5_ := f3_.symm; clear f1_ f2_ f3_; subst f4_; subst f5_))
               refine hK.out _ _ ⟨(blk_cell BK147.out 0).trans rfl,(blk_cell BK147.out 1).trans rfl,(blk_cell BK147.out 2).trans rfl,(blk_cell BK147.out 3).trans rfl,(blk_cell BK156.out 0).trans rfl,(blk_cell BK156.out 1).trans rfl,(blk_cell BK156.out 2).trans rfl,(blk_cell BK156.out 3).trans rfl⟩ (fun hHeld => ?_)
               clear hK K
               refine norm_ (a' := ?_) ?_ ?_
               rotate_left
               ·show Act.put _ (some 61) _ = _
                simp only [Act.put, List.setIfInBounds_toArray, List.set_cons_zero, List.set_cons_succ, i64_w, i32_w]
                rfl
               refine pure_ (i:=7) (N:=some 62) (v:=?_) (a':=?_) #[true,true,true,true,true,true,true,true,false] rfl rfl (any_of HT_.out (by kernel_rfl)) (fun _ _ _ h => h) (Or.inl ⟨by rfl,?_⟩) ?_ ?_
               rotate_left
               ·intro w'
                go_simp
                with_reducible rfl
               rotate_left
               ·simp only [Act.put, List.setIfInBounds_toArray, List.set_cons_zero, List.set_cons_succ, i64_w, i32_w]
                rfl
               refine one_ (i := 8) (N := none) #[true, true, true, true, true, true, true, true, true] rfl rfl (one_of HT_.out (by kernel_rfl)) (by decide) (fun K hK => ?_)
               have hs56 : w54.cell? ⟨gb167, 3, none⟩ = some (.slice Ao17 t142.length co17) := (blk_cell BK167.out 3).trans rfl
               have hfs56 := blk_frozen BK167.out 3
               have hns56_0 := NB147_167.out
               have hns56_1 := NB156_167.out
               have hns56_2 := NB166_167.out
               have hms56_0 := NB167_147.out
               have hms56_1 := NB167_156.out
               have hms56_2 := NB167_166.out
               refine skip_ (w1 := ?_) (by rfl) rfl ?_ ?_
               rotate_left
               ·go_simp
                rfl
               refine hK.out _ _ ⟨((cell_far (p:=⟨gb167,_,none⟩) NB147_167.out _).trans (hHeld.1)),((cell_far (p:=⟨gb167,_,none⟩) NB147_167.out _).trans (hHeld.2.1)),((cell_far (p:=⟨gb167,_,none⟩) NB147_167.out _).trans (hHeld.2.2.1)),((cell_far (p:=⟨gb167,_,none⟩) NB147_167.out _).trans (hHeld.2.2.2.1)),((cell_far (p:=⟨gb167,_,none⟩) NB156_167.out _).trans (hHeld.2.2.2.2.1)),((cell_far (p:=⟨gb167,_,none⟩) NB156_167.out _).trans (hHeld.2.2.2.2.2.1)),((cell_far (p:=⟨gb167,_,none⟩) NB156_167.out _).trans (hHeld.2.2.2.2.2.2.1)),((cell_far (p:=⟨gb167,_,none⟩) NB156_167.out _).trans (hHeld.2.2.2.2.2.2.2))⟩ (fun hHeld => ?_)
               clear hK K
               refine done_ (done_of HT_.out (by kernel_rfl)) ?_
               try go_wp2_with (first|((with_reducible refine gate_callee (f:=23) rfl ?_);refine goesL_ (some 63) rfl rfl Tryd.func23 (by kernel_rfl) rfl #[] rfl (by (try simp only [List.map_toArray,List.map_cons,List.map_nil]);first|done|rfl|(simp only [List.length_drop,List.length_take];rfl)) ?_;(with_reducible refine (doorwardlaw15_alive.calls  true _ ?side1 A32.out).mono ?_);(case side1 => exact LaidAt.of HLD.out (by repeat (first|(with_reducible first|exact HB.out|apply below_alloc|apply pw_below_drewN|apply below_drew1|refine below_set ?_ GE147.out|refine below_set ?_ GE156.out|refine below_set ?_ GE166.out|refine below_set ?_ GE167.out)|exact HB.out)));rintro e w57 ⟨rfl,hb⟩;refine ⟨_,rfl,?_⟩;have n0_:=Aside0.mk (Kd.N_below (by (with_reducible repeat first|apply Kd.N_alloc|apply Kd.N_drewN|apply Kd.N_drew);exact (Kd.N_mono (Kd.N_far (p:=⟨gb167,3,none⟩) (Kd.N_mono HO_148003.out (fun k_ hk => (⟨hk,hk.1.2.2.2.2.2⟩:_ ∧ k_ ≠ gb167))) (fun _ hk => hk.2) (.slice Ao55 y174.length co55)) (fun _ h_ => h_.1))) hb);have n1_:=Aside0.mk (Kd.N_below (by (with_reducible repeat first|apply Kd.N_alloc|apply Kd.N_drewN|apply Kd.N_drew);exact (Kd.N_mono (Kd.N_far (p:=⟨gb167,3,none⟩) (Kd.N_mono HO_157003.out (fun k_ hk => (⟨hk,hk.1.2.2.2.2.2⟩:_ ∧ k_ ≠ gb167))) (fun _ hk => hk.2) (.slice Ao55 y174.length co55)) (fun _ h_ => h_.1))) hb);have n2_:=Aside0.mk (Kd.N_below (by (with_reducible repeat first|apply Kd.N_alloc|apply Kd.N_drewN|apply Kd.N_drew);exact (Kd.N_mono (Kd.N_far (p:=⟨gb167,3,none⟩) (Kd.N_mono HO163.out (fun k_ hk => (⟨hk,hk.1.2.2.2.2.2⟩:_ ∧ k_ ≠ gb167))) (fun _ hk => hk.2) (.slice Ao55 y174.length co55)) (fun _ h_ => h_.1))) hb);have n3_:=Aside0.mk (Kd.N_below (by (with_reducible repeat first|apply Kd.N_alloc|apply Kd.N_drewN|apply Kd.N_drew);exact (Kd.N_mono (Kd.N_far (p:=⟨gb167,3,none⟩) (Kd.N_mono HO176.out (fun k_ hk => (⟨hk,hk.2.2.2.2⟩:_ ∧ k_ ≠ gb167))) (fun _ hk => hk.2) (.slice Ao55 y174.length co55)) (fun _ h_ => h_.1))) hb);have n4_:=Aside0.mk (blk_below (g:=gb147) (o:=.cells #[.string t139,.string t140,.int .u64 t141,.slice Ao17 t142.length co17] 41 (0,0)) (by (with_reducible repeat first|apply zN|apply zD|apply zA);refine blk_far ?_ NB147_167.out _;(with_reducible repeat first|apply zN|apply zD|apply zA);exact BK147.out) hb);have n5_:=Aside0.mk (blk_below (g:=gb156) (o:=.cells #[.string t148,.string t149,.int .u64 t150,.slice Ao22 t151.length co22] 41 (0,0)) (by (with_reducible repeat first|apply zN|apply zD|apply zA);refine blk_far ?_ NB156_167.out _;(with_reducible repeat first|apply zN|apply zD|apply zA);exact BK156.out) hb);have n6_:=Aside0.mk (blk_below (g:=gb166) (o:=.cells #[.string t158,.string t159,.int .u64 t160,.slice Ao41 t161.length co41] 41 (0,0)) (by (with_reducible repeat first|apply zN|apply zD|apply zA);refine blk_far ?_ NB166_167.out _;(with_reducible repeat first|apply zN|apply zD|apply zA);exact BK166.out) hb);have n7_:=Aside0.mk (blk_below (g:=gb167) (o:=.cells #[.string t139,.string t140,.int .u64 t141,.slice Ao55 y174.length co55] 41 (0,0)) (by (with_reducible repeat first|apply zN|apply zD|apply zA);refine blk_put (cs:=#[.string t139,.string t140,.int .u64 t141,.slice Ao17 t142.length co17]) ?_ 3 _ rfl;(with_reducible repeat first|apply zN|apply zD|apply zA);exact BK167.out) hb);have n8_:=Aside0.mk (below_step (by repeat (first|(with_reducible first|exact HB.out|apply below_alloc|apply pw_below_drewN|apply below_drew1|refine below_set ?_ GE147.out|refine below_set ?_ GE156.out|refine below_set ?_ GE166.out|refine below_set ?_ GE167.out)|exact HB.out)) hb);clear HO_148003;clear HO_157003;clear HO163;clear HO176;clear BK147;clear BK156;clear BK166;clear BK167;clear HB;have HO_148003:=n0_;have HO_157003:=n1_;have HO163:=n2_;have HO176:=n3_;have BK147:=n4_;have BK156:=n5_;have BK166:=n6_;have BK167:=n7_;have HB:=n8_;clear n0_ n1_ n2_ n3_ n4_ n5_ n6_ n7_ n8_;(try clear hb);(try clear hb2);(try clear hk);(try clear hi);have hcz58_0:w57.cell? ⟨gb166,0,none⟩ = some (.string t158):=(blk_cell BK166.out 0).trans rfl;have hcz58_1:w57.cell? ⟨gb166,1,none⟩ = some (.string t159):=(blk_cell BK166.out 1).trans rfl;have hcz58_2:w57.cell? ⟨gb166,2,none⟩ = some (.int .u64 t160):=(blk_cell BK166.out 2).trans rfl;have hcz58_3:w57.cell? ⟨gb166,3,none⟩ = some (.slice Ao41 t161.length co41):=(blk_cell BK166.out 3).trans rfl;have hfz58_0:=blk_frozen BK166.out 0;have hfz58_1:=blk_frozen BK166.out 1;have hfz58_2:=blk_frozen BK166.out 2;have hfz58_3:=blk_frozen BK166.out 3;have hcz59_0:w57.cell? ⟨gb167,0,none⟩ = some (.string t139):=(blk_cell BK167.out 0).trans rfl;have hcz59_1:w57.cell? ⟨gb167,1,none⟩ = some (.string t140):=(blk_cell BK167.out 1).trans rfl;have hcz59_2:w57.cell? ⟨gb167,2,none⟩ = some (.int .u64 t141):=(blk_cell BK167.out 2).trans rfl;have hcz59_3:w57.cell? ⟨gb167,3,none⟩ = some (.slice Ao55 y174.length co55):=(blk_cell BK167.out 3).trans rfl;have hfz59_0:=blk_frozen BK167.out 0;have hfz59_1:=blk_frozen BK167.out 1;have hfz59_2:=blk_frozen BK167.out 2;have hfz59_3:=blk_frozen BK167.out 3)|(go_at_call 24;(with_reducible refine (doorwardref15_Like.calls kj11 t158 t159 t160 _ _ t161 t139 t140 t141 _ _ y174 t178 _ ?side1 ?side2 ?side3 ?side4 ?side5 A35.out).mono ?_);(case side1 => repeat (first|exact (Kd.N_reads' HO163.out).2.2|(with_reducible refine Kd.C_alloc ?_ _)|(with_reducible refine Kd.C_drewN ?_ _)|(with_reducible refine Kd.C_drew ?_)));(case side2 => exact (Kd.N_reads' HO163.out).2.1);(case side3 => repeat (first|exact (Kd.N_reads' HO176.out).2.2|(with_reducible refine Kd.C_alloc ?_ _)|(with_reducible refine Kd.C_drewN ?_ _)|(with_reducible refine Kd.C_drew ?_)));(case side4 => exact (Kd.N_reads' HO176.out).2.1);(case side5 => exact LaidAt.of HLD.out (by repeat (first|(with_reducible first|exact HB.out|apply below_alloc|apply pw_below_drewN|apply below_drew1|refine below_set ?_ GE147.out|refine below_set ?_ GE156.out|refine below_set ?_ GE166.out|refine below_set ?_ GE167.out)|exact HB.out)));rintro e w60 ⟨rfl,hb⟩;have n0_:=Aside0.mk (Kd.N_below (by (with_reducible repeat first|apply Kd.N_alloc|apply Kd.N_drewN|apply Kd.N_drew);exact HO_148003.out) hb);have n1_:=Aside0.mk (Kd.N_below (by (with_reducible repeat first|apply Kd.N_alloc|apply Kd.N_drewN|apply Kd.N_drew);exact HO_157003.out) hb);have n2_:=Aside0.mk (Kd.N_below (by (with_reducible repeat first|apply Kd.N_alloc|apply Kd.N_drewN|apply Kd.N_drew);exact HO163.out) hb);have n3_:=Aside0.mk (Kd.N_below (by (with_reducible repeat first|apply Kd.N_alloc|apply Kd.N_drewN|apply Kd.N_drew);exact HO176.out) hb);have n4_:=Aside0.mk (blk_below (g:=gb147) (o:=.cells #[.string t139,.string t140,.int .u64 t141,.slice Ao17 t142.length co17] 41 (0,0)) (by (with_reducible repeat first|apply zN|apply zD|apply zA);exact BK147.out) hb);have n5_:=Aside0.mk (blk_below (g:=gb156) (o:=.cells #[.string t148,.string t149,.int .u64 t150,.slice Ao22 t151.length co22] 41 (0,0)) (by (with_reducible repeat first|apply zN|apply zD|apply zA);exact BK156.out) hb);have n6_:=Aside0.mk (blk_below (g:=gb166) (o:=.cells #[.string t158,.string t159,.int .u64 t160,.slice Ao41 t161.length co41] 41 (0,0)) (by (with_reducible repeat first|apply zN|apply zD|apply zA);exact BK166.out) hb);have n7_:=Aside0.mk (blk_below (g:=gb167) (o:=.cells #[.string t139,.string t140,.int .u64 t141,.slice Ao55 y174.length co55] 41 (0,0)) (by (with_reducible repeat first|apply zN|apply zD|apply zA);exact BK167.out) hb);have n8_:=Aside0.mk (below_step (by repeat (first|(with_reducible first|exact HB.out|apply below_alloc|apply pw_below_drewN|apply below_drew1|refine below_set ?_ GE147.out|refine below_set ?_ GE156.out|refine below_set ?_ GE166.out|refine below_set ?_ GE167.out)|exact HB.out)) hb);clear HO_148003;clear HO_157003;clear HO163;clear HO176;clear BK147;clear BK156;clear BK166;clear BK167;clear HB;have HO_148003:=n0_;have HO_157003:=n1_;have HO163:=n2_;have HO176:=n3_;have BK147:=n4_;have BK156:=n5_;have BK166:=n6_;have BK167:=n7_;have HB:=n8_;clear n0_ n1_ n2_ n3_ n4_ n5_ n6_ n7_ n8_;(try clear hb);(try clear hb2);(try clear hk);(try clear hi)))
               go_ret
               exact ⟨by first|rfl|(simp [errW_none,errW_some] <;> rfl)|(simp only [← hji3,← hji6];first|rfl|(simp [errW_none,errW_some] <;> rfl))|(simp [*,errW_none,errW_some] <;> rfl),by repeat (first|(with_reducible first|exact HB.out|apply below_alloc|apply pw_below_drewN|apply below_drew1|refine below_set ?_ GE147.out|refine below_set ?_ GE156.out|refine below_set ?_ GE166.out|refine below_set ?_ GE167.out)|exact HB.out)⟩
              ·rw [if_neg c34] at H
               have c34b0 : (t164 == 0) = false := beq_eq_false_iff_ne.mpr c34
               have c34b1 : (t164 != 0) = true := bne_iff_ne.mpr c34
               obtain rfl := Option.some.inj H
               try go_wp2_with (first|((with_reducible refine gate_callee (f:=22) rfl ?_);refine goesL_ (some 50) rfl rfl Tryd.func22 (by kernel_rfl) rfl #[.string (((a0.extract 0 ((ji3):Int).toNat) ++ (⟨#[10]⟩:ByteArray)) ++ (a1.extract 0 ((ji6):Int).toNat))] rfl (by (try simp only [List.map_toArray,List.map_cons,List.map_nil]);first|done|(simp only [hji3,hji6];rfl)|rfl|(simp only [List.length_drop,List.length_take];rfl)) ?_;(with_reducible refine (parse_Parse.calls (((a0.extract 0 ((ji3):Int).toNat) ++ (⟨#[10]⟩:ByteArray)) ++ (a1.extract 0 ((ji6):Int).toNat)) t158 t159 t160 t161 t164 t165 _ ?side1 A29.out).mono ?_);(case side1 => exact LaidAt.of HLD.out (by repeat (first|(with_reducible first|exact HB.out|apply below_alloc|apply pw_below_drewN|apply below_drew1|refine below_set ?_ GE147.out|refine below_set ?_ GE156.out)|exact HB.out)));rintro e w61 ⟨v162,rfl,ho0,hb⟩;refine ⟨_,rfl,?_⟩;have n0_:=Aside0.mk (Kd.N_elder' (by (with_reducible repeat first|apply Kd.N_alloc|apply Kd.N_drewN|apply Kd.N_drew);exact HO_148003.out) (by first|exact Kd.R_base ho0|exact Kd.N_base ho0) hb);have n1_:=Aside0.mk (Kd.N_elder' (by (with_reducible repeat first|apply Kd.N_alloc|apply Kd.N_drewN|apply Kd.N_drew);exact HO_157003.out) (by first|exact Kd.R_base ho0|exact Kd.N_base ho0) hb);have n2_:=Aside0.mk (Kd.N_lower (Kd.N_mono (ok':=fun k_ => some k_ ≠ (.slice Ao17 t142.length co17:Value).ownBlock ∧ some k_ ≠ (.slice Ao22 t151.length co22:Value).ownBlock ∧ k_ ≠ gb147 ∧ k_ ≠ gb156) (Kd.R_N (Kd.R_bound ho0)) (fun k_ hk_ => ⟨(Kd.fresh' (Kd.N_lt (by (with_reducible repeat first|apply Kd.N_alloc|apply Kd.N_drewN|apply Kd.N_drew);exact HO_148003.out)) k_ hk_.2.1),(Kd.fresh' (Kd.N_lt (by (with_reducible repeat first|apply Kd.N_alloc|apply Kd.N_drewN|apply Kd.N_drew);exact HO_157003.out)) k_ hk_.2.1),(Kd.freshB (g:=gb147) (o:=.cells #[.string t139,.string t140,.int .u64 t141,.slice Ao17 t142.length co17] 41 (0,0)) (by (with_reducible repeat first|apply zN|apply zD|apply zA);exact BK147.out) k_ hk_.2.1),(Kd.freshB (g:=gb156) (o:=.cells #[.string t148,.string t149,.int .u64 t150,.slice Ao22 t151.length co22] 41 (0,0)) (by (with_reducible repeat first|apply zN|apply zD|apply zA);exact BK156.out) k_ hk_.2.1)⟩)) (below_size (by repeat (first|(with_reducible first|exact HB.out|apply below_alloc|apply pw_below_drewN|apply below_drew1|refine below_set ?_ GE147.out|refine below_set ?_ GE156.out)|exact HB.out))));have n3_:=Aside0.mk (blk_below (g:=gb147) (o:=.cells #[.string t139,.string t140,.int .u64 t141,.slice Ao17 t142.length co17] 41 (0,0)) (by (with_reducible repeat first|apply zN|apply zD|apply zA);exact BK147.out) hb);have n4_:=Aside0.mk (blk_below (g:=gb156) (o:=.cells #[.string t148,.string t149,.int .u64 t150,.slice Ao22 t151.length co22] 41 (0,0)) (by (with_reducible repeat first|apply zN|apply zD|apply zA);exact BK156.out) hb);have n5_:=Aside0.mk (below_step (by repeat (first|(with_reducible first|exact HB.out|apply below_alloc|apply pw_below_drewN|apply below_drew1|refine below_set ?_ GE147.out|refine below_set ?_ GE156.out)|exact HB.out)) hb);clear HO_148003;clear HO_157003;clear BK147;clear BK156;clear HB;have HO_148003:=n0_;have HO_157003:=n1_;have HO163:=n2_;have BK147:=n3_;have BK156:=n4_;have HB:=n5_;clear n0_ n1_ n2_ n3_ n4_ n5_;(try clear hb);(try clear hb2);(try clear hk);(try clear hi);(try clear ho0))|((with_reducible refine gate_dst (N:=11) rfl ?_);refine box_event ?hg (N:=11) ?hd (cs:=#[.string ⟨#[]⟩,.string ⟨#[]⟩,.int .u64 0,.slice none 0 0]) (t:=41) ?hr ?_;(case hd => rfl);(case hg => rfl);(case hr => first|(go_simp;done)|(go_simp;rfl));intro gb166 hg w62 hbox hb;have n0_:=Aside0.mk (Kd.N_below (Kd.N_elderB (by (with_reducible repeat first|apply Kd.N_alloc|apply Kd.N_drewN|apply Kd.N_drew);exact HO_148003.out) gb166 (Nat.le_of_eq hg.symm)) hb);have n1_:=Aside0.mk (Kd.N_below (Kd.N_elderB (by (with_reducible repeat first|apply Kd.N_alloc|apply Kd.N_drewN|apply Kd.N_drew);exact HO_157003.out) gb166 (Nat.le_of_eq hg.symm)) hb);have n2_:=Aside0.mk (Kd.N_below (Kd.N_elderB (by (with_reducible repeat first|apply Kd.N_alloc|apply Kd.N_drewN|apply Kd.N_drew);exact HO163.out) gb166 (Nat.le_of_eq hg.symm)) hb);have n3_:=Aside0.mk (blk_below (g:=gb147) (o:=.cells #[.string t139,.string t140,.int .u64 t141,.slice Ao17 t142.length co17] 41 (0,0)) (by (with_reducible repeat first|apply zN|apply zD|apply zA);exact BK147.out) hb);have n4_:=Aside0.mk (blk_below (g:=gb156) (o:=.cells #[.string t148,.string t149,.int .u64 t150,.slice Ao22 t151.length co22] 41 (0,0)) (by (with_reducible repeat first|apply zN|apply zD|apply zA);exact BK156.out) hb);have n5_:=Aside0.mk (below_step (by repeat (first|(with_reducible first|exact HB.out|apply below_alloc|apply pw_below_drewN|apply below_drew1|refine below_set ?_ GE147.out|refine below_set ?_ GE156.out)|exact HB.out)) hb);have n6_:=Aside0.mk (hbox);have n7_:=Aside0.mk ((by rw [hg];exact (below_size (by repeat (first|(with_reducible first|exact HB.out|apply below_alloc|apply pw_below_drewN|apply below_drew1|refine below_set ?_ GE147.out|refine below_set ?_ GE156.out)|exact HB.out))):w.heap.size ≤ gb166));have n8_:=Aside0.mk ((by rw [hg];exact (below_size (by repeat (first|(with_reducible first|exact HB.out|apply below_alloc|apply pw_below_drewN|apply below_drew1|refine below_set ?_ GE147.out|refine below_set ?_ GE156.out)|exact HB.out))):w.heap.size ≤ gb166));have n9_:=Aside0.mk ((by rw [hg];exact Nat.ne_of_lt (blk_lt (g:=gb147) (o:=.cells #[.string t139,.string t140,.int .u64 t141,.slice Ao17 t142.length co17] 41 (0,0)) (by (with_reducible repeat first|apply zN|apply zD|apply zA);exact BK147.out)):gb147 ≠ gb166));have n10_:=Aside0.mk ((by rw [hg];exact Nat.ne_of_gt (blk_lt (g:=gb147) (o:=.cells #[.string t139,.string t140,.int .u64 t141,.slice Ao17 t142.length co17] 41 (0,0)) (by (with_reducible repeat first|apply zN|apply zD|apply zA);exact BK147.out)):gb166 ≠ gb147));have n11_:=Aside0.mk ((by rw [hg];exact Nat.ne_of_lt (blk_lt (g:=gb156) (o:=.cells #[.string t148,.string t149,.int .u64 t150,.slice Ao22 t151.length co22] 41 (0,0)) (by (with_reducible repeat first|apply zN|apply zD|apply zA);exact BK156.out)):gb156 ≠ gb166));have n12_:=Aside0.mk ((by rw [hg];exact Nat.ne_of_gt (blk_lt (g:=gb156) (o:=.cells #[.string t148,.string t149,.int .u64 t150,.slice Ao22 t151.length co22] 41 (0,0)) (by (with_reducible repeat first|apply zN|apply zD|apply zA);exact BK156.out)):gb166 ≠ gb156));clear HO_148003;clear HO_157003;clear HO163;clear BK147;clear BK156;clear HB;have HO_148003:=n0_;have HO_157003:=n1_;have HO163:=n2_;have BK147:=n3_;have BK156:=n4_;have HB:=n5_;have BK166:=n6_;have GW166:=n7_;have GE166:=n8_;have NB147_166:=n9_;have NB166_147:=n10_;have NB156_166:=n11_;have NB166_156:=n12_;clear n0_ n1_ n2_ n3_ n4_ n5_ n6_ n7_ n8_ n9_ n10_ n11_ n12_;clear hb hbox hg;have hnb63:=NB166_147.out;have hnc63:=NB147_166.out;have hnb64:=NB166_156.out;have hnc64:=NB156_166.out;have hcz65_0:w62.cell? ⟨gb166,0,none⟩ = some (.string ⟨#[]⟩):=(blk_cell BK166.out 0).trans rfl;have hcz65_1:w62.cell? ⟨gb166,1,none⟩ = some (.string ⟨#[]⟩):=(blk_cell BK166.out 1).trans rfl;have hcz65_2:w62.cell? ⟨gb166,2,none⟩ = some (.int .u64 0):=(blk_cell BK166.out 2).trans rfl;have hcz65_3:w62.cell? ⟨gb166,3,none⟩ = some (.slice none 0 0):=(blk_cell BK166.out 3).trans rfl;have hfz65_0:=blk_frozen BK166.out 0;have hfz65_1:=blk_frozen BK166.out 1;have hfz65_2:=blk_frozen BK166.out 2;have hfz65_3:=blk_frozen BK166.out 3;obtain ⟨Ao66,co66,eo66⟩:=Kd.N_slice HO163.out;subst eo66;have hnb67:=NB147_156.out;have hnc67:=NB156_147.out;have hcz68_0:w62.cell? ⟨gb147,0,none⟩ = some (.string t139):=(blk_cell BK147.out 0).trans rfl;have hcz68_1:w62.cell? ⟨gb147,1,none⟩ = some (.string t140):=(blk_cell BK147.out 1).trans rfl;have hcz68_2:w62.cell? ⟨gb147,2,none⟩ = some (.int .u64 t141):=(blk_cell BK147.out 2).trans rfl;have hcz68_3:w62.cell? ⟨gb147,3,none⟩ = some (.slice Ao17 t142.length co17):=(blk_cell BK147.out 3).trans rfl;have hfz68_0:=blk_frozen BK147.out 0;have hfz68_1:=blk_frozen BK147.out 1;have hfz68_2:=blk_frozen BK147.out 2;have hfz68_3:=blk_frozen BK147.out 3)|((with_reducible refine gate_dst (N:=14) rfl ?_);refine box_event ?hg (N:=14) ?hd (cs:=#[.string ⟨#[]⟩,.string ⟨#[]⟩,.int .u64 0,.slice none 0 0]) (t:=41) ?hr ?_;(case hd => rfl);(case hg => rfl);(case hr => first|(go_simp;done)|(go_simp;rfl));intro gb167 hg w69 hbox hb;have n0_:=Aside0.mk (Kd.N_below (Kd.N_elderB (by (with_reducible repeat first|apply Kd.N_alloc|apply Kd.N_drewN|apply Kd.N_drew);exact (Kd.N_mono (Kd.N_far (p:=⟨gb166,3,none⟩) (Kd.N_far (p:=⟨gb166,2,none⟩) (Kd.N_far (p:=⟨gb166,1,none⟩) (Kd.N_far (p:=⟨gb166,0,none⟩) (Kd.N_mono HO_148003.out (fun k_ hk => (⟨hk,hk.2⟩:_ ∧ k_ ≠ gb166))) (fun _ hk => hk.2) (.string t158)) (fun _ hk => hk.2) (.string t159)) (fun _ hk => hk.2) (.int .u64 t160)) (fun _ hk => hk.2) (.slice Ao66 t161.length co66)) (fun _ h_ => h_.1))) gb167 (Nat.le_of_eq hg.symm)) hb);have n1_:=Aside0.mk (Kd.N_below (Kd.N_elderB (by (with_reducible repeat first|apply Kd.N_alloc|apply Kd.N_drewN|apply Kd.N_drew);exact (Kd.N_mono (Kd.N_far (p:=⟨gb166,3,none⟩) (Kd.N_far (p:=⟨gb166,2,none⟩) (Kd.N_far (p:=⟨gb166,1,none⟩) (Kd.N_far (p:=⟨gb166,0,none⟩) (Kd.N_mono HO_157003.out (fun k_ hk => (⟨hk,hk.2⟩:_ ∧ k_ ≠ gb166))) (fun _ hk => hk.2) (.string t158)) (fun _ hk => hk.2) (.string t159)) (fun _ hk => hk.2) (.int .u64 t160)) (fun _ hk => hk.2) (.slice Ao66 t161.length co66)) (fun _ h_ => h_.1))) gb167 (Nat.le_of_eq hg.symm)) hb);have n2_:=Aside0.mk (Kd.N_below (Kd.N_elderB (by (with_reducible repeat first|apply Kd.N_alloc|apply Kd.N_drewN|apply Kd.N_drew);exact (Kd.N_mono (Kd.N_far (p:=⟨gb166,3,none⟩) (Kd.N_far (p:=⟨gb166,2,none⟩) (Kd.N_far (p:=⟨gb166,1,none⟩) (Kd.N_far (p:=⟨gb166,0,none⟩) (Kd.N_mono HO163.out (fun k_ hk => (⟨hk,hk.2⟩:_ ∧ k_ ≠ gb166))) (fun _ hk => hk.2) (.string t158)) (fun _ hk => hk.2) (.string t159)) (fun _ hk => hk.2) (.int .u64 t160)) (fun _ hk => hk.2) (.slice Ao66 t161.length co66)) (fun _ h_ => h_.1))) gb167 (Nat.le_of_eq hg.symm)) hb);have n3_:=Aside0.mk (blk_below (g:=gb147) (o:=.cells #[.string t139,.string t140,.int .u64 t141,.slice Ao17 t142.length co17] 41 (0,0)) (by (with_reducible repeat first|apply zN|apply zD|apply zA);refine blk_far ?_ NB147_166.out _;refine blk_far ?_ NB147_166.out _;refine blk_far ?_ NB147_166.out _;refine blk_far ?_ NB147_166.out _;(with_reducible repeat first|apply zN|apply zD|apply zA);exact BK147.out) hb);have n4_:=Aside0.mk (blk_below (g:=gb156) (o:=.cells #[.string t148,.string t149,.int .u64 t150,.slice Ao22 t151.length co22] 41 (0,0)) (by (with_reducible repeat first|apply zN|apply zD|apply zA);refine blk_far ?_ NB156_166.out _;refine blk_far ?_ NB156_166.out _;refine blk_far ?_ NB156_166.out _;refine blk_far ?_ NB156_166.out _;(with_reducible repeat first|apply zN|apply zD|apply zA);exact BK156.out) hb);have n5_:=Aside0.mk (blk_below (g:=gb166) (o:=.cells #[.string t158,.string t159,.int .u64 t160,.slice Ao66 t161.length co66] 41 (0,0)) (by (with_reducible repeat first|apply zN|apply zD|apply zA);refine blk_put (cs:=#[.string t158,.string t159,.int .u64 t160,.slice none 0 0]) ?_ 3 _ rfl;refine blk_put (cs:=#[.string t158,.string t159,.int .u64 0,.slice none 0 0]) ?_ 2 _ rfl;refine blk_put (cs:=#[.string t158,.string ⟨#[]⟩,.int .u64 0,.slice none 0 0]) ?_ 1 _ rfl;refine blk_put (cs:=#[.string ⟨#[]⟩,.string ⟨#[]⟩,.int .u64 0,.slice none 0 0]) ?_ 0 _ rfl;(with_reducible repeat first|apply zN|apply zD|apply zA);exact BK166.out) hb);have n6_:=Aside0.mk (below_step (by repeat (first|(with_reducible first|exact HB.out|apply below_alloc|apply pw_below_drewN|apply below_drew1|refine below_set ?_ GE147.out|refine below_set ?_ GE156.out|refine below_set ?_ GE166.out)|exact HB.out)) hb);have n7_:=Aside0.mk (hbox);have n8_:=Aside0.mk ((by rw [hg];exact (below_size (by repeat (first|(with_reducible first|exact HB.out|apply below_alloc|apply pw_below_drewN|apply below_drew1|refine below_set ?_ GE147.out|refine below_set ?_ GE156.out|refine below_set ?_ GE166.out)|exact HB.out))):w.heap.size ≤ gb167));have n9_:=Aside0.mk ((by rw [hg];exact (below_size (by repeat (first|(with_reducible first|exact HB.out|apply below_alloc|apply pw_below_drewN|apply below_drew1|refine below_set ?_ GE147.out|refine below_set ?_ GE156.out|refine below_set ?_ GE166.out)|exact HB.out))):w.heap.size ≤ gb167));have n10_:=Aside0.mk ((by rw [hg];exact Nat.ne_of_lt (blk_lt (g:=gb147) (o:=.cells #[.string t139,.string t140,.int .u64 t141,.slice Ao17 t142.length co17] 41 (0,0)) (by (with_reducible repeat first|apply zN|apply zD|apply zA);refine blk_far ?_ NB147_166.out _;refine blk_far ?_ NB147_166.out _;refine blk_far ?_ NB147_166.out _;refine blk_far ?_ NB147_166.out _;(with_reducible repeat first|apply zN|apply zD|apply zA);exact BK147.out)):gb147 ≠ gb167));have n11_:=Aside0.mk ((by rw [hg];exact Nat.ne_of_gt (blk_lt (g:=gb147) (o:=.cells #[.string t139,.string t140,.int .u64 t141,.slice Ao17 t142.length co17] 41 (0,0)) (by (with_reducible repeat first|apply zN|apply zD|apply zA);refine blk_far ?_ NB147_166.out _;refine blk_far ?_ NB147_166.out _;refine blk_far ?_ NB147_166.out _;refine blk_far ?_ NB147_166.out _;(with_reducible repeat first|apply zN|apply zD|apply zA);exact BK147.out)):gb167 ≠ gb147));have n12_:=Aside0.mk ((by rw [hg];exact Nat.ne_of_lt (blk_lt (g:=gb156) (o:=.cells #[.string t148,.string t149,.int .u64 t150,.slice Ao22 t151.length co22] 41 (0,0)) (by (with_reducible repeat first|apply zN|apply zD|apply zA);refine blk_far ?_ NB156_166.out _;refine blk_far ?_ NB156_166.out _;refine blk_far ?_ NB156_166.out _;refine blk_far ?_ NB156_166.out _;(with_reducible repeat first|apply zN|apply zD|apply zA);exact BK156.out)):gb156 ≠ gb167));have n13_:=Aside0.mk ((by rw [hg];exact Nat.ne_of_gt (blk_lt (g:=gb156) (o:=.cells #[.string t148,.string t149,.int .u64 t150,.slice Ao22 t151.length co22] 41 (0,0)) (by (with_reducible repeat first|apply zN|apply zD|apply zA);refine blk_far ?_ NB156_166.out _;refine blk_far ?_ NB156_166.out _;refine blk_far ?_ NB156_166.out _;refine blk_far ?_ NB156_166.out _;(with_reducible repeat first|apply zN|apply zD|apply zA);exact BK156.out)):gb167 ≠ gb156));have n14_:=Aside0.mk ((by rw [hg];exact Nat.ne_of_lt (blk_lt (g:=gb166) (o:=.cells #[.string t158,.string t159,.int .u64 t160,.slice Ao66 t161.length co66] 41 (0,0)) (by (with_reducible repeat first|apply zN|apply zD|apply zA);refine blk_put (cs:=#[.string t158,.string t159,.int .u64 t160,.slice none 0 0]) ?_ 3 _ rfl;refine blk_put (cs:=#[.string t158,.string t159,.int .u64 0,.slice none 0 0]) ?_ 2 _ rfl;refine blk_put (cs:=#[.string t158,.string ⟨#[]⟩,.int .u64 0,.slice none 0 0]) ?_ 1 _ rfl;refine blk_put (cs:=#[.string ⟨#[]⟩,.string ⟨#[]⟩,.int .u64 0,.slice none 0 0]) ?_ 0 _ rfl;(with_reducible repeat first|apply zN|apply zD|apply zA);exact BK166.out)):gb166 ≠ gb167));have n15_:=Aside0.mk ((by rw [hg];exact Nat.ne_of_gt (blk_lt (g:=gb166) (o:=.cells #[.string t158,.string t159,.int .u64 t160,.slice Ao66 t161.length co66] 41 (0,0)) (by (with_reducible repeat first|apply zN|apply zD|apply zA);refine blk_put (cs:=#[.string t158,.string t159,.int .u64 t160,.slice none 0 0]) ?_ 3 _ rfl;refine blk_put (cs:=#[.string t158,.string t159,.int .u64 0,.slice none 0 0]) ?_ 2 _ rfl;refine blk_put (cs:=#[.string t158,.string ⟨#[]⟩,.int .u64 0,.slice none 0 0]) ?_ 1 _ rfl;refine blk_put (cs:=#[.string ⟨#[]⟩,.string ⟨#[]⟩,.int .u64 0,.slice none 0 0]) ?_ 0 _ rfl;(with_reducible repeat first|apply zN|apply zD|apply zA);exact BK166.out)):gb167 ≠ gb166));clear HO_148003;clear HO_157003;clear HO163;clear BK147;clear BK156;clear BK166;clear HB;have HO_148003:=n0_;have HO_157003:=n1_;have HO163:=n2_;have BK147:=n3_;have BK156:=n4_;have BK166:=n5_;have HB:=n6_;have BK167:=n7_;have GW167:=n8_;have GE167:=n9_;have NB147_167:=n10_;have NB167_147:=n11_;have NB156_167:=n12_;have NB167_156:=n13_;have NB166_167:=n14_;have NB167_166:=n15_;clear n0_ n1_ n2_ n3_ n4_ n5_ n6_ n7_ n8_ n9_ n10_ n11_ n12_ n13_ n14_ n15_;clear hb hbox hg;have hnb70:=NB167_147.out;have hnc70:=NB147_167.out;have hnb71:=NB167_156.out;have hnc71:=NB156_167.out;have hnb72:=NB167_166.out;have hnc72:=NB166_167.out;have hcz73_0:w69.cell? ⟨gb167,0,none⟩ = some (.string ⟨#[]⟩):=(blk_cell BK167.out 0).trans rfl;have hcz73_1:w69.cell? ⟨gb167,1,none⟩ = some (.string ⟨#[]⟩):=(blk_cell BK167.out 1).trans rfl;have hcz73_2:w69.cell? ⟨gb167,2,none⟩ = some (.int .u64 0):=(blk_cell BK167.out 2).trans rfl;have hcz73_3:w69.cell? ⟨gb167,3,none⟩ = some (.slice none 0 0):=(blk_cell BK167.out 3).trans rfl;have hfz73_0:=blk_frozen BK167.out 0;have hfz73_1:=blk_frozen BK167.out 1;have hfz73_2:=blk_frozen BK167.out 2;have hfz73_3:=blk_frozen BK167.out 3))
               have n0_:Aside0 (Kd.N k81 81 ((((w69.setCell ⟨gb167,0,none⟩ (.string t139)).setCell ⟨gb167,1,none⟩ (.string t140)).setCell ⟨gb167,2,none⟩ (.int .u64 t141)).setCell ⟨gb167,3,none⟩ (.slice Ao17 t142.length co17)) w.heap.size (fun k_ => some k_ ≠ (.slice Ao22 t151.length co22:Value).ownBlock ∧ some k_ ≠ (.slice Ao66 t161.length co66:Value).ownBlock ∧ k_ ≠ gb147 ∧ k_ ≠ gb156 ∧ k_ ≠ gb166 ∧ k_ ≠ gb167) (.slice Ao17 t142.length co17) t142):=⟨by (with_reducible repeat first|apply Kd.N_alloc|apply Kd.N_drewN|apply Kd.N_drew);exact Kd.N_mono (Kd.N_far (p:=⟨gb167,3,none⟩) (Kd.N_far (p:=⟨gb167,2,none⟩) (Kd.N_far (p:=⟨gb167,1,none⟩) (Kd.N_far (p:=⟨gb167,0,none⟩) (Kd.N_mono HO_148003.out (fun k_ hk => (⟨hk,hk.2⟩:_ ∧ k_ ≠ gb167))) (fun _ hk => hk.2) (.string t139)) (fun _ hk => hk.2) (.string t140)) (fun _ hk => hk.2) (.int .u64 t141)) (fun _ hk => hk.2) (.slice Ao17 t142.length co17)) (fun _ hk => ⟨hk.1.1.1.1.1,⟨hk.1.1.1.2,⟨hk.1.1.1.1.2.1,⟨hk.1.1.1.1.2.2,⟨hk.1.1.2,hk.1.2⟩⟩⟩⟩⟩)⟩
               have n1_:Aside0 (Kd.N k81 81 ((((w69.setCell ⟨gb167,0,none⟩ (.string t139)).setCell ⟨gb167,1,none⟩ (.string t140)).setCell ⟨gb167,2,none⟩ (.int .u64 t141)).setCell ⟨gb167,3,none⟩ (.slice Ao17 t142.length co17)) w.heap.size (fun k_ => some k_ ≠ (.slice Ao17 t142.length co17:Value).ownBlock ∧ some k_ ≠ (.slice Ao66 t161.length co66:Value).ownBlock ∧ k_ ≠ gb147 ∧ k_ ≠ gb156 ∧ k_ ≠ gb166 ∧ k_ ≠ gb167) (.slice Ao22 t151.length co22) t151):=⟨by (with_reducible repeat first|apply Kd.N_alloc|apply Kd.N_drewN|apply Kd.N_drew);exact Kd.N_mono (Kd.N_far (p:=⟨gb167,3,none⟩) (Kd.N_far (p:=⟨gb167,2,none⟩) (Kd.N_far (p:=⟨gb167,1,none⟩) (Kd.N_far (p:=⟨gb167,0,none⟩) (Kd.N_mono HO_157003.out (fun k_ hk => (⟨hk,hk.2⟩:_ ∧ k_ ≠ gb167))) (fun _ hk => hk.2) (.string t139)) (fun _ hk => hk.2) (.string t140)) (fun _ hk => hk.2) (.int .u64 t141)) (fun _ hk => hk.2) (.slice Ao17 t142.length co17)) (fun _ hk => ⟨hk.1.1.1.1.1,⟨hk.1.1.1.2,⟨hk.1.1.1.1.2.1,⟨hk.1.1.1.1.2.2,⟨hk.1.1.2,hk.1.2⟩⟩⟩⟩⟩)⟩
               have n2_:Aside0 (Kd.N k81 81 ((((w69.setCell ⟨gb167,0,none⟩ (.string t139)).setCell ⟨gb167,1,none⟩ (.string t140)).setCell ⟨gb167,2,none⟩ (.int .u64 t141)).setCell ⟨gb167,3,none⟩ (.slice Ao17 t142.length co17)) w.heap.size (fun k_ => some k_ ≠ (.slice Ao17 t142.length co17:Value).ownBlock ∧ some k_ ≠ (.slice Ao22 t151.length co22:Value).ownBlock ∧ k_ ≠ gb147 ∧ k_ ≠ gb156 ∧ k_ ≠ gb166 ∧ k_ ≠ gb167) (.slice Ao66 t161.length co66) t161):=⟨by (with_reducible repeat first|apply Kd.N_alloc|apply Kd.N_drewN|apply Kd.N_drew);exact Kd.N_mono (Kd.N_far (p:=⟨gb167,3,none⟩) (Kd.N_far (p:=⟨gb167,2,none⟩) (Kd.N_far (p:=⟨gb167,1,none⟩) (Kd.N_far (p:=⟨gb167,0,none⟩) (Kd.N_mono HO163.out (fun k_ hk => (⟨hk,hk.2⟩:_ ∧ k_ ≠ gb167))) (fun _ hk => hk.2) (.string t139)) (fun _ hk => hk.2) (.string t140)) (fun _ hk => hk.2) (.int .u64 t141)) (fun _ hk => hk.2) (.slice Ao17 t142.length co17)) (fun _ hk => ⟨hk.1.1.1.1,⟨hk.1.1.1.2.1,⟨hk.1.1.1.2.2.1,⟨hk.1.1.1.2.2.2,⟨hk.1.1.2,hk.1.2⟩⟩⟩⟩⟩)⟩
               have n3_:Aside0 (((((w69.setCell ⟨gb167,0,none⟩ (.string t139)).setCell ⟨gb167,1,none⟩ (.string t140)).setCell ⟨gb167,2,none⟩ (.int .u64 t141)).setCell ⟨gb167,3,none⟩ (.slice Ao17 t142.length co17)).heap[gb147]? = some (.cells #[.string t139,.string t140,.int .u64 t141,.slice Ao17 t142.length co17] 41 (0,0))):=⟨by (with_reducible repeat first|apply zN|apply zD|apply zA);refine blk_far ?_ NB147_167.out _;refine blk_far ?_ NB147_167.out _;refine blk_far ?_ NB147_167.out _;refine blk_far ?_ NB147_167.out _;(with_reducible repeat first|apply zN|apply zD|apply zA);exact BK147.out⟩
               have n4_:Aside0 (((((w69.setCell ⟨gb167,0,none⟩ (.string t139)).setCell ⟨gb167,1,none⟩ (.string t140)).setCell ⟨gb167,2,none⟩ (.int .u64 t141)).setCell ⟨gb167,3,none⟩ (.slice Ao17 t142.length co17)).heap[gb156]? = some (.cells #[.string t148,.string t149,.int .u64 t150,.slice Ao22 t151.length co22] 41 (0,0))):=⟨by (with_reducible repeat first|apply zN|apply zD|apply zA);refine blk_far ?_ NB156_167.out _;refine blk_far ?_ NB156_167.out _;refine blk_far ?_ NB156_167.out _;refine blk_far ?_ NB156_167.out _;(with_reducible repeat first|apply zN|apply zD|apply zA);exact BK156.out⟩
               have n5_:Aside0 (((((w69.setCell ⟨gb167,0,none⟩ (.string t139)).setCell ⟨gb167,1,none⟩ (.string t140)).setCell ⟨gb167,2,none⟩ (.int .u64 t141)).setCell ⟨gb167,3,none⟩ (.slice Ao17 t142.length co17)).heap[gb166]? = some (.cells #[.string t158,.string t159,.int .u64 t160,.slice Ao66 t161.length co66] 41 (0,0))):=⟨by (with_reducible repeat first|apply zN|apply zD|apply zA);refine blk_far ?_ NB166_167.out _;refine blk_far ?_ NB166_167.out _;refine blk_far ?_ NB166_167.out _;refine blk_far ?_ NB166_167.out _;(with_reducible repeat first|apply zN|apply zD|apply zA);exact BK166.out⟩
               have n6_:Aside0 (((((w69.setCell ⟨gb167,0,none⟩ (.string t139)).setCell ⟨gb167,1,none⟩ (.string t140)).setCell ⟨gb167,2,none⟩ (.int .u64 t141)).setCell ⟨gb167,3,none⟩ (.slice Ao17 t142.length co17)).heap[gb167]? = some (.cells #[.string t139,.string t140,.int .u64 t141,.slice Ao17 t142.length co17] 41 (0,0))):=⟨by (with_reducible repeat first|apply zN|apply zD|apply zA);refine blk_put (cs:=#[.string t139,.string t140,.int .u64 t141,.slice none 0 0]) ?_ 3 _ rfl;refine blk_put (cs:=#[.string t139,.string t140,.int .u64 0,.slice none 0 0]) ?_ 2 _ rfl;refine blk_put (cs:=#[.string t139,.string ⟨#[]⟩,.int .u64 0,.slice none 0 0]) ?_ 1 _ rfl;refine blk_put (cs:=#[.string ⟨#[]⟩,.string ⟨#[]⟩,.int .u64 0,.slice none 0 0]) ?_ 0 _ rfl;(with_reducible repeat first|apply zN|apply zD|apply zA);exact BK167.out⟩
               have n7_:Aside0 (Below w.heap.size w ((((w69.setCell ⟨gb167,0,none⟩ (.string t139)).setCell ⟨gb167,1,none⟩ (.string t140)).setCell ⟨gb167,2,none⟩ (.int .u64 t141)).setCell ⟨gb167,3,none⟩ (.slice Ao17 t142.length co17))):=⟨by repeat (first|(with_reducible first|exact HB.out|apply below_alloc|apply pw_below_drewN|apply below_drew1|refine below_set ?_ GE147.out|refine below_set ?_ GE156.out|refine below_set ?_ GE166.out|refine below_set ?_ GE167.out)|exact HB.out)⟩
               (try clear HO_148003)
               (try clear HO_157003)
               (try clear HO163)
               (try clear BK147)
               (try clear BK156)
               (try clear BK166)
               (try clear BK167)
               (try clear HB)
               generalize ((((w69.setCell ⟨gb167,0,none⟩ (.string t139)).setCell ⟨gb167,1,none⟩ (.string t140)).setCell ⟨gb167,2,none⟩ (.int .u64 t141)).setCell ⟨gb167,3,none⟩ (.slice Ao17 t142.length co17)) = w74 at n0_ n1_ n2_ n3_ n4_ n5_ n6_ n7_ ⊢
               have HO_148003 := n0_
               have HO_157003 := n1_
               have HO163 := n2_
               have BK147 := n3_
               have BK156 := n4_
               have BK166 := n5_
               have BK167 := n6_
               have HB := n7_
               clear n0_ n1_ n2_ n3_ n4_ n5_ n6_ n7_
               have n0_ := Aside0.mk (Kd.N_drew HO_148003.out)
               have n1_ := Aside0.mk (Kd.N_drew HO_157003.out)
               have n2_ := Aside0.mk (Kd.N_drew HO163.out)
               have n3_ := Aside0.mk (blk_drew BK147.out)
               have n4_ := Aside0.mk (blk_drew BK156.out)
               have n5_ := Aside0.mk (blk_drew BK166.out)
               have n6_ := Aside0.mk (blk_drew BK167.out)
               have n7_ := Aside0.mk (below_drew1 HB.out)
               clear HO_148003
               clear HO_157003
               clear HO163
               clear BK147
               clear BK156
               clear BK166
               clear BK167
               clear HB
               have HO_148003 := n0_
               have HO_157003 := n1_
               have HO163 := n2_
               have BK147 := n3_
               have BK156 := n4_
               have BK166 := n5_
               have BK167 := n6_
               have HB := n7_
               clear n0_ n1_ n2_ n3_ n4_ n5_ n6_ n7_
               refine start_ (n:=9) (S:=fun w' => w'.cell? ⟨gb147,0,none⟩ = some (.string t139) ∧ w'.cell? ⟨gb147,1,none⟩ = some (.string t140) ∧ w'.cell? ⟨gb147,2,none⟩ = some (.int .u64 t141) ∧ w'.cell? ⟨gb147,3,none⟩ = some (.slice Ao17 t142.length co17) ∧ w'.cell? ⟨gb156,0,none⟩ = some (.string t148) ∧ w'.cell? ⟨gb156,1,none⟩ = some (.string t149) ∧ w'.cell? ⟨gb156,2,none⟩ = some (.int .u64 t150) ∧ w'.cell? ⟨gb156,3,none⟩ = some (.slice Ao22 t151.length co22)) (ds:=[]) #[false,false,false,false,false,false,false,false,false] (by kernel_rfl) rfl rfl ⟨(blk_cell BK147.out 0).trans rfl,(blk_cell BK147.out 1).trans rfl,(blk_cell BK147.out 2).trans rfl,(blk_cell BK147.out 3).trans rfl,(blk_cell BK156.out 0).trans rfl,(blk_cell BK156.out 1).trans rfl,(blk_cell BK156.out 2).trans rfl,(blk_cell BK156.out 3).trans rfl⟩ (fun hHeld => ?_);refine with_tabW doorwardlaw15_ParseRules.tab8 doorwardlaw15_ParseRules.bits8 (fun HT_ HW_ => ?_)
               generalize w74.drew = w75 at HO_148003 HO_157003 HO163 BK147 BK156 BK166 BK167 HB hHeld ⊢
               refine pure_ (i:=1) (N:=some 56) (v:=?_) (a':=?_) #[false,true,false,false,false,false,false,false,false] rfl rfl (any_of HT_.out (by kernel_rfl)) (fun _ _ _ h => h) (Or.inl ⟨by rfl,?_⟩) ?_ ?_
               rotate_left
               ·intro w'
                go_simp
                with_reducible rfl
               rotate_left
               ·simp only [Act.put, List.setIfInBounds_toArray, List.set_cons_zero, List.set_cons_succ, i64_w, i32_w]
                rfl
               refine pure_ (i:=4) (N:=some 59) (v:=?_) (a':=?_) #[false,true,false,false,true,false,false,false,false] rfl rfl (any_of HT_.out (by kernel_rfl)) (fun _ _ _ h => h) (Or.inl ⟨by rfl,?_⟩) ?_ ?_
               rotate_left
               ·intro w'
                go_simp
                with_reducible rfl
               rotate_left
               ·simp only [Act.put, List.setIfInBounds_toArray, List.set_cons_zero, List.set_cons_succ, i64_w, i32_w]
                rfl
               refine take_ (i:=2) (N:=some 57) (v:=?_) (a':=?_) #[false,true,true,false,true,false,false,false,false] rfl rfl (take_ofW HT_.out HW_.out (by kernel_rfl)) (fun _ _ _ h => h) (Or.inl ⟨by rfl,?_⟩) hHeld ?_ ?_
               rotate_left
               ·rintro w' ⟨s0, s1, s2, s3, s4, s5, s6, s7⟩
                go_simp
                with_reducible rfl
               rotate_left
               ·simp only [Act.put, List.setIfInBounds_toArray, List.set_cons_zero, List.set_cons_succ, i64_w, i32_w]
                rfl
               refine take_ (i:=5) (N:=some 60) (v:=?_) (a':=?_) #[false,true,true,false,true,true,false,false,false] rfl rfl (take_ofW HT_.out HW_.out (by kernel_rfl)) (fun _ _ _ h => h) (Or.inl ⟨by rfl,?_⟩) hHeld ?_ ?_
               rotate_left
               ·rintro w' ⟨s0, s1, s2, s3, s4, s5, s6, s7⟩
                go_simp
                with_reducible rfl
               rotate_left
               ·simp only [Act.put, List.setIfInBounds_toArray, List.set_cons_zero, List.set_cons_succ, i64_w, i32_w]
                rfl
               refine one_ (i := 0) (N := some 55) #[true, true, true, false, true, true, false, false, false] rfl rfl (one_of HT_.out (by kernel_rfl)) (by decide) (fun K hK => ?_)
               refine Kd.N_lit_step k81 _ 81 ?hg (N':=55) ?hd (xs:=([]:List (S81))) (inner:=[]) (ok:=(fun k_ => some k_ ≠ (.slice Ao17 t142.length co17:Value).ownBlock ∧ some k_ ≠ (.slice Ao22 t151.length co22:Value).ownBlock ∧ some k_ ≠ (.slice Ao66 t161.length co66:Value).ownBlock ∧ k_ ≠ gb147 ∧ k_ ≠ gb156 ∧ k_ ≠ gb166 ∧ k_ ≠ gb167)) (okp:=(fun k_ => some k_ ≠ (.slice Ao17 t142.length co17:Value).ownBlock ∧ some k_ ≠ (.slice Ao22 t151.length co22:Value).ownBlock ∧ some k_ ≠ (.slice Ao66 t161.length co66:Value).ownBlock ∧ k_ ≠ gb147 ∧ k_ ≠ gb156 ∧ k_ ≠ gb166 ∧ k_ ≠ gb167)) ?hr ?hp (fun _ hk => hk) ((show ∀ k_,w75.heap.size ≤ k_ → (fun k_ => some k_ ≠ (.slice Ao17 t142.length co17:Value).ownBlock ∧ some k_ ≠ (.slice Ao22 t151.length co22:Value).ownBlock ∧ some k_ ≠ (.slice Ao66 t161.length co66:Value).ownBlock ∧ k_ ≠ gb147 ∧ k_ ≠ gb156 ∧ k_ ≠ gb166 ∧ k_ ≠ gb167) k_ from fun k_ hk => ⟨Kd.fresh' (Kd.N_lt (by (with_reducible repeat first|apply Kd.N_alloc|apply Kd.N_drewN|apply Kd.N_drew);exact HO_148003.out)) k_ hk,Kd.fresh' (Kd.N_lt (by (with_reducible repeat first|apply Kd.N_alloc|apply Kd.N_drewN|apply Kd.N_drew);exact HO_157003.out)) k_ hk,Kd.fresh' (Kd.N_lt (by (with_reducible repeat first|apply Kd.N_alloc|apply Kd.N_drewN|apply Kd.N_drew);exact HO163.out)) k_ hk,Kd.freshB (g:=gb147) (o:=.cells #[.string t139,.string t140,.int .u64 t141,.slice Ao17 t142.length co17] 41 (0,0)) (by (with_reducible repeat first|apply zN|apply zD|apply zA);exact BK147.out) k_ hk,Kd.freshB (g:=gb156) (o:=.cells #[.string t148,.string t149,.int .u64 t150,.slice Ao22 t151.length co22] 41 (0,0)) (by (with_reducible repeat first|apply zN|apply zD|apply zA);exact BK156.out) k_ hk,Kd.freshB (g:=gb166) (o:=.cells #[.string t158,.string t159,.int .u64 t160,.slice Ao66 t161.length co66] 41 (0,0)) (by (with_reducible repeat first|apply zN|apply zD|apply zA);exact BK166.out) k_ hk,Kd.freshB (g:=gb167) (o:=.cells #[.string t139,.string t140,.int .u64 t141,.slice Ao17 t142.length co17] 41 (0,0)) (by (with_reducible repeat first|apply zN|apply zD|apply zA);exact BK167.out) k_ hk⟩) _ (Nat.le_refl _)) (Below.refl _ _) (Nat.le_refl _) (by simp) ?_;(case hd => rfl);(case hg => rfl);(case hr => first|(go_simp;done)|(go_simp;rfl));(case hp => exact (Reps.none _ _))
               intro v169 w76 ho77 hb hg_ hnew_
               clear hg_ hnew_
               (first | rw [← Ny168.out] at ho77 | (simp only [Int.reduceToNat] at ho77; rw [← Ny168.out] at ho77))
               have n0_ := Aside0.mk (Kd.N_elder' (by (with_reducible repeat (first | apply Kd.N_alloc | apply Kd.N_drewN | apply Kd.N_drew)); exact HO_148003.out) (by first|exact Kd.R_base ho77|exact Kd.N_base ho77) hb)
               have n1_ := Aside0.mk (Kd.N_elder' (by (with_reducible repeat (first | apply Kd.N_alloc | apply Kd.N_drewN | apply Kd.N_drew)); exact HO_157003.out) (by first|exact Kd.R_base ho77|exact Kd.N_base ho77) hb)
               have n2_ := Aside0.mk (Kd.N_elder' (by (with_reducible repeat (first | apply Kd.N_alloc | apply Kd.N_drewN | apply Kd.N_drew)); exact HO163.out) (by first|exact Kd.R_base ho77|exact Kd.N_base ho77) hb)
               have n3_:=Aside0.mk (Kd.N_lower ho77 (below_size (by repeat (first|(with_reducible first|exact HB.out|apply below_alloc|apply pw_below_drewN|apply below_drew1|refine below_set ?_ GE147.out|refine below_set ?_ GE156.out|refine below_set ?_ GE166.out|refine below_set ?_ GE167.out)|exact HB.out))))
               have n4_:=Aside0.mk (blk_below (g:=gb147) (o:=.cells #[.string t139,.string t140,.int .u64 t141,.slice Ao17 t142.length co17] 41 (0,0)) (by (with_reducible repeat first|apply zN|apply zD|apply zA);exact BK147.out) hb)
               have n5_:=Aside0.mk (blk_below (g:=gb156) (o:=.cells #[.string t148,.string t149,.int .u64 t150,.slice Ao22 t151.length co22] 41 (0,0)) (by (with_reducible repeat first|apply zN|apply zD|apply zA);exact BK156.out) hb)
               have n6_:=Aside0.mk (blk_below (g:=gb166) (o:=.cells #[.string t158,.string t159,.int .u64 t160,.slice Ao66 t161.length co66] 41 (0,0)) (by (with_reducible repeat first|apply zN|apply zD|apply zA);exact BK166.out) hb)
               have n7_:=Aside0.mk (blk_below (g:=gb167) (o:=.cells #[.string t139,.string t140,.int .u64 t141,.slice Ao17 t142.length co17] 41 (0,0)) (by (with_reducible repeat first|apply zN|apply zD|apply zA);exact BK167.out) hb)
               have n8_:=Aside0.mk (below_step (by repeat (first|(with_reducible first|exact HB.out|apply below_alloc|apply pw_below_drewN|apply below_drew1|refine below_set ?_ GE147.out|refine below_set ?_ GE156.out|refine below_set ?_ GE166.out|refine below_set ?_ GE167.out)|exact HB.out)) hb)
               clear HO_148003
               clear HO_157003
               clear HO163
               clear BK147
               clear BK156
               clear BK166
               clear BK167
               clear HB
               have HO_148003 := n0_
               have HO_157003 := n1_
               have HO163 := n2_
               have HO170 := n3_
               have BK147 := n4_
               have BK156 := n5_
               have BK166 := n6_
               have BK167 := n7_
               have HB := n8_
               clear n0_ n1_ n2_ n3_ n4_ n5_ n6_ n7_ n8_
               clear hb ho77
               refine hK.out _ _ ⟨(blk_cell BK147.out 0).trans rfl,(blk_cell BK147.out 1).trans rfl,(blk_cell BK147.out 2).trans rfl,(blk_cell BK147.out 3).trans rfl,(blk_cell BK156.out 0).trans rfl,(blk_cell BK156.out 1).trans rfl,(blk_cell BK156.out 2).trans rfl,(blk_cell BK156.out 3).trans rfl⟩ (fun hHeld => ?_)
               clear hK K
               refine norm_ (a' := ?_) ?_ ?_
               rotate_left
               ·show Act.put _ (some 55) _ = _
                simp only [Act.put, List.setIfInBounds_toArray, List.set_cons_zero, List.set_cons_succ, i64_w, i32_w]
                rfl
               refine one_ (i := 3) (N := some 58) #[true, true, true, true, true, true, false, false, false] rfl rfl (one_of HT_.out (by kernel_rfl)) (by decide) (fun K hK => ?_)
               refine Kd.N_append_rows_step k81 (w0:=w) w.heap.size (by rfl) (.tmp 55) (.tmp 57) 39 81 (.agg #[(.string ⟨#[]⟩),(.int .u64 0),(.slice none 0 0),(.int .i64 0),(.slice none 0 0),(.int .i64 0),(.int .u64 0),(.string ⟨#[]⟩),(.int .u64 0)]) 120 rfl Tryd.underlying39 info81 rfl (by decide) (by omega) v169 y168 t142 _ _ _ (fun k_ => some k_ ≠ (.slice Ao22 t151.length co22:Value).ownBlock ∧ some k_ ≠ (.slice Ao66 t161.length co66:Value).ownBlock ∧ k_ ≠ gb147 ∧ k_ ≠ gb156 ∧ k_ ≠ gb166 ∧ k_ ≠ gb167) (fun k_ => ((fun k_ => some k_ ≠ (.slice Ao22 t151.length co22:Value).ownBlock ∧ some k_ ≠ (.slice Ao66 t161.length co66:Value).ownBlock ∧ k_ ≠ gb147 ∧ k_ ≠ gb156 ∧ k_ ≠ gb166 ∧ k_ ≠ gb167)) k_ ∧ some k_ ≠ (v169:Value).ownBlock) rfl rfl ?aO ?aR (fun _ hk => hk) ?aF ?aB ?aS ?aL ?_
               (case aR => exact (by skip;exact Kd.N_F (Kd.N_mono (ok':=(fun k_ => ((fun k_ => some k_ ≠ (.slice Ao22 t151.length co22:Value).ownBlock ∧ some k_ ≠ (.slice Ao66 t161.length co66:Value).ownBlock ∧ k_ ≠ gb147 ∧ k_ ≠ gb156 ∧ k_ ≠ gb166 ∧ k_ ≠ gb167)) k_ ∧ some k_ ≠ (v169:Value).ownBlock)) (HO_148003.out) (fun k_ hk => ⟨⟨hk.1.1,⟨hk.1.2.1,⟨hk.1.2.2.1,⟨hk.1.2.2.2.1,⟨hk.1.2.2.2.2.1,hk.1.2.2.2.2.2⟩⟩⟩⟩⟩,hk.2⟩))))
               (case aB => exact (by repeat (first|(with_reducible first|exact HB.out|apply below_alloc|apply pw_below_drewN|apply below_drew1|refine below_set ?_ GE147.out|refine below_set ?_ GE156.out|refine below_set ?_ GE166.out|refine below_set ?_ GE167.out)|exact HB.out)))
               (case aF => exact (fun k_ hk => ⟨Kd.fresh' (Kd.N_lt (by (with_reducible repeat first|apply Kd.N_alloc|apply Kd.N_drewN|apply Kd.N_drew);exact HO_157003.out)) k_ hk,Kd.fresh' (Kd.N_lt (by (with_reducible repeat first|apply Kd.N_alloc|apply Kd.N_drewN|apply Kd.N_drew);exact HO163.out)) k_ hk,Kd.freshB (g:=gb147) (o:=.cells #[.string t139,.string t140,.int .u64 t141,.slice Ao17 t142.length co17] 41 (0,0)) (by (with_reducible repeat first|apply zN|apply zD|apply zA);exact BK147.out) k_ hk,Kd.freshB (g:=gb156) (o:=.cells #[.string t148,.string t149,.int .u64 t150,.slice Ao22 t151.length co22] 41 (0,0)) (by (with_reducible repeat first|apply zN|apply zD|apply zA);exact BK156.out) k_ hk,Kd.freshB (g:=gb166) (o:=.cells #[.string t158,.string t159,.int .u64 t160,.slice Ao66 t161.length co66] 41 (0,0)) (by (with_reducible repeat first|apply zN|apply zD|apply zA);exact BK166.out) k_ hk,Kd.freshB (g:=gb167) (o:=.cells #[.string t139,.string t140,.int .u64 t141,.slice Ao17 t142.length co17] 41 (0,0)) (by (with_reducible repeat first|apply zN|apply zD|apply zA);exact BK167.out) k_ hk⟩))
               (case aO => exact (by (with_reducible repeat first|apply Kd.N_alloc|apply Kd.N_drewN|apply Kd.N_drew);exact Kd.N_mono HO170.out (fun _ hk => ⟨hk.2.1,⟨hk.2.2.1,⟨hk.2.2.2.1,⟨hk.2.2.2.2.1,⟨hk.2.2.2.2.2.1,hk.2.2.2.2.2.2⟩⟩⟩⟩⟩)))
               (case aS => exact (below_size (by repeat (first|(with_reducible first|exact HB.out|apply below_alloc|apply pw_below_drewN|apply below_drew1|refine below_set ?_ GE147.out|refine below_set ?_ GE156.out|refine below_set ?_ GE166.out|refine below_set ?_ GE167.out)|exact HB.out))))
               (case aL => have := LMc30.out; omega)
               intro v172 w78 ho hb hg hat
               rw [← Ny171.out] at ho
               have n0_:=Aside0.mk (Kd.N_afterv (ok:=(fun k_ => some k_ ≠ (.slice Ao22 t151.length co22:Value).ownBlock ∧ some k_ ≠ (.slice Ao66 t161.length co66:Value).ownBlock ∧ k_ ≠ gb147 ∧ k_ ≠ gb156 ∧ k_ ≠ gb166 ∧ k_ ≠ gb167)) (by (with_reducible repeat first|apply Kd.N_alloc|apply Kd.N_drewN|apply Kd.N_drew);exact HO_148003.out) hg hat)
               have n1_:=Aside0.mk (Kd.N_afterv (ok:=(fun k_ => some k_ ≠ (.slice Ao17 t142.length co17:Value).ownBlock ∧ some k_ ≠ (.slice Ao66 t161.length co66:Value).ownBlock ∧ k_ ≠ gb147 ∧ k_ ≠ gb156 ∧ k_ ≠ gb166 ∧ k_ ≠ gb167)) (by (with_reducible repeat first|apply Kd.N_alloc|apply Kd.N_drewN|apply Kd.N_drew);exact HO_157003.out) hg hat)
               have n2_:=Aside0.mk (blk_grown (g:=gb147) (o:=.cells #[.string t139,.string t140,.int .u64 t141,.slice Ao17 t142.length co17] 41 (0,0)) (by (with_reducible repeat first|apply zN|apply zD|apply zA);exact BK147.out) hg (Kd.N_ne HO170.out BK147.out (by decide)))
               have n3_:=Aside0.mk (blk_grown (g:=gb156) (o:=.cells #[.string t148,.string t149,.int .u64 t150,.slice Ao22 t151.length co22] 41 (0,0)) (by (with_reducible repeat first|apply zN|apply zD|apply zA);exact BK156.out) hg (Kd.N_ne HO170.out BK156.out (by decide)))
               have n4_:=Aside0.mk (Kd.N_afterv (ok:=(fun k_ => some k_ ≠ (.slice Ao17 t142.length co17:Value).ownBlock ∧ some k_ ≠ (.slice Ao22 t151.length co22:Value).ownBlock ∧ k_ ≠ gb147 ∧ k_ ≠ gb156 ∧ k_ ≠ gb166 ∧ k_ ≠ gb167)) (by (with_reducible repeat first|apply Kd.N_alloc|apply Kd.N_drewN|apply Kd.N_drew);exact HO163.out) hg hat)
               have n5_:=Aside0.mk (blk_grown (g:=gb166) (o:=.cells #[.string t158,.string t159,.int .u64 t160,.slice Ao66 t161.length co66] 41 (0,0)) (by (with_reducible repeat first|apply zN|apply zD|apply zA);exact BK166.out) hg (Kd.N_ne HO170.out BK166.out (by decide)))
               have n6_:=Aside0.mk (blk_grown (g:=gb167) (o:=.cells #[.string t139,.string t140,.int .u64 t141,.slice Ao17 t142.length co17] 41 (0,0)) (by (with_reducible repeat first|apply zN|apply zD|apply zA);exact BK167.out) hg (Kd.N_ne HO170.out BK167.out (by decide)))
               have n7_ := Aside0.mk (hb)
               have n8_ := Aside0.mk (ho)
               clear HO_148003
               clear HO_157003
               clear BK147
               clear BK156
               clear HO163
               clear BK166
               clear BK167
               clear HB
               clear HO170
               have HO_148003 := n0_
               have HO_157003 := n1_
               have BK147 := n2_
               have BK156 := n3_
               have HO163 := n4_
               have BK166 := n5_
               have BK167 := n6_
               have HB := n7_
               have HO173 := n8_
               clear n0_ n1_ n2_ n3_ n4_ n5_ n6_ n7_ n8_
               clear ho hb hg hat
               refine hK.out _ _ ⟨(blk_cell BK147.out 0).trans rfl,(blk_cell BK147.out 1).trans rfl,(blk_cell BK147.out 2).trans rfl,(blk_cell BK147.out 3).trans rfl,(blk_cell BK156.out 0).trans rfl,(blk_cell BK156.out 1).trans rfl,(blk_cell BK156.out 2).trans rfl,(blk_cell BK156.out 3).trans rfl⟩ (fun hHeld => ?_)
               clear hK K
               refine norm_ (a' := ?_) ?_ ?_
               rotate_left
               ·show Act.put _ (some 58) _ = _
                simp only [Act.put, List.setIfInBounds_toArray, List.set_cons_zero, List.set_cons_succ, i64_w, i32_w]
                rfl
               refine one_ (i := 6) (N := some 61) #[true, true, true, true, true, true, true, false, false] rfl rfl (one_of HT_.out (by kernel_rfl)) (by decide) (fun K hK => ?_)
               refine Kd.N_append_rows_step k81 (w0:=w) w.heap.size (by rfl) (.tmp 58) (.tmp 60) 39 81 (.agg #[(.string ⟨#[]⟩),(.int .u64 0),(.slice none 0 0),(.int .i64 0),(.slice none 0 0),(.int .i64 0),(.int .u64 0),(.string ⟨#[]⟩),(.int .u64 0)]) 120 rfl Tryd.underlying39 info81 rfl (by decide) (by omega) v172 y171 t151 _ _ _ (fun k_ => some k_ ≠ (.slice Ao66 t161.length co66:Value).ownBlock ∧ k_ ≠ gb147 ∧ k_ ≠ gb156 ∧ k_ ≠ gb166 ∧ k_ ≠ gb167) (fun k_ => ((fun k_ => some k_ ≠ (.slice Ao66 t161.length co66:Value).ownBlock ∧ k_ ≠ gb147 ∧ k_ ≠ gb156 ∧ k_ ≠ gb166 ∧ k_ ≠ gb167)) k_ ∧ some k_ ≠ (v172:Value).ownBlock) rfl rfl ?aO ?aR (fun _ hk => hk) ?aF ?aB ?aS ?aL ?_
               (case aR => exact (by skip;exact Kd.N_F (Kd.N_mono (ok':=(fun k_ => ((fun k_ => some k_ ≠ (.slice Ao66 t161.length co66:Value).ownBlock ∧ k_ ≠ gb147 ∧ k_ ≠ gb156 ∧ k_ ≠ gb166 ∧ k_ ≠ gb167)) k_ ∧ some k_ ≠ (v172:Value).ownBlock)) (HO_157003.out) (fun k_ hk => ⟨⟨hk.1.2.1,⟨hk.1.2.2.1,⟨hk.1.2.2.2.1,⟨hk.1.2.2.2.2.1,hk.1.2.2.2.2.2⟩⟩⟩⟩,hk.2⟩))))
               (case aB => exact (by repeat (first|(with_reducible first|exact HB.out|apply below_alloc|apply pw_below_drewN|apply below_drew1|refine below_set ?_ GE147.out|refine below_set ?_ GE156.out|refine below_set ?_ GE166.out|refine below_set ?_ GE167.out)|exact HB.out)))
               (case aF => exact (fun k_ hk => ⟨Kd.fresh' (Kd.N_lt (by (with_reducible repeat first|apply Kd.N_alloc|apply Kd.N_drewN|apply Kd.N_drew);exact HO163.out)) k_ hk,Kd.freshB (g:=gb147) (o:=.cells #[.string t139,.string t140,.int .u64 t141,.slice Ao17 t142.length co17] 41 (0,0)) (by (with_reducible repeat first|apply zN|apply zD|apply zA);exact BK147.out) k_ hk,Kd.freshB (g:=gb156) (o:=.cells #[.string t148,.string t149,.int .u64 t150,.slice Ao22 t151.length co22] 41 (0,0)) (by (with_reducible repeat first|apply zN|apply zD|apply zA);exact BK156.out) k_ hk,Kd.freshB (g:=gb166) (o:=.cells #[.string t158,.string t159,.int .u64 t160,.slice Ao66 t161.length co66] 41 (0,0)) (by (with_reducible repeat first|apply zN|apply zD|apply zA);exact BK166.out) k_ hk,Kd.freshB (g:=gb167) (o:=.cells #[.string t139,.string t140,.int .u64 t141,.slice Ao17 t142.length co17] 41 (0,0)) (by (with_reducible repeat first|apply zN|apply zD|apply zA);exact BK167.out) k_ hk⟩))
               (case aO => exact (by (with_reducible repeat first|apply Kd.N_alloc|apply Kd.N_drewN|apply Kd.N_drew);exact Kd.N_mono HO173.out (fun _ hk => ⟨hk.2.1,⟨hk.2.2.1,⟨hk.2.2.2.1,⟨hk.2.2.2.2.1,hk.2.2.2.2.2⟩⟩⟩⟩)))
               (case aS => exact (below_size (by repeat (first|(with_reducible first|exact HB.out|apply below_alloc|apply pw_below_drewN|apply below_drew1|refine below_set ?_ GE147.out|refine below_set ?_ GE156.out|refine below_set ?_ GE166.out|refine below_set ?_ GE167.out)|exact HB.out))))
               (case aL => have := LMc31.out; omega)
               intro v175 w79 ho hb hg hat
               rw [← Ny174.out] at ho
               have n0_:=Aside0.mk (Kd.N_afterv (ok:=(fun k_ => some k_ ≠ (.slice Ao22 t151.length co22:Value).ownBlock ∧ some k_ ≠ (.slice Ao66 t161.length co66:Value).ownBlock ∧ k_ ≠ gb147 ∧ k_ ≠ gb156 ∧ k_ ≠ gb166 ∧ k_ ≠ gb167)) (by (with_reducible repeat first|apply Kd.N_alloc|apply Kd.N_drewN|apply Kd.N_drew);exact HO_148003.out) hg hat)
               have n1_:=Aside0.mk (Kd.N_afterv (ok:=(fun k_ => some k_ ≠ (.slice Ao17 t142.length co17:Value).ownBlock ∧ some k_ ≠ (.slice Ao66 t161.length co66:Value).ownBlock ∧ k_ ≠ gb147 ∧ k_ ≠ gb156 ∧ k_ ≠ gb166 ∧ k_ ≠ gb167)) (by (with_reducible repeat first|apply Kd.N_alloc|apply Kd.N_drewN|apply Kd.N_drew);exact HO_157003.out) hg hat)
               have n2_:=Aside0.mk (blk_grown (g:=gb147) (o:=.cells #[.string t139,.string t140,.int .u64 t141,.slice Ao17 t142.length co17] 41 (0,0)) (by (with_reducible repeat first|apply zN|apply zD|apply zA);exact BK147.out) hg (Kd.N_ne HO173.out BK147.out (by decide)))
               have n3_:=Aside0.mk (blk_grown (g:=gb156) (o:=.cells #[.string t148,.string t149,.int .u64 t150,.slice Ao22 t151.length co22] 41 (0,0)) (by (with_reducible repeat first|apply zN|apply zD|apply zA);exact BK156.out) hg (Kd.N_ne HO173.out BK156.out (by decide)))
               have n4_:=Aside0.mk (Kd.N_afterv (ok:=(fun k_ => some k_ ≠ (.slice Ao17 t142.length co17:Value).ownBlock ∧ some k_ ≠ (.slice Ao22 t151.length co22:Value).ownBlock ∧ k_ ≠ gb147 ∧ k_ ≠ gb156 ∧ k_ ≠ gb166 ∧ k_ ≠ gb167)) (by (with_reducible repeat first|apply Kd.N_alloc|apply Kd.N_drewN|apply Kd.N_drew);exact HO163.out) hg hat)
               have n5_:=Aside0.mk (blk_grown (g:=gb166) (o:=.cells #[.string t158,.string t159,.int .u64 t160,.slice Ao66 t161.length co66] 41 (0,0)) (by (with_reducible repeat first|apply zN|apply zD|apply zA);exact BK166.out) hg (Kd.N_ne HO173.out BK166.out (by decide)))
               have n6_:=Aside0.mk (blk_grown (g:=gb167) (o:=.cells #[.string t139,.string t140,.int .u64 t141,.slice Ao17 t142.length co17] 41 (0,0)) (by (with_reducible repeat first|apply zN|apply zD|apply zA);exact BK167.out) hg (Kd.N_ne HO173.out BK167.out (by decide)))
               have n7_ := Aside0.mk (hb)
               have n8_ := Aside0.mk (ho)
               clear HO_148003
               clear HO_157003
               clear BK147
               clear BK156
               clear HO163
               clear BK166
               clear BK167
               clear HB
               clear HO173
               have HO_148003 := n0_
               have HO_157003 := n1_
               have BK147 := n2_
               have BK156 := n3_
               have HO163 := n4_
               have BK166 := n5_
               have BK167 := n6_
               have HB := n7_
               have HO176 := n8_
               clear n0_ n1_ n2_ n3_ n4_ n5_ n6_ n7_ n8_
               clear ho hb hg hat
               obtain ⟨Ao80, co80, eo80⟩ := Kd.N_slice HO176.out
               (first | subst eo80 | (injection eo80 with f1_ f2_ f3_; have f4_ := f1_.symm; have f5_ := f3_.symm; clear f1_ f2_ f3_; subst f4_; subst f5_))
               refine hK.out _ _ ⟨(blk_cell BK147.out 0).trans rfl,(blk_cell BK147.out 1).trans rfl,(blk_cell BK147.out 2).trans rfl,(blk_cell BK147.out 3).trans rfl,(blk_cell BK156.out 0).trans rfl,(blk_cell BK156.out 1).trans rfl,(blk_cell BK156.out 2).trans rfl,(blk_cell BK156.out 3).trans rfl⟩ (fun hHeld => ?_)
               clear hK K
               refine norm_ (a' := ?_) ?_ ?_
               rotate_left
               ·show Act.put _ (some 61) _ = _
                simp only [Act.put, List.setIfInBounds_toArray, List.set_cons_zero, List.set_cons_succ, i64_w, i32_w]
                rfl
               refine pure_ (i:=7) (N:=some 62) (v:=?_) (a':=?_) #[true,true,true,true,true,true,true,true,false] rfl rfl (any_of HT_.out (by kernel_rfl)) (fun _ _ _ h => h) (Or.inl ⟨by rfl,?_⟩) ?_ ?_
               rotate_left
               ·intro w'
                go_simp
                with_reducible rfl
               rotate_left
               ·simp only [Act.put, List.setIfInBounds_toArray, List.set_cons_zero, List.set_cons_succ, i64_w, i32_w]
                rfl
               refine one_ (i := 8) (N := none) #[true, true, true, true, true, true, true, true, true] rfl rfl (one_of HT_.out (by kernel_rfl)) (by decide) (fun K hK => ?_)
               have hs81 : w79.cell? ⟨gb167, 3, none⟩ = some (.slice Ao17 t142.length co17) := (blk_cell BK167.out 3).trans rfl
               have hfs81 := blk_frozen BK167.out 3
               have hns81_0 := NB147_167.out
               have hns81_1 := NB156_167.out
               have hns81_2 := NB166_167.out
               have hms81_0 := NB167_147.out
               have hms81_1 := NB167_156.out
               have hms81_2 := NB167_166.out
               refine skip_ (w1 := ?_) (by rfl) rfl ?_ ?_
               rotate_left
               ·go_simp
                rfl
               refine hK.out _ _ ⟨((cell_far (p:=⟨gb167,_,none⟩) NB147_167.out _).trans (hHeld.1)),((cell_far (p:=⟨gb167,_,none⟩) NB147_167.out _).trans (hHeld.2.1)),((cell_far (p:=⟨gb167,_,none⟩) NB147_167.out _).trans (hHeld.2.2.1)),((cell_far (p:=⟨gb167,_,none⟩) NB147_167.out _).trans (hHeld.2.2.2.1)),((cell_far (p:=⟨gb167,_,none⟩) NB156_167.out _).trans (hHeld.2.2.2.2.1)),((cell_far (p:=⟨gb167,_,none⟩) NB156_167.out _).trans (hHeld.2.2.2.2.2.1)),((cell_far (p:=⟨gb167,_,none⟩) NB156_167.out _).trans (hHeld.2.2.2.2.2.2.1)),((cell_far (p:=⟨gb167,_,none⟩) NB156_167.out _).trans (hHeld.2.2.2.2.2.2.2))⟩ (fun hHeld => ?_)
               clear hK K
               refine done_ (done_of HT_.out (by kernel_rfl)) ?_
               try go_wp2_with (first|((with_reducible refine gate_callee (f:=23) rfl ?_);refine goesL_ (some 63) rfl rfl Tryd.func23 (by kernel_rfl) rfl #[] rfl (by (try simp only [List.map_toArray,List.map_cons,List.map_nil]);first|done|rfl|(simp only [List.length_drop,List.length_take];rfl)) ?_;(with_reducible refine (doorwardlaw15_alive.calls  true _ ?side1 A32.out).mono ?_);(case side1 => exact LaidAt.of HLD.out (by repeat (first|(with_reducible first|exact HB.out|apply below_alloc|apply pw_below_drewN|apply below_drew1|refine below_set ?_ GE147.out|refine below_set ?_ GE156.out|refine below_set ?_ GE166.out|refine below_set ?_ GE167.out)|exact HB.out)));rintro e w82 ⟨rfl,hb⟩;refine ⟨_,rfl,?_⟩;have n0_:=Aside0.mk (Kd.N_below (by (with_reducible repeat first|apply Kd.N_alloc|apply Kd.N_drewN|apply Kd.N_drew);exact (Kd.N_mono (Kd.N_far (p:=⟨gb167,3,none⟩) (Kd.N_mono HO_148003.out (fun k_ hk => (⟨hk,hk.1.2.2.2.2.2⟩:_ ∧ k_ ≠ gb167))) (fun _ hk => hk.2) (.slice Ao80 y174.length co80)) (fun _ h_ => h_.1))) hb);have n1_:=Aside0.mk (Kd.N_below (by (with_reducible repeat first|apply Kd.N_alloc|apply Kd.N_drewN|apply Kd.N_drew);exact (Kd.N_mono (Kd.N_far (p:=⟨gb167,3,none⟩) (Kd.N_mono HO_157003.out (fun k_ hk => (⟨hk,hk.1.2.2.2.2.2⟩:_ ∧ k_ ≠ gb167))) (fun _ hk => hk.2) (.slice Ao80 y174.length co80)) (fun _ h_ => h_.1))) hb);have n2_:=Aside0.mk (Kd.N_below (by (with_reducible repeat first|apply Kd.N_alloc|apply Kd.N_drewN|apply Kd.N_drew);exact (Kd.N_mono (Kd.N_far (p:=⟨gb167,3,none⟩) (Kd.N_mono HO163.out (fun k_ hk => (⟨hk,hk.1.2.2.2.2.2⟩:_ ∧ k_ ≠ gb167))) (fun _ hk => hk.2) (.slice Ao80 y174.length co80)) (fun _ h_ => h_.1))) hb);have n3_:=Aside0.mk (Kd.N_below (by (with_reducible repeat first|apply Kd.N_alloc|apply Kd.N_drewN|apply Kd.N_drew);exact (Kd.N_mono (Kd.N_far (p:=⟨gb167,3,none⟩) (Kd.N_mono HO176.out (fun k_ hk => (⟨hk,hk.2.2.2.2⟩:_ ∧ k_ ≠ gb167))) (fun _ hk => hk.2) (.slice Ao80 y174.length co80)) (fun _ h_ => h_.1))) hb);have n4_:=Aside0.mk (blk_below (g:=gb147) (o:=.cells #[.string t139,.string t140,.int .u64 t141,.slice Ao17 t142.length co17] 41 (0,0)) (by (with_reducible repeat first|apply zN|apply zD|apply zA);refine blk_far ?_ NB147_167.out _;(with_reducible repeat first|apply zN|apply zD|apply zA);exact BK147.out) hb);have n5_:=Aside0.mk (blk_below (g:=gb156) (o:=.cells #[.string t148,.string t149,.int .u64 t150,.slice Ao22 t151.length co22] 41 (0,0)) (by (with_reducible repeat first|apply zN|apply zD|apply zA);refine blk_far ?_ NB156_167.out _;(with_reducible repeat first|apply zN|apply zD|apply zA);exact BK156.out) hb);have n6_:=Aside0.mk (blk_below (g:=gb166) (o:=.cells #[.string t158,.string t159,.int .u64 t160,.slice Ao66 t161.length co66] 41 (0,0)) (by (with_reducible repeat first|apply zN|apply zD|apply zA);refine blk_far ?_ NB166_167.out _;(with_reducible repeat first|apply zN|apply zD|apply zA);exact BK166.out) hb);have n7_:=Aside0.mk (blk_below (g:=gb167) (o:=.cells #[.string t139,.string t140,.int .u64 t141,.slice Ao80 y174.length co80] 41 (0,0)) (by (with_reducible repeat first|apply zN|apply zD|apply zA);refine blk_put (cs:=#[.string t139,.string t140,.int .u64 t141,.slice Ao17 t142.length co17]) ?_ 3 _ rfl;(with_reducible repeat first|apply zN|apply zD|apply zA);exact BK167.out) hb);have n8_:=Aside0.mk (below_step (by repeat (first|(with_reducible first|exact HB.out|apply below_alloc|apply pw_below_drewN|apply below_drew1|refine below_set ?_ GE147.out|refine below_set ?_ GE156.out|refine below_set ?_ GE166.out|refine below_set ?_ GE167.out)|exact HB.out)) hb);clear HO_148003;clear HO_157003;clear HO163;clear HO176;clear BK147;clear BK156;clear BK166;clear BK167;clear HB;have HO_148003:=n0_;have HO_157003:=n1_;have HO163:=n2_;have HO176:=n3_;have BK147:=n4_;have BK156:=n5_;have BK166:=n6_;have BK167:=n7_;have HB:=n8_;clear n0_ n1_ n2_ n3_ n4_ n5_ n6_ n7_ n8_;(try clear hb);(try clear hb2);(try clear hk);(try clear hi)))
               go_ret
               exact ⟨by first|rfl|(simp [errW_none,errW_some] <;> rfl)|(simp only [← hji3,← hji6];first|rfl|(simp [errW_none,errW_some] <;> rfl))|(simp [*,errW_none,errW_some] <;> rfl),by repeat (first|(with_reducible first|exact HB.out|apply below_alloc|apply pw_below_drewN|apply below_drew1|refine below_set ?_ GE147.out|refine below_set ?_ GE156.out|refine below_set ?_ GE166.out|refine below_set ?_ GE167.out)|exact HB.out)⟩
             ·replace c33 := Bool.eq_false_iff.mpr c33
              subst c33
              have H1 : (some false) = some r := by rw [if_neg (show ¬ (false = true) by decide)] at H; exact H
              clear H
              have H := H1
              clear H1
              obtain rfl := Option.some.inj H
              try go_wp2_with (first|((with_reducible refine gate_callee (f:=22) rfl ?_);refine goesL_ (some 50) rfl rfl Tryd.func22 (by kernel_rfl) rfl #[.string (((a0.extract 0 ((ji3):Int).toNat) ++ (⟨#[10]⟩:ByteArray)) ++ (a1.extract 0 ((ji6):Int).toNat))] rfl (by (try simp only [List.map_toArray,List.map_cons,List.map_nil]);first|done|(simp only [hji3,hji6];rfl)|rfl|(simp only [List.length_drop,List.length_take];rfl)) ?_;(with_reducible refine (parse_Parse.calls (((a0.extract 0 ((ji3):Int).toNat) ++ (⟨#[10]⟩:ByteArray)) ++ (a1.extract 0 ((ji6):Int).toNat)) t158 t159 t160 t161 t164 t165 _ ?side1 A29.out).mono ?_);(case side1 => exact LaidAt.of HLD.out (by repeat (first|(with_reducible first|exact HB.out|apply below_alloc|apply pw_below_drewN|apply below_drew1|refine below_set ?_ GE147.out|refine below_set ?_ GE156.out)|exact HB.out)));rintro e w83 ⟨v162,rfl,ho0,hb⟩;refine ⟨_,rfl,?_⟩;have n0_:=Aside0.mk (Kd.N_elder' (by (with_reducible repeat first|apply Kd.N_alloc|apply Kd.N_drewN|apply Kd.N_drew);exact HO_148003.out) (by first|exact Kd.R_base ho0|exact Kd.N_base ho0) hb);have n1_:=Aside0.mk (Kd.N_elder' (by (with_reducible repeat first|apply Kd.N_alloc|apply Kd.N_drewN|apply Kd.N_drew);exact HO_157003.out) (by first|exact Kd.R_base ho0|exact Kd.N_base ho0) hb);have n2_:=Aside0.mk (Kd.N_lower (Kd.N_mono (ok':=fun k_ => some k_ ≠ (.slice Ao17 t142.length co17:Value).ownBlock ∧ some k_ ≠ (.slice Ao22 t151.length co22:Value).ownBlock ∧ k_ ≠ gb147 ∧ k_ ≠ gb156) (Kd.R_N (Kd.R_bound ho0)) (fun k_ hk_ => ⟨(Kd.fresh' (Kd.N_lt (by (with_reducible repeat first|apply Kd.N_alloc|apply Kd.N_drewN|apply Kd.N_drew);exact HO_148003.out)) k_ hk_.2.1),(Kd.fresh' (Kd.N_lt (by (with_reducible repeat first|apply Kd.N_alloc|apply Kd.N_drewN|apply Kd.N_drew);exact HO_157003.out)) k_ hk_.2.1),(Kd.freshB (g:=gb147) (o:=.cells #[.string t139,.string t140,.int .u64 t141,.slice Ao17 t142.length co17] 41 (0,0)) (by (with_reducible repeat first|apply zN|apply zD|apply zA);exact BK147.out) k_ hk_.2.1),(Kd.freshB (g:=gb156) (o:=.cells #[.string t148,.string t149,.int .u64 t150,.slice Ao22 t151.length co22] 41 (0,0)) (by (with_reducible repeat first|apply zN|apply zD|apply zA);exact BK156.out) k_ hk_.2.1)⟩)) (below_size (by repeat (first|(with_reducible first|exact HB.out|apply below_alloc|apply pw_below_drewN|apply below_drew1|refine below_set ?_ GE147.out|refine below_set ?_ GE156.out)|exact HB.out))));have n3_:=Aside0.mk (blk_below (g:=gb147) (o:=.cells #[.string t139,.string t140,.int .u64 t141,.slice Ao17 t142.length co17] 41 (0,0)) (by (with_reducible repeat first|apply zN|apply zD|apply zA);exact BK147.out) hb);have n4_:=Aside0.mk (blk_below (g:=gb156) (o:=.cells #[.string t148,.string t149,.int .u64 t150,.slice Ao22 t151.length co22] 41 (0,0)) (by (with_reducible repeat first|apply zN|apply zD|apply zA);exact BK156.out) hb);have n5_:=Aside0.mk (below_step (by repeat (first|(with_reducible first|exact HB.out|apply below_alloc|apply pw_below_drewN|apply below_drew1|refine below_set ?_ GE147.out|refine below_set ?_ GE156.out)|exact HB.out)) hb);clear HO_148003;clear HO_157003;clear BK147;clear BK156;clear HB;have HO_148003:=n0_;have HO_157003:=n1_;have HO163:=n2_;have BK147:=n3_;have BK156:=n4_;have HB:=n5_;clear n0_ n1_ n2_ n3_ n4_ n5_;(try clear hb);(try clear hb2);(try clear hk);(try clear hi);(try clear ho0))|((with_reducible refine gate_dst (N:=11) rfl ?_);refine box_event ?hg (N:=11) ?hd (cs:=#[.string ⟨#[]⟩,.string ⟨#[]⟩,.int .u64 0,.slice none 0 0]) (t:=41) ?hr ?_;(case hd => rfl);(case hg => rfl);(case hr => first|(go_simp;done)|(go_simp;rfl));intro gb166 hg w84 hbox hb;have n0_:=Aside0.mk (Kd.N_below (Kd.N_elderB (by (with_reducible repeat first|apply Kd.N_alloc|apply Kd.N_drewN|apply Kd.N_drew);exact HO_148003.out) gb166 (Nat.le_of_eq hg.symm)) hb);have n1_:=Aside0.mk (Kd.N_below (Kd.N_elderB (by (with_reducible repeat first|apply Kd.N_alloc|apply Kd.N_drewN|apply Kd.N_drew);exact HO_157003.out) gb166 (Nat.le_of_eq hg.symm)) hb);have n2_:=Aside0.mk (Kd.N_below (Kd.N_elderB (by (with_reducible repeat first|apply Kd.N_alloc|apply Kd.N_drewN|apply Kd.N_drew);exact HO163.out) gb166 (Nat.le_of_eq hg.symm)) hb);have n3_:=Aside0.mk (blk_below (g:=gb147) (o:=.cells #[.string t139,.string t140,.int .u64 t141,.slice Ao17 t142.length co17] 41 (0,0)) (by (with_reducible repeat first|apply zN|apply zD|apply zA);exact BK147.out) hb);have n4_:=Aside0.mk (blk_below (g:=gb156) (o:=.cells #[.string t148,.string t149,.int .u64 t150,.slice Ao22 t151.length co22] 41 (0,0)) (by (with_reducible repeat first|apply zN|apply zD|apply zA);exact BK156.out) hb);have n5_:=Aside0.mk (below_step (by repeat (first|(with_reducible first|exact HB.out|apply below_alloc|apply pw_below_drewN|apply below_drew1|refine below_set ?_ GE147.out|refine below_set ?_ GE156.out)|exact HB.out)) hb);have n6_:=Aside0.mk (hbox);have n7_:=Aside0.mk ((by rw [hg];exact (below_size (by repeat (first|(with_reducible first|exact HB.out|apply below_alloc|apply pw_below_drewN|apply below_drew1|refine below_set ?_ GE147.out|refine below_set ?_ GE156.out)|exact HB.out))):w.heap.size ≤ gb166));have n8_:=Aside0.mk ((by rw [hg];exact (below_size (by repeat (first|(with_reducible first|exact HB.out|apply below_alloc|apply pw_below_drewN|apply below_drew1|refine below_set ?_ GE147.out|refine below_set ?_ GE156.out)|exact HB.out))):w.heap.size ≤ gb166));have n9_:=Aside0.mk ((by rw [hg];exact Nat.ne_of_lt (blk_lt (g:=gb147) (o:=.cells #[.string t139,.string t140,.int .u64 t141,.slice Ao17 t142.length co17] 41 (0,0)) (by (with_reducible repeat first|apply zN|apply zD|apply zA);exact BK147.out)):gb147 ≠ gb166));have n10_:=Aside0.mk ((by rw [hg];exact Nat.ne_of_gt (blk_lt (g:=gb147) (o:=.cells #[.string t139,.string t140,.int .u64 t141,.slice Ao17 t142.length co17] 41 (0,0)) (by (with_reducible repeat first|apply zN|apply zD|apply zA);exact BK147.out)):gb166 ≠ gb147));have n11_:=Aside0.mk ((by rw [hg];exact Nat.ne_of_lt (blk_lt (g:=gb156) (o:=.cells #[.string t148,.string t149,.int .u64 t150,.slice Ao22 t151.length co22] 41 (0,0)) (by (with_reducible repeat first|apply zN|apply zD|apply zA);exact BK156.out)):gb156 ≠ gb166));have n12_:=Aside0.mk ((by rw [hg];exact Nat.ne_of_gt (blk_lt (g:=gb156) (o:=.cells #[.string t148,.string t149,.int .u64 t150,.slice Ao22 t151.length co22] 41 (0,0)) (by (with_reducible repeat first|apply zN|apply zD|apply zA);exact BK156.out)):gb166 ≠ gb156));clear HO_148003;clear HO_157003;clear HO163;clear BK147;clear BK156;clear HB;have HO_148003:=n0_;have HO_157003:=n1_;have HO163:=n2_;have BK147:=n3_;have BK156:=n4_;have HB:=n5_;have BK166:=n6_;have GW166:=n7_;have GE166:=n8_;have NB147_166:=n9_;have NB166_147:=n10_;have NB156_166:=n11_;have NB166_156:=n12_;clear n0_ n1_ n2_ n3_ n4_ n5_ n6_ n7_ n8_ n9_ n10_ n11_ n12_;clear hb hbox hg;have hnb85:=NB166_147.out;have hnc85:=NB147_166.out;have hnb86:=NB166_156.out;have hnc86:=NB156_166.out;have hcz87_0:w84.cell? ⟨gb166,0,none⟩ = some (.string ⟨#[]⟩):=(blk_cell BK166.out 0).trans rfl;have hcz87_1:w84.cell? ⟨gb166,1,none⟩ = some (.string ⟨#[]⟩):=(blk_cell BK166.out 1).trans rfl;have hcz87_2:w84.cell? ⟨gb166,2,none⟩ = some (.int .u64 0):=(blk_cell BK166.out 2).trans rfl;have hcz87_3:w84.cell? ⟨gb166,3,none⟩ = some (.slice none 0 0):=(blk_cell BK166.out 3).trans rfl;have hfz87_0:=blk_frozen BK166.out 0;have hfz87_1:=blk_frozen BK166.out 1;have hfz87_2:=blk_frozen BK166.out 2;have hfz87_3:=blk_frozen BK166.out 3;obtain ⟨Ao88,co88,eo88⟩:=Kd.N_slice HO163.out;subst eo88;have hnb89:=NB147_156.out;have hnc89:=NB156_147.out;have hcz90_0:w84.cell? ⟨gb147,0,none⟩ = some (.string t139):=(blk_cell BK147.out 0).trans rfl;have hcz90_1:w84.cell? ⟨gb147,1,none⟩ = some (.string t140):=(blk_cell BK147.out 1).trans rfl;have hcz90_2:w84.cell? ⟨gb147,2,none⟩ = some (.int .u64 t141):=(blk_cell BK147.out 2).trans rfl;have hcz90_3:w84.cell? ⟨gb147,3,none⟩ = some (.slice Ao17 t142.length co17):=(blk_cell BK147.out 3).trans rfl;have hfz90_0:=blk_frozen BK147.out 0;have hfz90_1:=blk_frozen BK147.out 1;have hfz90_2:=blk_frozen BK147.out 2;have hfz90_3:=blk_frozen BK147.out 3)|((with_reducible refine gate_dst (N:=14) rfl ?_);refine box_event ?hg (N:=14) ?hd (cs:=#[.string ⟨#[]⟩,.string ⟨#[]⟩,.int .u64 0,.slice none 0 0]) (t:=41) ?hr ?_;(case hd => rfl);(case hg => rfl);(case hr => first|(go_simp;done)|(go_simp;rfl));intro gb167 hg w91 hbox hb;have n0_:=Aside0.mk (Kd.N_below (Kd.N_elderB (by (with_reducible repeat first|apply Kd.N_alloc|apply Kd.N_drewN|apply Kd.N_drew);exact (Kd.N_mono (Kd.N_far (p:=⟨gb166,3,none⟩) (Kd.N_far (p:=⟨gb166,2,none⟩) (Kd.N_far (p:=⟨gb166,1,none⟩) (Kd.N_far (p:=⟨gb166,0,none⟩) (Kd.N_mono HO_148003.out (fun k_ hk => (⟨hk,hk.2⟩:_ ∧ k_ ≠ gb166))) (fun _ hk => hk.2) (.string t158)) (fun _ hk => hk.2) (.string t159)) (fun _ hk => hk.2) (.int .u64 t160)) (fun _ hk => hk.2) (.slice Ao88 t161.length co88)) (fun _ h_ => h_.1))) gb167 (Nat.le_of_eq hg.symm)) hb);have n1_:=Aside0.mk (Kd.N_below (Kd.N_elderB (by (with_reducible repeat first|apply Kd.N_alloc|apply Kd.N_drewN|apply Kd.N_drew);exact (Kd.N_mono (Kd.N_far (p:=⟨gb166,3,none⟩) (Kd.N_far (p:=⟨gb166,2,none⟩) (Kd.N_far (p:=⟨gb166,1,none⟩) (Kd.N_far (p:=⟨gb166,0,none⟩) (Kd.N_mono HO_157003.out (fun k_ hk => (⟨hk,hk.2⟩:_ ∧ k_ ≠ gb166))) (fun _ hk => hk.2) (.string t158)) (fun _ hk => hk.2) (.string t159)) (fun _ hk => hk.2) (.int .u64 t160)) (fun _ hk => hk.2) (.slice Ao88 t161.length co88)) (fun _ h_ => h_.1))) gb167 (Nat.le_of_eq hg.symm)) hb);have n2_:=Aside0.mk (Kd.N_below (Kd.N_elderB (by (with_reducible repeat first|apply Kd.N_alloc|apply Kd.N_drewN|apply Kd.N_drew);exact (Kd.N_mono (Kd.N_far (p:=⟨gb166,3,none⟩) (Kd.N_far (p:=⟨gb166,2,none⟩) (Kd.N_far (p:=⟨gb166,1,none⟩) (Kd.N_far (p:=⟨gb166,0,none⟩) (Kd.N_mono HO163.out (fun k_ hk => (⟨hk,hk.2⟩:_ ∧ k_ ≠ gb166))) (fun _ hk => hk.2) (.string t158)) (fun _ hk => hk.2) (.string t159)) (fun _ hk => hk.2) (.int .u64 t160)) (fun _ hk => hk.2) (.slice Ao88 t161.length co88)) (fun _ h_ => h_.1))) gb167 (Nat.le_of_eq hg.symm)) hb);have n3_:=Aside0.mk (blk_below (g:=gb147) (o:=.cells #[.string t139,.string t140,.int .u64 t141,.slice Ao17 t142.length co17] 41 (0,0)) (by (with_reducible repeat first|apply zN|apply zD|apply zA);refine blk_far ?_ NB147_166.out _;refine blk_far ?_ NB147_166.out _;refine blk_far ?_ NB147_166.out _;refine blk_far ?_ NB147_166.out _;(with_reducible repeat first|apply zN|apply zD|apply zA);exact BK147.out) hb);have n4_:=Aside0.mk (blk_below (g:=gb156) (o:=.cells #[.string t148,.string t149,.int .u64 t150,.slice Ao22 t151.length co22] 41 (0,0)) (by (with_reducible repeat first|apply zN|apply zD|apply zA);refine blk_far ?_ NB156_166.out _;refine blk_far ?_ NB156_166.out _;refine blk_far ?_ NB156_166.out _;refine blk_far ?_ NB156_166.out _;(with_reducible repeat first|apply zN|apply zD|apply zA);exact BK156.out) hb);have n5_:=Aside0.mk (blk_below (g:=gb166) (o:=.cells #[.string t158,.string t159,.int .u64 t160,.slice Ao88 t161.length co88] 41 (0,0)) (by (with_reducible repeat first|apply zN|apply zD|apply zA);refine blk_put (cs:=#[.string t158,.string t159,.int .u64 t160,.slice none 0 0]) ?_ 3 _ rfl;refine blk_put (cs:=#[.string t158,.string t159,.int .u64 0,.slice none 0 0]) ?_ 2 _ rfl;refine blk_put (cs:=#[.string t158,.string ⟨#[]⟩,.int .u64 0,.slice none 0 0]) ?_ 1 _ rfl;refine blk_put (cs:=#[.string ⟨#[]⟩,.string ⟨#[]⟩,.int .u64 0,.slice none 0 0]) ?_ 0 _ rfl;(with_reducible repeat first|apply zN|apply zD|apply zA);exact BK166.out) hb);have n6_:=Aside0.mk (below_step (by repeat (first|(with_reducible first|exact HB.out|apply below_alloc|apply pw_below_drewN|apply below_drew1|refine below_set ?_ GE147.out|refine below_set ?_ GE156.out|refine below_set ?_ GE166.out)|exact HB.out)) hb);have n7_:=Aside0.mk (hbox);have n8_:=Aside0.mk ((by rw [hg];exact (below_size (by repeat (first|(with_reducible first|exact HB.out|apply below_alloc|apply pw_below_drewN|apply below_drew1|refine below_set ?_ GE147.out|refine below_set ?_ GE156.out|refine below_set ?_ GE166.out)|exact HB.out))):w.heap.size ≤ gb167));have n9_:=Aside0.mk ((by rw [hg];exact (below_size (by repeat (first|(with_reducible first|exact HB.out|apply below_alloc|apply pw_below_drewN|apply below_drew1|refine below_set ?_ GE147.out|refine below_set ?_ GE156.out|refine below_set ?_ GE166.out)|exact HB.out))):w.heap.size ≤ gb167));have n10_:=Aside0.mk ((by rw [hg];exact Nat.ne_of_lt (blk_lt (g:=gb147) (o:=.cells #[.string t139,.string t140,.int .u64 t141,.slice Ao17 t142.length co17] 41 (0,0)) (by (with_reducible repeat first|apply zN|apply zD|apply zA);refine blk_far ?_ NB147_166.out _;refine blk_far ?_ NB147_166.out _;refine blk_far ?_ NB147_166.out _;refine blk_far ?_ NB147_166.out _;(with_reducible repeat first|apply zN|apply zD|apply zA);exact BK147.out)):gb147 ≠ gb167));have n11_:=Aside0.mk ((by rw [hg];exact Nat.ne_of_gt (blk_lt (g:=gb147) (o:=.cells #[.string t139,.string t140,.int .u64 t141,.slice Ao17 t142.length co17] 41 (0,0)) (by (with_reducible repeat first|apply zN|apply zD|apply zA);refine blk_far ?_ NB147_166.out _;refine blk_far ?_ NB147_166.out _;refine blk_far ?_ NB147_166.out _;refine blk_far ?_ NB147_166.out _;(with_reducible repeat first|apply zN|apply zD|apply zA);exact BK147.out)):gb167 ≠ gb147));have n12_:=Aside0.mk ((by rw [hg];exact Nat.ne_of_lt (blk_lt (g:=gb156) (o:=.cells #[.string t148,.string t149,.int .u64 t150,.slice Ao22 t151.length co22] 41 (0,0)) (by (with_reducible repeat first|apply zN|apply zD|apply zA);refine blk_far ?_ NB156_166.out _;refine blk_far ?_ NB156_166.out _;refine blk_far ?_ NB156_166.out _;refine blk_far ?_ NB156_166.out _;(with_reducible repeat first|apply zN|apply zD|apply zA);exact BK156.out)):gb156 ≠ gb167));have n13_:=Aside0.mk ((by rw [hg];exact Nat.ne_of_gt (blk_lt (g:=gb156) (o:=.cells #[.string t148,.string t149,.int .u64 t150,.slice Ao22 t151.length co22] 41 (0,0)) (by (with_reducible repeat first|apply zN|apply zD|apply zA);refine blk_far ?_ NB156_166.out _;refine blk_far ?_ NB156_166.out _;refine blk_far ?_ NB156_166.out _;refine blk_far ?_ NB156_166.out _;(with_reducible repeat first|apply zN|apply zD|apply zA);exact BK156.out)):gb167 ≠ gb156));have n14_:=Aside0.mk ((by rw [hg];exact Nat.ne_of_lt (blk_lt (g:=gb166) (o:=.cells #[.string t158,.string t159,.int .u64 t160,.slice Ao88 t161.length co88] 41 (0,0)) (by (with_reducible repeat first|apply zN|apply zD|apply zA);refine blk_put (cs:=#[.string t158,.string t159,.int .u64 t160,.slice none 0 0]) ?_ 3 _ rfl;refine blk_put (cs:=#[.string t158,.string t159,.int .u64 0,.slice none 0 0]) ?_ 2 _ rfl;refine blk_put (cs:=#[.string t158,.string ⟨#[]⟩,.int .u64 0,.slice none 0 0]) ?_ 1 _ rfl;refine blk_put (cs:=#[.string ⟨#[]⟩,.string ⟨#[]⟩,.int .u64 0,.slice none 0 0]) ?_ 0 _ rfl;(with_reducible repeat first|apply zN|apply zD|apply zA);exact BK166.out)):gb166 ≠ gb167));have n15_:=Aside0.mk ((by rw [hg];exact Nat.ne_of_gt (blk_lt (g:=gb166) (o:=.cells #[.string t158,.string t159,.int .u64 t160,.slice Ao88 t161.length co88] 41 (0,0)) (by (with_reducible repeat first|apply zN|apply zD|apply zA);refine blk_put (cs:=#[.string t158,.string t159,.int .u64 t160,.slice none 0 0]) ?_ 3 _ rfl;refine blk_put (cs:=#[.string t158,.string t159,.int .u64 0,.slice none 0 0]) ?_ 2 _ rfl;refine blk_put (cs:=#[.string t158,.string ⟨#[]⟩,.int .u64 0,.slice none 0 0]) ?_ 1 _ rfl;refine blk_put (cs:=#[.string ⟨#[]⟩,.string ⟨#[]⟩,.int .u64 0,.slice none 0 0]) ?_ 0 _ rfl;(with_reducible repeat first|apply zN|apply zD|apply zA);exact BK166.out)):gb167 ≠ gb166));clear HO_148003;clear HO_157003;clear HO163;clear BK147;clear BK156;clear BK166;clear HB;have HO_148003:=n0_;have HO_157003:=n1_;have HO163:=n2_;have BK147:=n3_;have BK156:=n4_;have BK166:=n5_;have HB:=n6_;have BK167:=n7_;have GW167:=n8_;have GE167:=n9_;have NB147_167:=n10_;have NB167_147:=n11_;have NB156_167:=n12_;have NB167_156:=n13_;have NB166_167:=n14_;have NB167_166:=n15_;clear n0_ n1_ n2_ n3_ n4_ n5_ n6_ n7_ n8_ n9_ n10_ n11_ n12_ n13_ n14_ n15_;clear hb hbox hg;have hnb92:=NB167_147.out;have hnc92:=NB147_167.out;have hnb93:=NB167_156.out;have hnc93:=NB156_167.out;have hnb94:=NB167_166.out;have hnc94:=NB166_167.out;have hcz95_0:w91.cell? ⟨gb167,0,none⟩ = some (.string ⟨#[]⟩):=(blk_cell BK167.out 0).trans rfl;have hcz95_1:w91.cell? ⟨gb167,1,none⟩ = some (.string ⟨#[]⟩):=(blk_cell BK167.out 1).trans rfl;have hcz95_2:w91.cell? ⟨gb167,2,none⟩ = some (.int .u64 0):=(blk_cell BK167.out 2).trans rfl;have hcz95_3:w91.cell? ⟨gb167,3,none⟩ = some (.slice none 0 0):=(blk_cell BK167.out 3).trans rfl;have hfz95_0:=blk_frozen BK167.out 0;have hfz95_1:=blk_frozen BK167.out 1;have hfz95_2:=blk_frozen BK167.out 2;have hfz95_3:=blk_frozen BK167.out 3))
              have n0_:Aside0 (Kd.N k81 81 ((((w91.setCell ⟨gb167,0,none⟩ (.string t139)).setCell ⟨gb167,1,none⟩ (.string t140)).setCell ⟨gb167,2,none⟩ (.int .u64 t141)).setCell ⟨gb167,3,none⟩ (.slice Ao17 t142.length co17)) w.heap.size (fun k_ => some k_ ≠ (.slice Ao22 t151.length co22:Value).ownBlock ∧ some k_ ≠ (.slice Ao88 t161.length co88:Value).ownBlock ∧ k_ ≠ gb147 ∧ k_ ≠ gb156 ∧ k_ ≠ gb166 ∧ k_ ≠ gb167) (.slice Ao17 t142.length co17) t142):=⟨by (with_reducible repeat first|apply Kd.N_alloc|apply Kd.N_drewN|apply Kd.N_drew);exact Kd.N_mono (Kd.N_far (p:=⟨gb167,3,none⟩) (Kd.N_far (p:=⟨gb167,2,none⟩) (Kd.N_far (p:=⟨gb167,1,none⟩) (Kd.N_far (p:=⟨gb167,0,none⟩) (Kd.N_mono HO_148003.out (fun k_ hk => (⟨hk,hk.2⟩:_ ∧ k_ ≠ gb167))) (fun _ hk => hk.2) (.string t139)) (fun _ hk => hk.2) (.string t140)) (fun _ hk => hk.2) (.int .u64 t141)) (fun _ hk => hk.2) (.slice Ao17 t142.length co17)) (fun _ hk => ⟨hk.1.1.1.1.1,⟨hk.1.1.1.2,⟨hk.1.1.1.1.2.1,⟨hk.1.1.1.1.2.2,⟨hk.1.1.2,hk.1.2⟩⟩⟩⟩⟩)⟩
              have n1_:Aside0 (Kd.N k81 81 ((((w91.setCell ⟨gb167,0,none⟩ (.string t139)).setCell ⟨gb167,1,none⟩ (.string t140)).setCell ⟨gb167,2,none⟩ (.int .u64 t141)).setCell ⟨gb167,3,none⟩ (.slice Ao17 t142.length co17)) w.heap.size (fun k_ => some k_ ≠ (.slice Ao17 t142.length co17:Value).ownBlock ∧ some k_ ≠ (.slice Ao88 t161.length co88:Value).ownBlock ∧ k_ ≠ gb147 ∧ k_ ≠ gb156 ∧ k_ ≠ gb166 ∧ k_ ≠ gb167) (.slice Ao22 t151.length co22) t151):=⟨by (with_reducible repeat first|apply Kd.N_alloc|apply Kd.N_drewN|apply Kd.N_drew);exact Kd.N_mono (Kd.N_far (p:=⟨gb167,3,none⟩) (Kd.N_far (p:=⟨gb167,2,none⟩) (Kd.N_far (p:=⟨gb167,1,none⟩) (Kd.N_far (p:=⟨gb167,0,none⟩) (Kd.N_mono HO_157003.out (fun k_ hk => (⟨hk,hk.2⟩:_ ∧ k_ ≠ gb167))) (fun _ hk => hk.2) (.string t139)) (fun _ hk => hk.2) (.string t140)) (fun _ hk => hk.2) (.int .u64 t141)) (fun _ hk => hk.2) (.slice Ao17 t142.length co17)) (fun _ hk => ⟨hk.1.1.1.1.1,⟨hk.1.1.1.2,⟨hk.1.1.1.1.2.1,⟨hk.1.1.1.1.2.2,⟨hk.1.1.2,hk.1.2⟩⟩⟩⟩⟩)⟩
              have n2_:Aside0 (Kd.N k81 81 ((((w91.setCell ⟨gb167,0,none⟩ (.string t139)).setCell ⟨gb167,1,none⟩ (.string t140)).setCell ⟨gb167,2,none⟩ (.int .u64 t141)).setCell ⟨gb167,3,none⟩ (.slice Ao17 t142.length co17)) w.heap.size (fun k_ => some k_ ≠ (.slice Ao17 t142.length co17:Value).ownBlock ∧ some k_ ≠ (.slice Ao22 t151.length co22:Value).ownBlock ∧ k_ ≠ gb147 ∧ k_ ≠ gb156 ∧ k_ ≠ gb166 ∧ k_ ≠ gb167) (.slice Ao88 t161.length co88) t161):=⟨by (with_reducible repeat first|apply Kd.N_alloc|apply Kd.N_drewN|apply Kd.N_drew);exact Kd.N_mono (Kd.N_far (p:=⟨gb167,3,none⟩) (Kd.N_far (p:=⟨gb167,2,none⟩) (Kd.N_far (p:=⟨gb167,1,none⟩) (Kd.N_far (p:=⟨gb167,0,none⟩) (Kd.N_mono HO163.out (fun k_ hk => (⟨hk,hk.2⟩:_ ∧ k_ ≠ gb167))) (fun _ hk => hk.2) (.string t139)) (fun _ hk => hk.2) (.string t140)) (fun _ hk => hk.2) (.int .u64 t141)) (fun _ hk => hk.2) (.slice Ao17 t142.length co17)) (fun _ hk => ⟨hk.1.1.1.1,⟨hk.1.1.1.2.1,⟨hk.1.1.1.2.2.1,⟨hk.1.1.1.2.2.2,⟨hk.1.1.2,hk.1.2⟩⟩⟩⟩⟩)⟩
              have n3_:Aside0 (((((w91.setCell ⟨gb167,0,none⟩ (.string t139)).setCell ⟨gb167,1,none⟩ (.string t140)).setCell ⟨gb167,2,none⟩ (.int .u64 t141)).setCell ⟨gb167,3,none⟩ (.slice Ao17 t142.length co17)).heap[gb147]? = some (.cells #[.string t139,.string t140,.int .u64 t141,.slice Ao17 t142.length co17] 41 (0,0))):=⟨by (with_reducible repeat first|apply zN|apply zD|apply zA);refine blk_far ?_ NB147_167.out _;refine blk_far ?_ NB147_167.out _;refine blk_far ?_ NB147_167.out _;refine blk_far ?_ NB147_167.out _;(with_reducible repeat first|apply zN|apply zD|apply zA);exact BK147.out⟩
              have n4_:Aside0 (((((w91.setCell ⟨gb167,0,none⟩ (.string t139)).setCell ⟨gb167,1,none⟩ (.string t140)).setCell ⟨gb167,2,none⟩ (.int .u64 t141)).setCell ⟨gb167,3,none⟩ (.slice Ao17 t142.length co17)).heap[gb156]? = some (.cells #[.string t148,.string t149,.int .u64 t150,.slice Ao22 t151.length co22] 41 (0,0))):=⟨by (with_reducible repeat first|apply zN|apply zD|apply zA);refine blk_far ?_ NB156_167.out _;refine blk_far ?_ NB156_167.out _;refine blk_far ?_ NB156_167.out _;refine blk_far ?_ NB156_167.out _;(with_reducible repeat first|apply zN|apply zD|apply zA);exact BK156.out⟩
              have n5_:Aside0 (((((w91.setCell ⟨gb167,0,none⟩ (.string t139)).setCell ⟨gb167,1,none⟩ (.string t140)).setCell ⟨gb167,2,none⟩ (.int .u64 t141)).setCell ⟨gb167,3,none⟩ (.slice Ao17 t142.length co17)).heap[gb166]? = some (.cells #[.string t158,.string t159,.int .u64 t160,.slice Ao88 t161.length co88] 41 (0,0))):=⟨by (with_reducible repeat first|apply zN|apply zD|apply zA);refine blk_far ?_ NB166_167.out _;refine blk_far ?_ NB166_167.out _;refine blk_far ?_ NB166_167.out _;refine blk_far ?_ NB166_167.out _;(with_reducible repeat first|apply zN|apply zD|apply zA);exact BK166.out⟩
              have n6_:Aside0 (((((w91.setCell ⟨gb167,0,none⟩ (.string t139)).setCell ⟨gb167,1,none⟩ (.string t140)).setCell ⟨gb167,2,none⟩ (.int .u64 t141)).setCell ⟨gb167,3,none⟩ (.slice Ao17 t142.length co17)).heap[gb167]? = some (.cells #[.string t139,.string t140,.int .u64 t141,.slice Ao17 t142.length co17] 41 (0,0))):=⟨by (with_reducible repeat first|apply zN|apply zD|apply zA);refine blk_put (cs:=#[.string t139,.string t140,.int .u64 t141,.slice none 0 0]) ?_ 3 _ rfl;refine blk_put (cs:=#[.string t139,.string t140,.int .u64 0,.slice none 0 0]) ?_ 2 _ rfl;refine blk_put (cs:=#[.string t139,.string ⟨#[]⟩,.int .u64 0,.slice none 0 0]) ?_ 1 _ rfl;refine blk_put (cs:=#[.string ⟨#[]⟩,.string ⟨#[]⟩,.int .u64 0,.slice none 0 0]) ?_ 0 _ rfl;(with_reducible repeat first|apply zN|apply zD|apply zA);exact BK167.out⟩
              have n7_:Aside0 (Below w.heap.size w ((((w91.setCell ⟨gb167,0,none⟩ (.string t139)).setCell ⟨gb167,1,none⟩ (.string t140)).setCell ⟨gb167,2,none⟩ (.int .u64 t141)).setCell ⟨gb167,3,none⟩ (.slice Ao17 t142.length co17))):=⟨by repeat (first|(with_reducible first|exact HB.out|apply below_alloc|apply pw_below_drewN|apply below_drew1|refine below_set ?_ GE147.out|refine below_set ?_ GE156.out|refine below_set ?_ GE166.out|refine below_set ?_ GE167.out)|exact HB.out)⟩
              (try clear HO_148003)
              (try clear HO_157003)
              (try clear HO163)
              (try clear BK147)
              (try clear BK156)
              (try clear BK166)
              (try clear BK167)
              (try clear HB)
              generalize ((((w91.setCell ⟨gb167,0,none⟩ (.string t139)).setCell ⟨gb167,1,none⟩ (.string t140)).setCell ⟨gb167,2,none⟩ (.int .u64 t141)).setCell ⟨gb167,3,none⟩ (.slice Ao17 t142.length co17)) = w96 at n0_ n1_ n2_ n3_ n4_ n5_ n6_ n7_ ⊢
              have HO_148003 := n0_
              have HO_157003 := n1_
              have HO163 := n2_
              have BK147 := n3_
              have BK156 := n4_
              have BK166 := n5_
              have BK167 := n6_
              have HB := n7_
              clear n0_ n1_ n2_ n3_ n4_ n5_ n6_ n7_
              have n0_ := Aside0.mk (Kd.N_drew HO_148003.out)
              have n1_ := Aside0.mk (Kd.N_drew HO_157003.out)
              have n2_ := Aside0.mk (Kd.N_drew HO163.out)
              have n3_ := Aside0.mk (blk_drew BK147.out)
              have n4_ := Aside0.mk (blk_drew BK156.out)
              have n5_ := Aside0.mk (blk_drew BK166.out)
              have n6_ := Aside0.mk (blk_drew BK167.out)
              have n7_ := Aside0.mk (below_drew1 HB.out)
              clear HO_148003
              clear HO_157003
              clear HO163
              clear BK147
              clear BK156
              clear BK166
              clear BK167
              clear HB
              have HO_148003 := n0_
              have HO_157003 := n1_
              have HO163 := n2_
              have BK147 := n3_
              have BK156 := n4_
              have BK166 := n5_
              have BK167 := n6_
              have HB := n7_
              clear n0_ n1_ n2_ n3_ n4_ n5_ n6_ n7_
              refine start_ (n:=9) (S:=fun w' => w'.cell? ⟨gb147,0,none⟩ = some (.string t139) ∧ w'.cell? ⟨gb147,1,none⟩ = some (.string t140) ∧ w'.cell? ⟨gb147,2,none⟩ = some (.int .u64 t141) ∧ w'.cell? ⟨gb147,3,none⟩ = some (.slice Ao17 t142.length co17) ∧ w'.cell? ⟨gb156,0,none⟩ = some (.string t148) ∧ w'.cell? ⟨gb156,1,none⟩ = some (.string t149) ∧ w'.cell? ⟨gb156,2,none⟩ = some (.int .u64 t150) ∧ w'.cell? ⟨gb156,3,none⟩ = some (.slice Ao22 t151.length co22)) (ds:=[]) #[false,false,false,false,false,false,false,false,false] (by kernel_rfl) rfl rfl ⟨(blk_cell BK147.out 0).trans rfl,(blk_cell BK147.out 1).trans rfl,(blk_cell BK147.out 2).trans rfl,(blk_cell BK147.out 3).trans rfl,(blk_cell BK156.out 0).trans rfl,(blk_cell BK156.out 1).trans rfl,(blk_cell BK156.out 2).trans rfl,(blk_cell BK156.out 3).trans rfl⟩ (fun hHeld => ?_);refine with_tabW doorwardlaw15_ParseRules.tab8 doorwardlaw15_ParseRules.bits8 (fun HT_ HW_ => ?_)
              generalize w96.drew = w97 at HO_148003 HO_157003 HO163 BK147 BK156 BK166 BK167 HB hHeld ⊢
              refine pure_ (i:=1) (N:=some 56) (v:=?_) (a':=?_) #[false,true,false,false,false,false,false,false,false] rfl rfl (any_of HT_.out (by kernel_rfl)) (fun _ _ _ h => h) (Or.inl ⟨by rfl,?_⟩) ?_ ?_
              rotate_left
              ·intro w'
               go_simp
               with_reducible rfl
              rotate_left
              ·simp only [Act.put, List.setIfInBounds_toArray, List.set_cons_zero, List.set_cons_succ, i64_w, i32_w]
               rfl
              refine pure_ (i:=4) (N:=some 59) (v:=?_) (a':=?_) #[false,true,false,false,true,false,false,false,false] rfl rfl (any_of HT_.out (by kernel_rfl)) (fun _ _ _ h => h) (Or.inl ⟨by rfl,?_⟩) ?_ ?_
              rotate_left
              ·intro w'
               go_simp
               with_reducible rfl
              rotate_left
              ·simp only [Act.put, List.setIfInBounds_toArray, List.set_cons_zero, List.set_cons_succ, i64_w, i32_w]
               rfl
              refine take_ (i:=2) (N:=some 57) (v:=?_) (a':=?_) #[false,true,true,false,true,false,false,false,false] rfl rfl (take_ofW HT_.out HW_.out (by kernel_rfl)) (fun _ _ _ h => h) (Or.inl ⟨by rfl,?_⟩) hHeld ?_ ?_
              rotate_left
              ·rintro w' ⟨s0, s1, s2, s3, s4, s5, s6, s7⟩
               go_simp
               with_reducible rfl
              rotate_left
              ·simp only [Act.put, List.setIfInBounds_toArray, List.set_cons_zero, List.set_cons_succ, i64_w, i32_w]
               rfl
              refine take_ (i:=5) (N:=some 60) (v:=?_) (a':=?_) #[false,true,true,false,true,true,false,false,false] rfl rfl (take_ofW HT_.out HW_.out (by kernel_rfl)) (fun _ _ _ h => h) (Or.inl ⟨by rfl,?_⟩) hHeld ?_ ?_
              rotate_left
              ·rintro w' ⟨s0, s1, s2, s3, s4, s5, s6, s7⟩
               go_simp
               with_reducible rfl
              rotate_left
              ·simp only [Act.put, List.setIfInBounds_toArray, List.set_cons_zero, List.set_cons_succ, i64_w, i32_w]
               rfl
              refine one_ (i := 0) (N := some 55) #[true, true, true, false, true, true, false, false, false] rfl rfl (one_of HT_.out (by kernel_rfl)) (by decide) (fun K hK => ?_)
              refine Kd.N_lit_step k81 _ 81 ?hg (N':=55) ?hd (xs:=([]:List (S81))) (inner:=[]) (ok:=(fun k_ => some k_ ≠ (.slice Ao17 t142.length co17:Value).ownBlock ∧ some k_ ≠ (.slice Ao22 t151.length co22:Value).ownBlock ∧ some k_ ≠ (.slice Ao88 t161.length co88:Value).ownBlock ∧ k_ ≠ gb147 ∧ k_ ≠ gb156 ∧ k_ ≠ gb166 ∧ k_ ≠ gb167)) (okp:=(fun k_ => some k_ ≠ (.slice Ao17 t142.length co17:Value).ownBlock ∧ some k_ ≠ (.slice Ao22 t151.length co22:Value).ownBlock ∧ some k_ ≠ (.slice Ao88 t161.length co88:Value).ownBlock ∧ k_ ≠ gb147 ∧ k_ ≠ gb156 ∧ k_ ≠ gb166 ∧ k_ ≠ gb167)) ?hr ?hp (fun _ hk => hk) ((show ∀ k_,w97.heap.size ≤ k_ → (fun k_ => some k_ ≠ (.slice Ao17 t142.length co17:Value).ownBlock ∧ some k_ ≠ (.slice Ao22 t151.length co22:Value).ownBlock ∧ some k_ ≠ (.slice Ao88 t161.length co88:Value).ownBlock ∧ k_ ≠ gb147 ∧ k_ ≠ gb156 ∧ k_ ≠ gb166 ∧ k_ ≠ gb167) k_ from fun k_ hk => ⟨Kd.fresh' (Kd.N_lt (by (with_reducible repeat first|apply Kd.N_alloc|apply Kd.N_drewN|apply Kd.N_drew);exact HO_148003.out)) k_ hk,Kd.fresh' (Kd.N_lt (by (with_reducible repeat first|apply Kd.N_alloc|apply Kd.N_drewN|apply Kd.N_drew);exact HO_157003.out)) k_ hk,Kd.fresh' (Kd.N_lt (by (with_reducible repeat first|apply Kd.N_alloc|apply Kd.N_drewN|apply Kd.N_drew);exact HO163.out)) k_ hk,Kd.freshB (g:=gb147) (o:=.cells #[.string t139,.string t140,.int .u64 t141,.slice Ao17 t142.length co17] 41 (0,0)) (by (with_reducible repeat first|apply zN|apply zD|apply zA);exact BK147.out) k_ hk,Kd.freshB (g:=gb156) (o:=.cells #[.string t148,.string t149,.int .u64 t150,.slice Ao22 t151.length co22] 41 (0,0)) (by (with_reducible repeat first|apply zN|apply zD|apply zA);exact BK156.out) k_ hk,Kd.freshB (g:=gb166) (o:=.cells #[.string t158,.string t159,.int .u64 t160,.slice Ao88 t161.length co88] 41 (0,0)) (by (with_reducible repeat first|apply zN|apply zD|apply zA);exact BK166.out) k_ hk,Kd.freshB (g:=gb167) (o:=.cells #[.string t139,.string t140,.int .u64 t141,.slice Ao17 t142.length co17] 41 (0,0)) (by (with_reducible repeat first|apply zN|apply zD|apply zA);exact BK167.out) k_ hk⟩) _ (Nat.le_refl _)) (Below.refl _ _) (Nat.le_refl _) (by simp) ?_;(case hd => rfl);(case hg => rfl);(case hr => first|(go_simp;done)|(go_simp;rfl));(case hp => exact (Reps.none _ _))
              intro v169 w98 ho99 hb hg_ hnew_
              clear hg_ hnew_
              (first | rw [← Ny168.out] at ho99 | (simp only [Int.reduceToNat] at ho99; rw [← Ny168.out] at ho99))
              have n0_ := Aside0.mk (Kd.N_elder' (by (with_reducible repeat (first | apply Kd.N_alloc | apply Kd.N_drewN | apply Kd.N_drew)); exact HO_148003.out) (by first|exact Kd.R_base ho99|exact Kd.N_base ho99) hb)
              have n1_ := Aside0.mk (Kd.N_elder' (by (with_reducible repeat (first | apply Kd.N_alloc | apply Kd.N_drewN | apply Kd.N_drew)); exact HO_157003.out) (by first|exact Kd.R_base ho99|exact Kd.N_base ho99) hb)
              have n2_ := Aside0.mk (Kd.N_elder' (by (with_reducible repeat (first | apply Kd.N_alloc | apply Kd.N_drewN | apply Kd.N_drew)); exact HO163.out) (by first|exact Kd.R_base ho99|exact Kd.N_base ho99) hb)
              have n3_:=Aside0.mk (Kd.N_lower ho99 (below_size (by repeat (first|(with_reducible first|exact HB.out|apply below_alloc|apply pw_below_drewN|apply below_drew1|refine below_set ?_ GE147.out|refine below_set ?_ GE156.out|refine below_set ?_ GE166.out|refine below_set ?_ GE167.out)|exact HB.out))))
              have n4_:=Aside0.mk (blk_below (g:=gb147) (o:=.cells #[.string t139,.string t140,.int .u64 t141,.slice Ao17 t142.length co17] 41 (0,0)) (by (with_reducible repeat first|apply zN|apply zD|apply zA);exact BK147.out) hb)
              have n5_:=Aside0.mk (blk_below (g:=gb156) (o:=.cells #[.string t148,.string t149,.int .u64 t150,.slice Ao22 t151.length co22] 41 (0,0)) (by (with_reducible repeat first|apply zN|apply zD|apply zA);exact BK156.out) hb)
              have n6_:=Aside0.mk (blk_below (g:=gb166) (o:=.cells #[.string t158,.string t159,.int .u64 t160,.slice Ao88 t161.length co88] 41 (0,0)) (by (with_reducible repeat first|apply zN|apply zD|apply zA);exact BK166.out) hb)
              have n7_:=Aside0.mk (blk_below (g:=gb167) (o:=.cells #[.string t139,.string t140,.int .u64 t141,.slice Ao17 t142.length co17] 41 (0,0)) (by (with_reducible repeat first|apply zN|apply zD|apply zA);exact BK167.out) hb)
              have n8_:=Aside0.mk (below_step (by repeat (first|(with_reducible first|exact HB.out|apply below_alloc|apply pw_below_drewN|apply below_drew1|refine below_set ?_ GE147.out|refine below_set ?_ GE156.out|refine below_set ?_ GE166.out|refine below_set ?_ GE167.out)|exact HB.out)) hb)
              clear HO_148003
              clear HO_157003
              clear HO163
              clear BK147
              clear BK156
              clear BK166
              clear BK167
              clear HB
              have HO_148003 := n0_
              have HO_157003 := n1_
              have HO163 := n2_
              have HO170 := n3_
              have BK147 := n4_
              have BK156 := n5_
              have BK166 := n6_
              have BK167 := n7_
              have HB := n8_
              clear n0_ n1_ n2_ n3_ n4_ n5_ n6_ n7_ n8_
              clear hb ho99
              refine hK.out _ _ ⟨(blk_cell BK147.out 0).trans rfl,(blk_cell BK147.out 1).trans rfl,(blk_cell BK147.out 2).trans rfl,(blk_cell BK147.out 3).trans rfl,(blk_cell BK156.out 0).trans rfl,(blk_cell BK156.out 1).trans rfl,(blk_cell BK156.out 2).trans rfl,(blk_cell BK156.out 3).trans rfl⟩ (fun hHeld => ?_)
              clear hK K
              refine norm_ (a' := ?_) ?_ ?_
              rotate_left
              ·show Act.put _ (some 55) _ = _
               simp only [Act.put, List.setIfInBounds_toArray, List.set_cons_zero, List.set_cons_succ, i64_w, i32_w]
               rfl
              refine one_ (i := 3) (N := some 58) #[true, true, true, true, true, true, false, false, false] rfl rfl (one_of HT_.out (by kernel_rfl)) (by decide) (fun K hK => ?_)
              refine Kd.N_append_rows_step k81 (w0:=w) w.heap.size (by rfl) (.tmp 55) (.tmp 57) 39 81 (.agg #[(.string ⟨#[]⟩),(.int .u64 0),(.slice none 0 0),(.int .i64 0),(.slice none 0 0),(.int .i64 0),(.int .u64 0),(.string ⟨#[]⟩),(.int .u64 0)]) 120 rfl Tryd.underlying39 info81 rfl (by decide) (by omega) v169 y168 t142 _ _ _ (fun k_ => some k_ ≠ (.slice Ao22 t151.length co22:Value).ownBlock ∧ some k_ ≠ (.slice Ao88 t161.length co88:Value).ownBlock ∧ k_ ≠ gb147 ∧ k_ ≠ gb156 ∧ k_ ≠ gb166 ∧ k_ ≠ gb167) (fun k_ => ((fun k_ => some k_ ≠ (.slice Ao22 t151.length co22:Value).ownBlock ∧ some k_ ≠ (.slice Ao88 t161.length co88:Value).ownBlock ∧ k_ ≠ gb147 ∧ k_ ≠ gb156 ∧ k_ ≠ gb166 ∧ k_ ≠ gb167)) k_ ∧ some k_ ≠ (v169:Value).ownBlock) rfl rfl ?aO ?aR (fun _ hk => hk) ?aF ?aB ?aS ?aL ?_
              (case aR => exact (by skip;exact Kd.N_F (Kd.N_mono (ok':=(fun k_ => ((fun k_ => some k_ ≠ (.slice Ao22 t151.length co22:Value).ownBlock ∧ some k_ ≠ (.slice Ao88 t161.length co88:Value).ownBlock ∧ k_ ≠ gb147 ∧ k_ ≠ gb156 ∧ k_ ≠ gb166 ∧ k_ ≠ gb167)) k_ ∧ some k_ ≠ (v169:Value).ownBlock)) (HO_148003.out) (fun k_ hk => ⟨⟨hk.1.1,⟨hk.1.2.1,⟨hk.1.2.2.1,⟨hk.1.2.2.2.1,⟨hk.1.2.2.2.2.1,hk.1.2.2.2.2.2⟩⟩⟩⟩⟩,hk.2⟩))))
              (case aB => exact (by repeat (first|(with_reducible first|exact HB.out|apply below_alloc|apply pw_below_drewN|apply below_drew1|refine below_set ?_ GE147.out|refine below_set ?_ GE156.out|refine below_set ?_ GE166.out|refine below_set ?_ GE167.out)|exact HB.out)))
              (case aF => exact (fun k_ hk => ⟨Kd.fresh' (Kd.N_lt (by (with_reducible repeat first|apply Kd.N_alloc|apply Kd.N_drewN|apply Kd.N_drew);exact HO_157003.out)) k_ hk,Kd.fresh' (Kd.N_lt (by (with_reducible repeat first|apply Kd.N_alloc|apply Kd.N_drewN|apply Kd.N_drew);exact HO163.out)) k_ hk,Kd.freshB (g:=gb147) (o:=.cells #[.string t139,.string t140,.int .u64 t141,.slice Ao17 t142.length co17] 41 (0,0)) (by (with_reducible repeat first|apply zN|apply zD|apply zA);exact BK147.out) k_ hk,Kd.freshB (g:=gb156) (o:=.cells #[.string t148,.string t149,.int .u64 t150,.slice Ao22 t151.length co22] 41 (0,0)) (by (with_reducible repeat first|apply zN|apply zD|apply zA);exact BK156.out) k_ hk,Kd.freshB (g:=gb166) (o:=.cells #[.string t158,.string t159,.int .u64 t160,.slice Ao88 t161.length co88] 41 (0,0)) (by (with_reducible repeat first|apply zN|apply zD|apply zA);exact BK166.out) k_ hk,Kd.freshB (g:=gb167) (o:=.cells #[.string t139,.string t140,.int .u64 t141,.slice Ao17 t142.length co17] 41 (0,0)) (by (with_reducible repeat first|apply zN|apply zD|apply zA);exact BK167.out) k_ hk⟩))
              (case aO => exact (by (with_reducible repeat first|apply Kd.N_alloc|apply Kd.N_drewN|apply Kd.N_drew);exact Kd.N_mono HO170.out (fun _ hk => ⟨hk.2.1,⟨hk.2.2.1,⟨hk.2.2.2.1,⟨hk.2.2.2.2.1,⟨hk.2.2.2.2.2.1,hk.2.2.2.2.2.2⟩⟩⟩⟩⟩)))
              (case aS => exact (below_size (by repeat (first|(with_reducible first|exact HB.out|apply below_alloc|apply pw_below_drewN|apply below_drew1|refine below_set ?_ GE147.out|refine below_set ?_ GE156.out|refine below_set ?_ GE166.out|refine below_set ?_ GE167.out)|exact HB.out))))
              (case aL => have := LMc30.out; omega)
              intro v172 w100 ho hb hg hat
              rw [← Ny171.out] at ho
              have n0_:=Aside0.mk (Kd.N_afterv (ok:=(fun k_ => some k_ ≠ (.slice Ao22 t151.length co22:Value).ownBlock ∧ some k_ ≠ (.slice Ao88 t161.length co88:Value).ownBlock ∧ k_ ≠ gb147 ∧ k_ ≠ gb156 ∧ k_ ≠ gb166 ∧ k_ ≠ gb167)) (by (with_reducible repeat first|apply Kd.N_alloc|apply Kd.N_drewN|apply Kd.N_drew);exact HO_148003.out) hg hat)
              have n1_:=Aside0.mk (Kd.N_afterv (ok:=(fun k_ => some k_ ≠ (.slice Ao17 t142.length co17:Value).ownBlock ∧ some k_ ≠ (.slice Ao88 t161.length co88:Value).ownBlock ∧ k_ ≠ gb147 ∧ k_ ≠ gb156 ∧ k_ ≠ gb166 ∧ k_ ≠ gb167)) (by (with_reducible repeat first|apply Kd.N_alloc|apply Kd.N_drewN|apply Kd.N_drew);exact HO_157003.out) hg hat)
              have n2_:=Aside0.mk (blk_grown (g:=gb147) (o:=.cells #[.string t139,.string t140,.int .u64 t141,.slice Ao17 t142.length co17] 41 (0,0)) (by (with_reducible repeat first|apply zN|apply zD|apply zA);exact BK147.out) hg (Kd.N_ne HO170.out BK147.out (by decide)))
              have n3_:=Aside0.mk (blk_grown (g:=gb156) (o:=.cells #[.string t148,.string t149,.int .u64 t150,.slice Ao22 t151.length co22] 41 (0,0)) (by (with_reducible repeat first|apply zN|apply zD|apply zA);exact BK156.out) hg (Kd.N_ne HO170.out BK156.out (by decide)))
              have n4_:=Aside0.mk (Kd.N_afterv (ok:=(fun k_ => some k_ ≠ (.slice Ao17 t142.length co17:Value).ownBlock ∧ some k_ ≠ (.slice Ao22 t151.length co22:Value).ownBlock ∧ k_ ≠ gb147 ∧ k_ ≠ gb156 ∧ k_ ≠ gb166 ∧ k_ ≠ gb167)) (by (with_reducible repeat first|apply Kd.N_alloc|apply Kd.N_drewN|apply Kd.N_drew);exact HO163.out) hg hat)
              have n5_:=Aside0.mk (blk_grown (g:=gb166) (o:=.cells #[.string t158,.string t159,.int .u64 t160,.slice Ao88 t161.length co88] 41 (0,0)) (by (with_reducible repeat first|apply zN|apply zD|apply zA);exact BK166.out) hg (Kd.N_ne HO170.out BK166.out (by decide)))
              have n6_:=Aside0.mk (blk_grown (g:=gb167) (o:=.cells #[.string t139,.string t140,.int .u64 t141,.slice Ao17 t142.length co17] 41 (0,0)) (by (with_reducible repeat first|apply zN|apply zD|apply zA);exact BK167.out) hg (Kd.N_ne HO170.out BK167.out (by decide)))
              have n7_ := Aside0.mk (hb)
              have n8_ := Aside0.mk (ho)
              clear HO_148003
              clear HO_157003
              clear BK147
              clear BK156
              clear HO163
              clear BK166
              clear BK167
              clear HB
              clear HO170
              have HO_148003 := n0_
              have HO_157003 := n1_
              have BK147 := n2_
              have BK156 := n3_
              have HO163 := n4_
              have BK166 := n5_
              have BK167 := n6_
              have HB := n7_
              have HO173 := n8_
              clear n0_ n1_ n2_ n3_ n4_ n5_ n6_ n7_ n8_
              clear ho hb hg hat
              refine hK.out _ _ ⟨(blk_cell BK147.out 0).trans rfl,(blk_cell BK147.out 1).trans rfl,(blk_cell BK147.out 2).trans rfl,(blk_cell BK147.out 3).trans rfl,(blk_cell BK156.out 0).trans rfl,(blk_cell BK156.out 1).trans rfl,(blk_cell BK156.out 2).trans rfl,(blk_cell BK156.out 3).trans rfl⟩ (fun hHeld => ?_)
              clear hK K
              refine norm_ (a' := ?_) ?_ ?_
              rotate_left
              ·show Act.put _ (some 58) _ = _
               simp only [Act.put, List.setIfInBounds_toArray, List.set_cons_zero, List.set_cons_succ, i64_w, i32_w]
               rfl
              refine one_ (i := 6) (N := some 61) #[true, true, true, true, true, true, true, false, false] rfl rfl (one_of HT_.out (by kernel_rfl)) (by decide) (fun K hK => ?_)
              refine Kd.N_append_rows_step k81 (w0:=w) w.heap.size (by rfl) (.tmp 58) (.tmp 60) 39 81 (.agg #[(.string ⟨#[]⟩),(.int .u64 0),(.slice none 0 0),(.int .i64 0),(.slice none 0 0),(.int .i64 0),(.int .u64 0),(.string ⟨#[]⟩),(.int .u64 0)]) 120 rfl Tryd.underlying39 info81 rfl (by decide) (by omega) v172 y171 t151 _ _ _ (fun k_ => some k_ ≠ (.slice Ao88 t161.length co88:Value).ownBlock ∧ k_ ≠ gb147 ∧ k_ ≠ gb156 ∧ k_ ≠ gb166 ∧ k_ ≠ gb167) (fun k_ => ((fun k_ => some k_ ≠ (.slice Ao88 t161.length co88:Value).ownBlock ∧ k_ ≠ gb147 ∧ k_ ≠ gb156 ∧ k_ ≠ gb166 ∧ k_ ≠ gb167)) k_ ∧ some k_ ≠ (v172:Value).ownBlock) rfl rfl ?aO ?aR (fun _ hk => hk) ?aF ?aB ?aS ?aL ?_
              (case aR => exact (by skip;exact Kd.N_F (Kd.N_mono (ok':=(fun k_ => ((fun k_ => some k_ ≠ (.slice Ao88 t161.length co88:Value).ownBlock ∧ k_ ≠ gb147 ∧ k_ ≠ gb156 ∧ k_ ≠ gb166 ∧ k_ ≠ gb167)) k_ ∧ some k_ ≠ (v172:Value).ownBlock)) (HO_157003.out) (fun k_ hk => ⟨⟨hk.1.2.1,⟨hk.1.2.2.1,⟨hk.1.2.2.2.1,⟨hk.1.2.2.2.2.1,hk.1.2.2.2.2.2⟩⟩⟩⟩,hk.2⟩))))
              (case aB => exact (by repeat (first|(with_reducible first|exact HB.out|apply below_alloc|apply pw_below_drewN|apply below_drew1|refine below_set ?_ GE147.out|refine below_set ?_ GE156.out|refine below_set ?_ GE166.out|refine below_set ?_ GE167.out)|exact HB.out)))
              (case aF => exact (fun k_ hk => ⟨Kd.fresh' (Kd.N_lt (by (with_reducible repeat first|apply Kd.N_alloc|apply Kd.N_drewN|apply Kd.N_drew);exact HO163.out)) k_ hk,Kd.freshB (g:=gb147) (o:=.cells #[.string t139,.string t140,.int .u64 t141,.slice Ao17 t142.length co17] 41 (0,0)) (by (with_reducible repeat first|apply zN|apply zD|apply zA);exact BK147.out) k_ hk,Kd.freshB (g:=gb156) (o:=.cells #[.string t148,.string t149,.int .u64 t150,.slice Ao22 t151.length co22] 41 (0,0)) (by (with_reducible repeat first|apply zN|apply zD|apply zA);exact BK156.out) k_ hk,Kd.freshB (g:=gb166) (o:=.cells #[.string t158,.string t159,.int .u64 t160,.slice Ao88 t161.length co88] 41 (0,0)) (by (with_reducible repeat first|apply zN|apply zD|apply zA);exact BK166.out) k_ hk,Kd.freshB (g:=gb167) (o:=.cells #[.string t139,.string t140,.int .u64 t141,.slice Ao17 t142.length co17] 41 (0,0)) (by (with_reducible repeat first|apply zN|apply zD|apply zA);exact BK167.out) k_ hk⟩))
              (case aO => exact (by (with_reducible repeat first|apply Kd.N_alloc|apply Kd.N_drewN|apply Kd.N_drew);exact Kd.N_mono HO173.out (fun _ hk => ⟨hk.2.1,⟨hk.2.2.1,⟨hk.2.2.2.1,⟨hk.2.2.2.2.1,hk.2.2.2.2.2⟩⟩⟩⟩)))
              (case aS => exact (below_size (by repeat (first|(with_reducible first|exact HB.out|apply below_alloc|apply pw_below_drewN|apply below_drew1|refine below_set ?_ GE147.out|refine below_set ?_ GE156.out|refine below_set ?_ GE166.out|refine below_set ?_ GE167.out)|exact HB.out))))
              (case aL => have := LMc31.out; omega)
              intro v175 w101 ho hb hg hat
              rw [← Ny174.out] at ho
              have n0_:=Aside0.mk (Kd.N_afterv (ok:=(fun k_ => some k_ ≠ (.slice Ao22 t151.length co22:Value).ownBlock ∧ some k_ ≠ (.slice Ao88 t161.length co88:Value).ownBlock ∧ k_ ≠ gb147 ∧ k_ ≠ gb156 ∧ k_ ≠ gb166 ∧ k_ ≠ gb167)) (by (with_reducible repeat first|apply Kd.N_alloc|apply Kd.N_drewN|apply Kd.N_drew);exact HO_148003.out) hg hat)
              have n1_:=Aside0.mk (Kd.N_afterv (ok:=(fun k_ => some k_ ≠ (.slice Ao17 t142.length co17:Value).ownBlock ∧ some k_ ≠ (.slice Ao88 t161.length co88:Value).ownBlock ∧ k_ ≠ gb147 ∧ k_ ≠ gb156 ∧ k_ ≠ gb166 ∧ k_ ≠ gb167)) (by (with_reducible repeat first|apply Kd.N_alloc|apply Kd.N_drewN|apply Kd.N_drew);exact HO_157003.out) hg hat)
              have n2_:=Aside0.mk (blk_grown (g:=gb147) (o:=.cells #[.string t139,.string t140,.int .u64 t141,.slice Ao17 t142.length co17] 41 (0,0)) (by (with_reducible repeat first|apply zN|apply zD|apply zA);exact BK147.out) hg (Kd.N_ne HO173.out BK147.out (by decide)))
              have n3_:=Aside0.mk (blk_grown (g:=gb156) (o:=.cells #[.string t148,.string t149,.int .u64 t150,.slice Ao22 t151.length co22] 41 (0,0)) (by (with_reducible repeat first|apply zN|apply zD|apply zA);exact BK156.out) hg (Kd.N_ne HO173.out BK156.out (by decide)))
              have n4_:=Aside0.mk (Kd.N_afterv (ok:=(fun k_ => some k_ ≠ (.slice Ao17 t142.length co17:Value).ownBlock ∧ some k_ ≠ (.slice Ao22 t151.length co22:Value).ownBlock ∧ k_ ≠ gb147 ∧ k_ ≠ gb156 ∧ k_ ≠ gb166 ∧ k_ ≠ gb167)) (by (with_reducible repeat first|apply Kd.N_alloc|apply Kd.N_drewN|apply Kd.N_drew);exact HO163.out) hg hat)
              have n5_:=Aside0.mk (blk_grown (g:=gb166) (o:=.cells #[.string t158,.string t159,.int .u64 t160,.slice Ao88 t161.length co88] 41 (0,0)) (by (with_reducible repeat first|apply zN|apply zD|apply zA);exact BK166.out) hg (Kd.N_ne HO173.out BK166.out (by decide)))
              have n6_:=Aside0.mk (blk_grown (g:=gb167) (o:=.cells #[.string t139,.string t140,.int .u64 t141,.slice Ao17 t142.length co17] 41 (0,0)) (by (with_reducible repeat first|apply zN|apply zD|apply zA);exact BK167.out) hg (Kd.N_ne HO173.out BK167.out (by decide)))
              have n7_ := Aside0.mk (hb)
              have n8_ := Aside0.mk (ho)
              clear HO_148003
              clear HO_157003
              clear BK147
              clear BK156
              clear HO163
              clear BK166
              clear BK167
              clear HB
              clear HO173
              have HO_148003 := n0_
              have HO_157003 := n1_
              have BK147 := n2_
              have BK156 := n3_
              have HO163 := n4_
              have BK166 := n5_
              have BK167 := n6_
              have HB := n7_
              have HO176 := n8_
              clear n0_ n1_ n2_ n3_ n4_ n5_ n6_ n7_ n8_
              clear ho hb hg hat
              obtain ⟨Ao102, co102, eo102⟩ := Kd.N_slice HO176.out
              (first | subst eo102 | (injection eo102 with f1_ f2_ f3_; have f4_ := f1_.symm; have f5_ := f3_.symm; clear f1_ f2_ f3_; subst f4_; subst f5_))
              refine hK.out _ _ ⟨(blk_cell BK147.out 0).trans rfl,(blk_cell BK147.out 1).trans rfl,(blk_cell BK147.out 2).trans rfl,(blk_cell BK147.out 3).trans rfl,(blk_cell BK156.out 0).trans rfl,(blk_cell BK156.out 1).trans rfl,(blk_cell BK156.out 2).trans rfl,(blk_cell BK156.out 3).trans rfl⟩ (fun hHeld => ?_)
              clear hK K
              refine norm_ (a' := ?_) ?_ ?_
              rotate_left
              ·show Act.put _ (some 61) _ = _
               simp only [Act.put, List.setIfInBounds_toArray, List.set_cons_zero, List.set_cons_succ, i64_w, i32_w]
               rfl
              refine pure_ (i:=7) (N:=some 62) (v:=?_) (a':=?_) #[true,true,true,true,true,true,true,true,false] rfl rfl (any_of HT_.out (by kernel_rfl)) (fun _ _ _ h => h) (Or.inl ⟨by rfl,?_⟩) ?_ ?_
              rotate_left
              ·intro w'
               go_simp
               with_reducible rfl
              rotate_left
              ·simp only [Act.put, List.setIfInBounds_toArray, List.set_cons_zero, List.set_cons_succ, i64_w, i32_w]
               rfl
              refine one_ (i := 8) (N := none) #[true, true, true, true, true, true, true, true, true] rfl rfl (one_of HT_.out (by kernel_rfl)) (by decide) (fun K hK => ?_)
              have hs103 : w101.cell? ⟨gb167, 3, none⟩ = some (.slice Ao17 t142.length co17) := (blk_cell BK167.out 3).trans rfl
              have hfs103 := blk_frozen BK167.out 3
              have hns103_0 := NB147_167.out
              have hns103_1 := NB156_167.out
              have hns103_2 := NB166_167.out
              have hms103_0 := NB167_147.out
              have hms103_1 := NB167_156.out
              have hms103_2 := NB167_166.out
              refine skip_ (w1 := ?_) (by rfl) rfl ?_ ?_
              rotate_left
              ·go_simp
               rfl
              refine hK.out _ _ ⟨((cell_far (p:=⟨gb167,_,none⟩) NB147_167.out _).trans (hHeld.1)),((cell_far (p:=⟨gb167,_,none⟩) NB147_167.out _).trans (hHeld.2.1)),((cell_far (p:=⟨gb167,_,none⟩) NB147_167.out _).trans (hHeld.2.2.1)),((cell_far (p:=⟨gb167,_,none⟩) NB147_167.out _).trans (hHeld.2.2.2.1)),((cell_far (p:=⟨gb167,_,none⟩) NB156_167.out _).trans (hHeld.2.2.2.2.1)),((cell_far (p:=⟨gb167,_,none⟩) NB156_167.out _).trans (hHeld.2.2.2.2.2.1)),((cell_far (p:=⟨gb167,_,none⟩) NB156_167.out _).trans (hHeld.2.2.2.2.2.2.1)),((cell_far (p:=⟨gb167,_,none⟩) NB156_167.out _).trans (hHeld.2.2.2.2.2.2.2))⟩ (fun hHeld => ?_)
              clear hK K
              refine done_ (done_of HT_.out (by kernel_rfl)) ?_
              try go_wp2_with (first|((with_reducible refine gate_callee (f:=23) rfl ?_);refine goesL_ (some 63) rfl rfl Tryd.func23 (by kernel_rfl) rfl #[] rfl (by (try simp only [List.map_toArray,List.map_cons,List.map_nil]);first|done|rfl|(simp only [List.length_drop,List.length_take];rfl)) ?_;(with_reducible refine (doorwardlaw15_alive.calls  false _ ?side1 A32.out).mono ?_);(case side1 => exact LaidAt.of HLD.out (by repeat (first|(with_reducible first|exact HB.out|apply below_alloc|apply pw_below_drewN|apply below_drew1|refine below_set ?_ GE147.out|refine below_set ?_ GE156.out|refine below_set ?_ GE166.out|refine below_set ?_ GE167.out)|exact HB.out)));rintro e w104 ⟨rfl,hb⟩;refine ⟨_,rfl,?_⟩;have n0_:=Aside0.mk (Kd.N_below (by (with_reducible repeat first|apply Kd.N_alloc|apply Kd.N_drewN|apply Kd.N_drew);exact (Kd.N_mono (Kd.N_far (p:=⟨gb167,3,none⟩) (Kd.N_mono HO_148003.out (fun k_ hk => (⟨hk,hk.1.2.2.2.2.2⟩:_ ∧ k_ ≠ gb167))) (fun _ hk => hk.2) (.slice Ao102 y174.length co102)) (fun _ h_ => h_.1))) hb);have n1_:=Aside0.mk (Kd.N_below (by (with_reducible repeat first|apply Kd.N_alloc|apply Kd.N_drewN|apply Kd.N_drew);exact (Kd.N_mono (Kd.N_far (p:=⟨gb167,3,none⟩) (Kd.N_mono HO_157003.out (fun k_ hk => (⟨hk,hk.1.2.2.2.2.2⟩:_ ∧ k_ ≠ gb167))) (fun _ hk => hk.2) (.slice Ao102 y174.length co102)) (fun _ h_ => h_.1))) hb);have n2_:=Aside0.mk (Kd.N_below (by (with_reducible repeat first|apply Kd.N_alloc|apply Kd.N_drewN|apply Kd.N_drew);exact (Kd.N_mono (Kd.N_far (p:=⟨gb167,3,none⟩) (Kd.N_mono HO163.out (fun k_ hk => (⟨hk,hk.1.2.2.2.2.2⟩:_ ∧ k_ ≠ gb167))) (fun _ hk => hk.2) (.slice Ao102 y174.length co102)) (fun _ h_ => h_.1))) hb);have n3_:=Aside0.mk (Kd.N_below (by (with_reducible repeat first|apply Kd.N_alloc|apply Kd.N_drewN|apply Kd.N_drew);exact (Kd.N_mono (Kd.N_far (p:=⟨gb167,3,none⟩) (Kd.N_mono HO176.out (fun k_ hk => (⟨hk,hk.2.2.2.2⟩:_ ∧ k_ ≠ gb167))) (fun _ hk => hk.2) (.slice Ao102 y174.length co102)) (fun _ h_ => h_.1))) hb);have n4_:=Aside0.mk (blk_below (g:=gb147) (o:=.cells #[.string t139,.string t140,.int .u64 t141,.slice Ao17 t142.length co17] 41 (0,0)) (by (with_reducible repeat first|apply zN|apply zD|apply zA);refine blk_far ?_ NB147_167.out _;(with_reducible repeat first|apply zN|apply zD|apply zA);exact BK147.out) hb);have n5_:=Aside0.mk (blk_below (g:=gb156) (o:=.cells #[.string t148,.string t149,.int .u64 t150,.slice Ao22 t151.length co22] 41 (0,0)) (by (with_reducible repeat first|apply zN|apply zD|apply zA);refine blk_far ?_ NB156_167.out _;(with_reducible repeat first|apply zN|apply zD|apply zA);exact BK156.out) hb);have n6_:=Aside0.mk (blk_below (g:=gb166) (o:=.cells #[.string t158,.string t159,.int .u64 t160,.slice Ao88 t161.length co88] 41 (0,0)) (by (with_reducible repeat first|apply zN|apply zD|apply zA);refine blk_far ?_ NB166_167.out _;(with_reducible repeat first|apply zN|apply zD|apply zA);exact BK166.out) hb);have n7_:=Aside0.mk (blk_below (g:=gb167) (o:=.cells #[.string t139,.string t140,.int .u64 t141,.slice Ao102 y174.length co102] 41 (0,0)) (by (with_reducible repeat first|apply zN|apply zD|apply zA);refine blk_put (cs:=#[.string t139,.string t140,.int .u64 t141,.slice Ao17 t142.length co17]) ?_ 3 _ rfl;(with_reducible repeat first|apply zN|apply zD|apply zA);exact BK167.out) hb);have n8_:=Aside0.mk (below_step (by repeat (first|(with_reducible first|exact HB.out|apply below_alloc|apply pw_below_drewN|apply below_drew1|refine below_set ?_ GE147.out|refine below_set ?_ GE156.out|refine below_set ?_ GE166.out|refine below_set ?_ GE167.out)|exact HB.out)) hb);clear HO_148003;clear HO_157003;clear HO163;clear HO176;clear BK147;clear BK156;clear BK166;clear BK167;clear HB;have HO_148003:=n0_;have HO_157003:=n1_;have HO163:=n2_;have HO176:=n3_;have BK147:=n4_;have BK156:=n5_;have BK166:=n6_;have BK167:=n7_;have HB:=n8_;clear n0_ n1_ n2_ n3_ n4_ n5_ n6_ n7_ n8_;(try clear hb);(try clear hb2);(try clear hk);(try clear hi)))
              go_ret
              exact ⟨by first|rfl|(simp [errW_none,errW_some] <;> rfl)|(simp only [← hji3,← hji6];first|rfl|(simp [errW_none,errW_some] <;> rfl))|(simp [*,errW_none,errW_some] <;> rfl),by repeat (first|(with_reducible first|exact HB.out|apply below_alloc|apply pw_below_drewN|apply below_drew1|refine below_set ?_ GE147.out|refine below_set ?_ GE156.out|refine below_set ?_ GE166.out|refine below_set ?_ GE167.out)|exact HB.out)⟩
            ·rw [if_neg c31] at H
             exact absurd H (by simp)
           ·rw [if_neg c30] at H
            exact absurd H (by simp)
          ·rw [if_neg c28] at H
           exact absurd H (by simp)
         ·rw [if_neg c27] at H
          exact absurd H (by simp)
     ·rw [if_neg c10] at H
      exact absurd H (by simp)
    ·rw [if_neg c8] at H
     exact absurd H (by simp)
   ·rw [if_neg c7] at H
    exact absurd H (by simp)
  ·rw [if_neg c5] at H
   exact absurd H (by simp)
 ·rw [if_neg c4] at H
  exact absurd H (by simp)

end Go.Proofs.YtdfjjimmnbijmaaDoor.PP

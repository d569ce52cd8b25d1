import Derived.Test.YtdfjjimmnbijmaaDoorSQv
namespace Go.Proofs.YtdfjjimmnbijmaaDoor.SQ
open Go.RowKit Go.Proofs.YtdfjjimmnbijmaaDoorW.PrintWords Go.Proofs.YtdfjjimmnbijmaaDoorW.PrintLast Go.Proofs.YtdfjjimmnbijmaaDoorW.PrintMore Go.Proofs.YtdfjjimmnbijmaaDoor.Base
attribute [local go_sem] max2_int min2_int max_two min_two max_three min_three max_four min_four
set_option linter.unusedVariables false
set_option linter.unusedSimpArgs false
/-! ### a call of a function value in a region that draws -/
section
variable {P : Program} {ops : Array Oper} {Q : Exit → Act → World → Prop}
theorem goesV_ {oi : Oper} {N : Option Tmp} {a : Act} {w : World} {K : Act → World → Prop} {f : FuncId} {fn : Func} {as_ : Array Operand} {ts : Array TypeId} {x : Operand} (hf : P.funcs[f]? = some fn) (hname : (fn.name == "runtime.NumGoroutine") = false) (hb : fn.body.isSome = true) (args : Array Value)
    (hw : Region.wanted oi (yielded ops a.tmps) = true) (hN : oi.dst = N) (hop : oi.op = .call { callee := .value x, args := as_, argTypes := ts }) (hx : a.eval x = .func (.func f) #[] #[]) (hargs : as_.map a.eval = args)
    (h : Calls P f args w fun e w' => ∃ v, e = .returned v ∧ K (a.put N v) w') : if Region.wanted oi (yielded ops a.tmps) = true then Oper.wp P oi a w K Q else K (a.put N undef) w := by
  refine call_ f args hw hN ?_ h
  have he := enters_ hf hname hb args w
  unfold execOp
  simp [hop, resolve, Deferred.ofValue, invoke, hx, hargs, he]
end
/-! ### ShowParts: its closures -/
theorem jt_ext {a b : ByteArray} (h : a.data.toList = b.data.toList) : a = b := by
  apply ByteArray.ext; apply Array.ext'; exact h
theorem joinT_two (b x y : ByteArray) : joinT b [x, y] = x ++ b ++ y := by
  apply jt_ext
  unfold joinT
  simp [Lib.join_cons, Lib.joinTail]
def grp (b : Bool) (s : ByteArray) : ByteArray := if b = true then ⟨#[40]⟩ ++ s ++ ⟨#[41]⟩ else s
def manyB (c : CN) : Bool := c.f0 == 1 || c.f0 == 2
theorem grp_fact (c : CN) : grp (manyB c) (writeC c) = factC c := by
  unfold grp manyB factC
  by_cases h1 : c.f0 = 1
  · rw [if_pos (by simp [h1]), if_pos (Or.inl h1)]
  · by_cases h2 : c.f0 = 2
    · rw [if_pos (by simp [h2]), if_pos (Or.inr h2)]
    · rw [if_neg (by simp [h1, h2]), if_neg (by omega)]
theorem grp_or (c : CN) : grp (c.f0 == 2) (writeC c) = orC c := by
  unfold grp orC factC
  by_cases h1 : c.f0 = 1
  · rw [if_neg (by simp [h1]), if_pos h1]
  · by_cases h2 : c.f0 = 2
    · rw [if_pos (by simp [h2]), if_neg h1, if_pos (Or.inr h2)]
    · rw [if_neg (by simp [h2]), if_neg h1, if_neg (by omega)]
set_option maxRecDepth 100000 in
theorem factorc_any (s : ByteArray) (hs : s.size ≤ 1000000000) (b : Bool) (w : World) : Calls Tryd.prog 30 #[.string s, .bool b] w fun e w' => e = .returned (.string (grp b s)) ∧ Below w.heap.size w w' := by
  have z0 : (9223372036854775807 < 1 + s.size) = False := eq_false (by omega)
  have z1 : (9223372036854775807 < 1 + s.size + 1) = False := eq_false (by omega)
  clear hs
  cases b with
  | true =>
    go_enter Tryd.func30, Tryd.ntmps30
    go_wp2_with fail
    all_goals go_ret
    exact ⟨rfl, Below.refl _ _⟩
  | false =>
    go_enter Tryd.func30, Tryd.ntmps30
    go_wp2_with fail
    all_goals go_ret
    exact ⟨rfl, Below.refl _ _⟩
set_option maxRecDepth 100000 in
theorem manyc_any (c : CN) (A : Option Addr) (ca : Nat) (w : World) : Calls Tryd.prog 31 #[.agg #[.int .i64 c.f0, .slice A c.f1.length ca, .int .i64 c.f2, .int .u64 c.f3, .string c.f4, .int .u64 c.f5]] w fun e w' => e = .returned (.bool (manyB c)) ∧ Below w.heap.size w w' := by
  have hb0 : Below w.heap.size w (w.alloc (.cells #[.int .i64 c.f0, .slice A c.f1.length ca, .int .i64 c.f2, .int .u64 c.f3, .string c.f4, .int .u64 c.f5] 47)) := (Below.refl _ _).alloc (Nat.le_refl _) _
  have HB := Aside0.mk hb0
  clear hb0
  by_cases h1 : c.f0 = 1
  · have HM := Aside0.mk (show true = manyB c by unfold manyB; simp [h1])
    have c1 : (c.f0 == 1) = true := by simp [h1]
    clear h1
    go_enter Tryd.func31, Tryd.ntmps31
    go_wp2_with fail
    all_goals go_ret
    exact ⟨congrArg (fun b => Ending.returned (.bool b)) HM.out, HB.out⟩
  · have c1 : (c.f0 == 1) = false := by simp [h1]
    by_cases h2 : c.f0 = 2
    · have HM := Aside0.mk (show true = manyB c by unfold manyB; simp [h2])
      have c2 : (c.f0 == 2) = true := by simp [h2]
      clear h1 h2
      go_enter Tryd.func31, Tryd.ntmps31
      go_wp2_with fail
      all_goals go_ret
      exact ⟨congrArg (fun b => Ending.returned (.bool b)) HM.out, HB.out⟩
    · have HM := Aside0.mk (show false = manyB c by unfold manyB; simp [h1, h2])
      have c2 : (c.f0 == 2) = false := by simp [h2]
      clear h1 h2
      go_enter Tryd.func31, Tryd.ntmps31
      go_wp2_with fail
      all_goals go_ret
      exact ⟨congrArg (fun b => Ending.returned (.bool b)) HM.out, HB.out⟩
/-! ### conditions that are made of conditions -/
theorem lit_C (xs : List CN) (cells : List Value) (W W1 : World) (hr : Reps (k47.K W1) 6 xs cells) (hW : W1 = W.alloc (.cells cells.toArray 47)) (hl : xs.length ≤ 1000) : Kd.C k47 W1 (some ⟨W.heap.size, 0, none⟩) xs.length xs := by
  refine ⟨rfl, by omega, fun _ => ⟨_, rfl, fun j p hj => ?_⟩⟩
  have hjl := (List.getElem?_eq_some_iff.1 hj).1
  refine ⟨(cells.drop (j * 6)).take 6, ?_, hr.2 j p hj, fun i u hu => ?_⟩
  · rw [List.length_take, List.length_drop, hr.1]
    show min 6 (xs.length * 6 - j * 6) = 6
    omega
  · rw [add_plain, hW, show j * k47.sz + i = j * 6 + i from rfl, blk_cell (blk_new W _)]
    rw [List.getElem?_take] at hu
    split at hu
    · rw [List.getElem?_drop] at hu; simpa using hu
    · cases hu
theorem lit_C1 (c : CN) (A : Option Addr) (ca : Nat) (W : World) (hC : Kd.C k47 W A c.f1.length c.f1) (hca : c.f1.length ≤ ca) : Kd.C k47 (W.alloc (.cells #[.int .i64 c.f0, .slice A c.f1.length ca, .int .i64 c.f2, .int .u64 c.f3, .string c.f4, .int .u64 c.f5] 47)) (some ⟨W.heap.size, 0, none⟩) 1 [c] := by
  have hC' := Kd.C_below hC ((Below.refl W.heap.size W).alloc (Nat.le_refl _) (.cells #[.int .i64 c.f0, .slice A c.f1.length ca, .int .i64 c.f2, .int .u64 c.f3, .string c.f4, .int .u64 c.f5] 47))
  refine lit_C [c] [.int .i64 c.f0, .slice A c.f1.length ca, .int .i64 c.f2, .int .u64 c.f3, .string c.f4, .int .u64 c.f5] W _ ⟨rfl, fun j p hj => ?_⟩ rfl (by simp)
  match j, hj with
  | 0, hj => cases hj; exact k47_mk _ c hca hC'
  | j + 1, hj => simp at hj
theorem lit_C2 (c d : CN) (A B : Option Addr) (ca cb : Nat) (W : World) (hC : Kd.C k47 W A c.f1.length c.f1) (hca : c.f1.length ≤ ca) (hD : Kd.C k47 W B d.f1.length d.f1) (hcb : d.f1.length ≤ cb) :
    Kd.C k47 (W.alloc (.cells #[.int .i64 c.f0, .slice A c.f1.length ca, .int .i64 c.f2, .int .u64 c.f3, .string c.f4, .int .u64 c.f5, .int .i64 d.f0, .slice B d.f1.length cb, .int .i64 d.f2, .int .u64 d.f3, .string d.f4, .int .u64 d.f5] 47)) (some ⟨W.heap.size, 0, none⟩) 2 [c, d] := by
  have hb := (Below.refl W.heap.size W).alloc (Nat.le_refl _) (.cells #[.int .i64 c.f0, .slice A c.f1.length ca, .int .i64 c.f2, .int .u64 c.f3, .string c.f4, .int .u64 c.f5, .int .i64 d.f0, .slice B d.f1.length cb, .int .i64 d.f2, .int .u64 d.f3, .string d.f4, .int .u64 d.f5] 47)
  have hC' := Kd.C_below hC hb
  have hD' := Kd.C_below hD hb
  refine lit_C [c, d] [.int .i64 c.f0, .slice A c.f1.length ca, .int .i64 c.f2, .int .u64 c.f3, .string c.f4, .int .u64 c.f5, .int .i64 d.f0, .slice B d.f1.length cb, .int .i64 d.f2, .int .u64 d.f3, .string d.f4, .int .u64 d.f5] W _ ⟨rfl, fun j p hj => ?_⟩ rfl (by simp)
  match j, hj with
  | 0, hj => cases hj; exact k47_mk _ c hca hC'
  | 1, hj => cases hj; exact k47_mk _ d hcb hD'
  | j + 2, hj => simp at hj
theorem zero_rng (k : Int) (l : List CN) (h : rngL l = true) : rngC ⟨k, l, 0, 0, ⟨#[]⟩, 0⟩ = true := by
  rw [rngC_iff]
  exact ⟨⟨by show (-9223372036854775808 : Int) ≤ 0; decide, by show (0 : Int) ≤ 9223372036854775807; decide, by show (0 : Int) ≤ 0; decide, by show (0 : Int) < 18446744073709551616; decide, by show (0 : Int) ≤ 0; decide, by show (0 : Int) < 18446744073709551616; decide⟩, h⟩
theorem right_parts {c : CN} (h : rightS c = true) : nodesC c ≤ 100 ∧ fitsC c = true := by
  unfold rightS at h
  rw [Bool.and_eq_true, decide_eq_true_eq] at h
  exact h
theorem right_not {c : CN} (h : rightS c = true) (hn : nodesC c ≤ 40) : rightS ⟨3, [c], 0, 0, ⟨#[]⟩, 0⟩ = true := by
  unfold rightS
  rw [Bool.and_eq_true, decide_eq_true_eq, fitsC_eq, nodesC_eq]
  refine ⟨by show 1 + nodesL [c] ≤ 100; rw [nodesL, nodesL]; omega, ?_⟩
  rw [Bool.and_eq_true]
  exact ⟨by simp [oneS, bareS, Lib.toList_data], by show fitsL [c] = true; rw [fitsL, fitsL, (right_parts h).2]; rfl⟩
theorem right_two {c d : CN} (k : Int) (hk : k = 1 ∨ k = 2) (h : rightS c = true) (hd : rightS d = true) (hn : nodesC c ≤ 40) (hm : nodesC d ≤ 40) : rightS ⟨k, [c, d], 0, 0, ⟨#[]⟩, 0⟩ = true := by
  unfold rightS
  rw [Bool.and_eq_true, decide_eq_true_eq, fitsC_eq, nodesC_eq]
  refine ⟨by show 1 + nodesL [c, d] ≤ 100; rw [nodesL, nodesL, nodesL]; omega, ?_⟩
  rw [Bool.and_eq_true]
  refine ⟨?_, by show fitsL [c, d] = true; rw [fitsL, fitsL, fitsL, (right_parts h).2, (right_parts hd).2]; rfl⟩
  rcases hk with rfl | rfl <;> simp [oneS, bareS, Lib.toList_data]
theorem cond_any1 (c : CN) (h : rightS c = true) (hr : rngC c = true) (A : Option Addr) (cap : Nat) (w : World) (hC : Kd.C k47 w A c.f1.length c.f1) (hcap : c.f1.length ≤ cap) (hLd : LaidAt w) :
    Calls Tryd.prog 29 #[.agg #[.int .i64 c.f0, .slice A c.f1.length cap, .int .i64 c.f2, .int .u64 c.f3, .string c.f4, .int .u64 c.f5]] w fun e w' => e = .returned (.tuple #[.string (writeC c), .int .i64 0]) ∧ Below w.heap.size w w' := by
  have h_ := cond_any c hr A cap w hC hcap hLd
  unfold condS at h_
  rw [if_pos h] at h_
  exact h_
theorem write_not_eq (c : CN) : writeC ⟨3, [c], 0, 0, ⟨#[]⟩, 0⟩ = ⟨#[110, 111, 116, 32]⟩ ++ factC c := by
  rw [writeC_not rfl rfl, joinT_two]; rfl
theorem write_and_eq (c d : CN) : writeC ⟨1, [c, d], 0, 0, ⟨#[]⟩, 0⟩ = factC c ++ ⟨#[32, 97, 110, 100, 32]⟩ ++ factC d := by
  rw [writeC_and rfl]; exact joinT_two _ _ _
theorem write_or_eq (c d : CN) : writeC ⟨2, [c, d], 0, 0, ⟨#[]⟩, 0⟩ = orC c ++ ⟨#[32, 111, 114, 32]⟩ ++ orC d := by
  rw [writeC_or rfl]; exact joinT_two _ _ _
/-! ### ShowParts -/
set_option maxHeartbeats 12800000 in
set_option maxRecDepth 100000 in
theorem parts_any (c d : CN) (hrc : rngC c = true) (hrd : rngC d = true) (A B : Option Addr) (ca cb : Nat) (w : World) (hC : Kd.C k47 w A c.f1.length c.f1) (hca : c.f1.length ≤ ca) (hD : Kd.C k47 w B d.f1.length d.f1) (hcb : d.f1.length ≤ cb) (hLd : LaidAt w) :
    Calls Tryd.prog 11 #[.agg #[.int .i64 c.f0, .slice A c.f1.length ca, .int .i64 c.f2, .int .u64 c.f3, .string c.f4, .int .u64 c.f5], .agg #[.int .i64 d.f0, .slice B d.f1.length cb, .int .i64 d.f2, .int .u64 d.f3, .string d.f4, .int .u64 d.f5]] w fun e w' => e = .returned (.bool true) ∧ Below w.heap.size w w' := by
  have hb0 : Below w.heap.size w ((w.alloc (.cells #[.int .i64 c.f0, .slice A c.f1.length ca, .int .i64 c.f2, .int .u64 c.f3, .string c.f4, .int .u64 c.f5] 47)).alloc (.cells #[.int .i64 d.f0, .slice B d.f1.length cb, .int .i64 d.f2, .int .u64 d.f3, .string d.f4, .int .u64 d.f5] 47)) := ((Below.refl _ _).alloc (Nat.le_refl _) _).alloc (by simp) _
  have hk0 : (((w.alloc (.cells #[.int .i64 c.f0, .slice A c.f1.length ca, .int .i64 c.f2, .int .u64 c.f3, .string c.f4, .int .u64 c.f5] 47)).alloc (.cells #[.int .i64 d.f0, .slice B d.f1.length cb, .int .i64 d.f2, .int .u64 d.f3, .string d.f4, .int .u64 d.f5] 47))).heap[w.heap.size]? = some (.cells #[.int .i64 c.f0, .slice A c.f1.length ca, .int .i64 c.f2, .int .u64 c.f3, .string c.f4, .int .u64 c.f5] 47 (0, 0)) := blk_alloc (blk_new w (.cells #[.int .i64 c.f0, .slice A c.f1.length ca, .int .i64 c.f2, .int .u64 c.f3, .string c.f4, .int .u64 c.f5] 47)) _
  have hl0 : (((w.alloc (.cells #[.int .i64 c.f0, .slice A c.f1.length ca, .int .i64 c.f2, .int .u64 c.f3, .string c.f4, .int .u64 c.f5] 47)).alloc (.cells #[.int .i64 d.f0, .slice B d.f1.length cb, .int .i64 d.f2, .int .u64 d.f3, .string d.f4, .int .u64 d.f5] 47))).heap[w.heap.size + 1]? = some (.cells #[.int .i64 d.f0, .slice B d.f1.length cb, .int .i64 d.f2, .int .u64 d.f3, .string d.f4, .int .u64 d.f5] 47 (0, 0)) := by have h_ := blk_new (w.alloc (.cells #[.int .i64 c.f0, .slice A c.f1.length ca, .int .i64 c.f2, .int .u64 c.f3, .string c.f4, .int .u64 c.f5] 47)) (.cells #[.int .i64 d.f0, .slice B d.f1.length cb, .int .i64 d.f2, .int .u64 d.f3, .string d.f4, .int .u64 d.f5] 47); rw [World.size_alloc] at h_; exact h_
  have HC := Aside0.mk hC
  have HD := Aside0.mk hD
  have HCA := Aside0.mk hca
  have HCB := Aside0.mk hcb
  have HLD := Aside0.mk hLd
  have HRC := Aside0.mk hrc
  have HRD := Aside0.mk hrd
  have HB0 := Aside0.mk hb0
  have HK0 := Aside0.mk hk0
  have HL0 := Aside0.mk hl0
  clear hC hD hca hcb hLd hrc hrd hb0 hk0 hl0
  go_enter Tryd.func11, Tryd.ntmps11
  go_upto_region 1 with (fail)
  obtain ⟨V, hV⟩ : ∃ V, V = ((w.alloc (.cells #[.int .i64 c.f0, .slice A c.f1.length ca, .int .i64 c.f2, .int .u64 c.f3, .string c.f4, .int .u64 c.f5] 47)).alloc (.cells #[.int .i64 d.f0, .slice B d.f1.length cb, .int .i64 d.f2, .int .u64 d.f3, .string d.f4, .int .u64 d.f5] 47)) := ⟨_, rfl⟩
  rw [← hV] at HB0 HK0 HL0 ⊢
  clear hV
  by_cases hnc : nodesC c ≤ 40
  · have HNC := Aside0.mk hnc
    have m1 : decide (((manyS c 40 : Nat) : Int) > 40) = false := decide_eq_false (by unfold manyS; omega)
    have m2 : decide (40 < ((manyS c 40 : Nat) : Int)) = false := decide_eq_false (by unfold manyS; omega)
    have m3 : (40 < manyS c 40) = False := eq_false (by unfold manyS; omega)
    clear hnc
    have y0 : V.cell? ⟨w.heap.size, 0, none⟩ = some (.int .i64 c.f0) := blk_cell HK0.out 0
    have y1 : V.cell? ⟨w.heap.size, 1, none⟩ = some (.slice A c.f1.length ca) := blk_cell HK0.out 1
    have y2 : V.cell? ⟨w.heap.size, 2, none⟩ = some (.int .i64 c.f2) := blk_cell HK0.out 2
    have y3 : V.cell? ⟨w.heap.size, 3, none⟩ = some (.int .u64 c.f3) := blk_cell HK0.out 3
    have y4 : V.cell? ⟨w.heap.size, 4, none⟩ = some (.string c.f4) := blk_cell HK0.out 4
    have y5 : V.cell? ⟨w.heap.size, 5, none⟩ = some (.int .u64 c.f5) := blk_cell HK0.out 5
    go_wp2_with fail
    go_at_call 26
    refine (many_any c 40 (by omega) (by omega) A ca V (Kd.C_below HC.out HB0.out) HCA.out).mono ?_
    rintro e w1 ⟨rfl, hb1⟩
    have HB1 := Aside0.mk (HB0.out.trans (hb1.mono HB0.out.size))
    have HK1 := Aside0.mk (blk_below HK0.out hb1)
    have HL1 := Aside0.mk (blk_below HL0.out hb1)
    clear hb1 y0 y1 y2 y3 y4 y5
    by_cases hnd : nodesC d ≤ 40
    · have HND := Aside0.mk hnd
      have n1 : decide (((manyS d 40 : Nat) : Int) > 40) = false := decide_eq_false (by unfold manyS; omega)
      have n2 : decide (40 < ((manyS d 40 : Nat) : Int)) = false := decide_eq_false (by unfold manyS; omega)
      have n3 : (40 < manyS d 40) = False := eq_false (by unfold manyS; omega)
      clear hnd
      have z0 : w1.cell? ⟨w.heap.size + 1, 0, none⟩ = some (.int .i64 d.f0) := blk_cell HL1.out 0
      have z1 : w1.cell? ⟨w.heap.size + 1, 1, none⟩ = some (.slice B d.f1.length cb) := blk_cell HL1.out 1
      have z2 : w1.cell? ⟨w.heap.size + 1, 2, none⟩ = some (.int .i64 d.f2) := blk_cell HL1.out 2
      have z3 : w1.cell? ⟨w.heap.size + 1, 3, none⟩ = some (.int .u64 d.f3) := blk_cell HL1.out 3
      have z4 : w1.cell? ⟨w.heap.size + 1, 4, none⟩ = some (.string d.f4) := blk_cell HL1.out 4
      have z5 : w1.cell? ⟨w.heap.size + 1, 5, none⟩ = some (.int .u64 d.f5) := blk_cell HL1.out 5
      go_wp2_with fail
      go_at_call 26
      refine (many_any d 40 (by omega) (by omega) B cb w1 (Kd.C_below HD.out HB1.out) HCB.out).mono ?_
      rintro e w2 ⟨rfl, hb2⟩
      have HB2 := Aside0.mk (HB1.out.trans (hb2.mono HB1.out.size))
      have HK2 := Aside0.mk (blk_below HK1.out hb2)
      have HL2 := Aside0.mk (blk_below HL1.out hb2)
      clear hb2 z0 z1 z2 z3 z4 z5
      have HR1 := Aside0.mk (right16_any c A ca w2 (Kd.C_below HC.out HB2.out) HCA.out (LaidAt.of HLD.out HB2.out))
      cases hrc : rightS c with
      | false =>
        rw [hrc] at HR1
        clear hrc
        have y0 : w2.cell? ⟨w.heap.size, 0, none⟩ = some (.int .i64 c.f0) := blk_cell HK2.out 0
        have y1 : w2.cell? ⟨w.heap.size, 1, none⟩ = some (.slice A c.f1.length ca) := blk_cell HK2.out 1
        have y2 : w2.cell? ⟨w.heap.size, 2, none⟩ = some (.int .i64 c.f2) := blk_cell HK2.out 2
        have y3 : w2.cell? ⟨w.heap.size, 3, none⟩ = some (.int .u64 c.f3) := blk_cell HK2.out 3
        have y4 : w2.cell? ⟨w.heap.size, 4, none⟩ = some (.string c.f4) := blk_cell HK2.out 4
        have y5 : w2.cell? ⟨w.heap.size, 5, none⟩ = some (.int .u64 c.f5) := blk_cell HK2.out 5
        go_wp2_with fail
        go_at_call 27
        refine (HR1.out).mono ?_
        rintro e w3 ⟨rfl, hb3⟩
        have HB3 := Aside0.mk (HB2.out.trans (hb3.mono HB2.out.size))
        have HK3 := Aside0.mk (blk_below HK2.out hb3)
        have HL3 := Aside0.mk (blk_below HL2.out hb3)
        clear hb3 y0 y1 y2 y3 y4 y5
        go_wp2_with fail
        go_at_call 28
        refine (alive_any _ (LaidAt.of HLD.out HB3.out)).mono ?_
        rintro e w4 ⟨rfl, hbe⟩
        have HBe := Aside0.mk (HB3.out.trans (hbe.mono HB3.out.size))
        have HKe := Aside0.mk (blk_below HK3.out hbe)
        have HLe := Aside0.mk (blk_below HL3.out hbe)
        clear hbe
        go_wp2_with fail
        all_goals go_ret
        exact ⟨rfl, HBe.out⟩
      | true =>
        rw [hrc] at HR1
        have HRTC := Aside0.mk hrc
        clear hrc
        have y0 : w2.cell? ⟨w.heap.size, 0, none⟩ = some (.int .i64 c.f0) := blk_cell HK2.out 0
        have y1 : w2.cell? ⟨w.heap.size, 1, none⟩ = some (.slice A c.f1.length ca) := blk_cell HK2.out 1
        have y2 : w2.cell? ⟨w.heap.size, 2, none⟩ = some (.int .i64 c.f2) := blk_cell HK2.out 2
        have y3 : w2.cell? ⟨w.heap.size, 3, none⟩ = some (.int .u64 c.f3) := blk_cell HK2.out 3
        have y4 : w2.cell? ⟨w.heap.size, 4, none⟩ = some (.string c.f4) := blk_cell HK2.out 4
        have y5 : w2.cell? ⟨w.heap.size, 5, none⟩ = some (.int .u64 c.f5) := blk_cell HK2.out 5
        go_wp2_with fail
        go_at_call 27
        refine (HR1.out).mono ?_
        rintro e w3 ⟨rfl, hb3⟩
        have HB3 := Aside0.mk (HB2.out.trans (hb3.mono HB2.out.size))
        have HK3 := Aside0.mk (blk_below HK2.out hb3)
        have HL3 := Aside0.mk (blk_below HL2.out hb3)
        clear hb3 y0 y1 y2 y3 y4 y5
        have HR2 := Aside0.mk (right16_any d B cb w3 (Kd.C_below HD.out HB3.out) HCB.out (LaidAt.of HLD.out HB3.out))
        cases hrd : rightS d with
        | false =>
          rw [hrd] at HR2
          clear hrd
          have z0 : w3.cell? ⟨w.heap.size + 1, 0, none⟩ = some (.int .i64 d.f0) := blk_cell HL3.out 0
          have z1 : w3.cell? ⟨w.heap.size + 1, 1, none⟩ = some (.slice B d.f1.length cb) := blk_cell HL3.out 1
          have z2 : w3.cell? ⟨w.heap.size + 1, 2, none⟩ = some (.int .i64 d.f2) := blk_cell HL3.out 2
          have z3 : w3.cell? ⟨w.heap.size + 1, 3, none⟩ = some (.int .u64 d.f3) := blk_cell HL3.out 3
          have z4 : w3.cell? ⟨w.heap.size + 1, 4, none⟩ = some (.string d.f4) := blk_cell HL3.out 4
          have z5 : w3.cell? ⟨w.heap.size + 1, 5, none⟩ = some (.int .u64 d.f5) := blk_cell HL3.out 5
          go_wp2_with fail
          go_at_call 27
          refine (HR2.out).mono ?_
          rintro e w4 ⟨rfl, hb4⟩
          have HB4 := Aside0.mk (HB3.out.trans (hb4.mono HB3.out.size))
          have HK4 := Aside0.mk (blk_below HK3.out hb4)
          have HL4 := Aside0.mk (blk_below HL3.out hb4)
          clear hb4 z0 z1 z2 z3 z4 z5
          go_wp2_with fail
          go_at_call 28
          refine (alive_any _ (LaidAt.of HLD.out HB4.out)).mono ?_
          rintro e w5 ⟨rfl, hbe⟩
          have HBe := Aside0.mk (HB4.out.trans (hbe.mono HB4.out.size))
          have HKe := Aside0.mk (blk_below HK4.out hbe)
          have HLe := Aside0.mk (blk_below HL4.out hbe)
          clear hbe
          go_wp2_with fail
          all_goals go_ret
          exact ⟨rfl, HBe.out⟩
        | true =>
          rw [hrd] at HR2
          have HRTD := Aside0.mk hrd
          clear hrd
          have z0 : w3.cell? ⟨w.heap.size + 1, 0, none⟩ = some (.int .i64 d.f0) := blk_cell HL3.out 0
          have z1 : w3.cell? ⟨w.heap.size + 1, 1, none⟩ = some (.slice B d.f1.length cb) := blk_cell HL3.out 1
          have z2 : w3.cell? ⟨w.heap.size + 1, 2, none⟩ = some (.int .i64 d.f2) := blk_cell HL3.out 2
          have z3 : w3.cell? ⟨w.heap.size + 1, 3, none⟩ = some (.int .u64 d.f3) := blk_cell HL3.out 3
          have z4 : w3.cell? ⟨w.heap.size + 1, 4, none⟩ = some (.string d.f4) := blk_cell HL3.out 4
          have z5 : w3.cell? ⟨w.heap.size + 1, 5, none⟩ = some (.int .u64 d.f5) := blk_cell HL3.out 5
          go_wp2_with fail
          go_at_call 27
          refine (HR2.out).mono ?_
          rintro e w4 ⟨rfl, hb4⟩
          have HB4 := Aside0.mk (HB3.out.trans (hb4.mono HB3.out.size))
          have HK4 := Aside0.mk (blk_below HK3.out hb4)
          have HL4 := Aside0.mk (blk_below HL3.out hb4)
          clear hb4 z0 z1 z2 z3 z4 z5
          clear m1 m2 m3 n1 n2 n3
          have HWC := Aside0.mk (writeC_size c (right_parts HRTC.out).2 HRC.out)
          have HWD := Aside0.mk (writeC_size d (right_parts HRTD.out).2 HRD.out)
          have y0 : w4.cell? ⟨w.heap.size, 0, none⟩ = some (.int .i64 c.f0) := blk_cell HK4.out 0
          have y1 : w4.cell? ⟨w.heap.size, 1, none⟩ = some (.slice A c.f1.length ca) := blk_cell HK4.out 1
          have y2 : w4.cell? ⟨w.heap.size, 2, none⟩ = some (.int .i64 c.f2) := blk_cell HK4.out 2
          have y3 : w4.cell? ⟨w.heap.size, 3, none⟩ = some (.int .u64 c.f3) := blk_cell HK4.out 3
          have y4 : w4.cell? ⟨w.heap.size, 4, none⟩ = some (.string c.f4) := blk_cell HK4.out 4
          have y5 : w4.cell? ⟨w.heap.size, 5, none⟩ = some (.int .u64 c.f5) := blk_cell HK4.out 5
          go_wp2_with fail
          go_at_call 29
          refine (cond_any1 c HRTC.out HRC.out A ca w4 (Kd.C_below HC.out HB4.out) HCA.out (LaidAt.of HLD.out HB4.out)).mono ?_
          rintro e w5 ⟨rfl, hb5⟩
          have HB5 := Aside0.mk (HB4.out.trans (hb5.mono HB4.out.size))
          have HK5 := Aside0.mk (blk_below HK4.out hb5)
          have HL5 := Aside0.mk (blk_below HL4.out hb5)
          clear hb5 y0 y1 y2 y3 y4 y5
          have z0 : w5.cell? ⟨w.heap.size + 1, 0, none⟩ = some (.int .i64 d.f0) := blk_cell HL5.out 0
          have z1 : w5.cell? ⟨w.heap.size + 1, 1, none⟩ = some (.slice B d.f1.length cb) := blk_cell HL5.out 1
          have z2 : w5.cell? ⟨w.heap.size + 1, 2, none⟩ = some (.int .i64 d.f2) := blk_cell HL5.out 2
          have z3 : w5.cell? ⟨w.heap.size + 1, 3, none⟩ = some (.int .u64 d.f3) := blk_cell HL5.out 3
          have z4 : w5.cell? ⟨w.heap.size + 1, 4, none⟩ = some (.string d.f4) := blk_cell HL5.out 4
          have z5 : w5.cell? ⟨w.heap.size + 1, 5, none⟩ = some (.int .u64 d.f5) := blk_cell HL5.out 5
          go_wp2_with fail
          go_at_call 29
          refine (cond_any1 d HRTD.out HRD.out B cb w5 (Kd.C_below HD.out HB5.out) HCB.out (LaidAt.of HLD.out HB5.out)).mono ?_
          rintro e w6 ⟨rfl, hb6⟩
          have HB6 := Aside0.mk (HB5.out.trans (hb6.mono HB5.out.size))
          have HK6 := Aside0.mk (blk_below HK5.out hb6)
          have HL6 := Aside0.mk (blk_below HL5.out hb6)
          clear hb6 z0 z1 z2 z3 z4 z5
          have y0 : w6.cell? ⟨w.heap.size, 0, none⟩ = some (.int .i64 c.f0) := blk_cell HK6.out 0
          have y1 : w6.cell? ⟨w.heap.size, 1, none⟩ = some (.slice A c.f1.length ca) := blk_cell HK6.out 1
          have y2 : w6.cell? ⟨w.heap.size, 2, none⟩ = some (.int .i64 c.f2) := blk_cell HK6.out 2
          have y3 : w6.cell? ⟨w.heap.size, 3, none⟩ = some (.int .u64 c.f3) := blk_cell HK6.out 3
          have y4 : w6.cell? ⟨w.heap.size, 4, none⟩ = some (.string c.f4) := blk_cell HK6.out 4
          have y5 : w6.cell? ⟨w.heap.size, 5, none⟩ = some (.int .u64 c.f5) := blk_cell HK6.out 5
          have hbl6a : Below w6.heap.size w6 (w6.alloc (.cells #[.int .i64 c.f0, .slice A c.f1.length ca, .int .i64 c.f2, .int .u64 c.f3, .string c.f4, .int .u64 c.f5] 47)) := (Below.refl _ _).alloc (Nat.le_refl _) _
          have HB6a := Aside0.mk (HB6.out.trans (hbl6a.mono HB6.out.size))
          have HK6a := Aside0.mk (blk_below HK6.out hbl6a)
          have HL6a := Aside0.mk (blk_below HL6.out hbl6a)
          clear hbl6a
          have HM6a := Aside0.mk (cond_any1 ⟨3, [c], 0, 0, ⟨#[]⟩, 0⟩ (right_not HRTC.out HNC.out) (zero_rng 3 _ (by rw [rngL, rngL, HRC.out]; rfl)) (some ⟨w6.heap.size, 0, none⟩) 1 (w6.alloc (.cells #[.int .i64 c.f0, .slice A c.f1.length ca, .int .i64 c.f2, .int .u64 c.f3, .string c.f4, .int .u64 c.f5] 47)) (lit_C1 c A ca w6 (Kd.C_below HC.out HB6.out) HCA.out) (Nat.le_refl _) (LaidAt.of HLD.out HB6a.out))
          rw [write_not_eq] at HM6a
          go_wp2_with fail
          go_at_call 29
          refine (HM6a.out).mono ?_
          rintro e w7 ⟨rfl, hb7⟩
          have HB7 := Aside0.mk (HB6a.out.trans (hb7.mono HB6a.out.size))
          have HK7 := Aside0.mk (blk_below HK6a.out hb7)
          have HL7 := Aside0.mk (blk_below HL6a.out hb7)
          clear hb7 y0 y1 y2 y3 y4 y5
          have y0 : w7.cell? ⟨w.heap.size, 0, none⟩ = some (.int .i64 c.f0) := blk_cell HK7.out 0
          have y1 : w7.cell? ⟨w.heap.size, 1, none⟩ = some (.slice A c.f1.length ca) := blk_cell HK7.out 1
          have y2 : w7.cell? ⟨w.heap.size, 2, none⟩ = some (.int .i64 c.f2) := blk_cell HK7.out 2
          have y3 : w7.cell? ⟨w.heap.size, 3, none⟩ = some (.int .u64 c.f3) := blk_cell HK7.out 3
          have y4 : w7.cell? ⟨w.heap.size, 4, none⟩ = some (.string c.f4) := blk_cell HK7.out 4
          have y5 : w7.cell? ⟨w.heap.size, 5, none⟩ = some (.int .u64 c.f5) := blk_cell HK7.out 5
          have z0 : w7.cell? ⟨w.heap.size + 1, 0, none⟩ = some (.int .i64 d.f0) := blk_cell HL7.out 0
          have z1 : w7.cell? ⟨w.heap.size + 1, 1, none⟩ = some (.slice B d.f1.length cb) := blk_cell HL7.out 1
          have z2 : w7.cell? ⟨w.heap.size + 1, 2, none⟩ = some (.int .i64 d.f2) := blk_cell HL7.out 2
          have z3 : w7.cell? ⟨w.heap.size + 1, 3, none⟩ = some (.int .u64 d.f3) := blk_cell HL7.out 3
          have z4 : w7.cell? ⟨w.heap.size + 1, 4, none⟩ = some (.string d.f4) := blk_cell HL7.out 4
          have z5 : w7.cell? ⟨w.heap.size + 1, 5, none⟩ = some (.int .u64 d.f5) := blk_cell HL7.out 5
          have hbl7a : Below w7.heap.size w7 (w7.alloc (.cells #[.int .i64 c.f0, .slice A c.f1.length ca, .int .i64 c.f2, .int .u64 c.f3, .string c.f4, .int .u64 c.f5, .int .i64 d.f0, .slice B d.f1.length cb, .int .i64 d.f2, .int .u64 d.f3, .string d.f4, .int .u64 d.f5] 47)) := (Below.refl _ _).alloc (Nat.le_refl _) _
          have HB7a := Aside0.mk (HB7.out.trans (hbl7a.mono HB7.out.size))
          have HK7a := Aside0.mk (blk_below HK7.out hbl7a)
          have HL7a := Aside0.mk (blk_below HL7.out hbl7a)
          clear hbl7a
          have HM7a := Aside0.mk (cond_any1 ⟨1, [c, d], 0, 0, ⟨#[]⟩, 0⟩ (right_two 1 (Or.inl rfl) HRTC.out HRTD.out HNC.out HND.out) (zero_rng 1 _ (by rw [rngL, rngL, rngL, HRC.out, HRD.out]; rfl)) (some ⟨w7.heap.size, 0, none⟩) 2 (w7.alloc (.cells #[.int .i64 c.f0, .slice A c.f1.length ca, .int .i64 c.f2, .int .u64 c.f3, .string c.f4, .int .u64 c.f5, .int .i64 d.f0, .slice B d.f1.length cb, .int .i64 d.f2, .int .u64 d.f3, .string d.f4, .int .u64 d.f5] 47)) (lit_C2 c d A B ca cb w7 (Kd.C_below HC.out HB7.out) HCA.out (Kd.C_below HD.out HB7.out) HCB.out) (Nat.le_refl _) (LaidAt.of HLD.out HB7a.out))
          rw [write_and_eq] at HM7a
          go_wp2_with fail
          go_at_call 29
          refine (HM7a.out).mono ?_
          rintro e w8 ⟨rfl, hb8⟩
          have HB8 := Aside0.mk (HB7a.out.trans (hb8.mono HB7a.out.size))
          have HK8 := Aside0.mk (blk_below HK7a.out hb8)
          have HL8 := Aside0.mk (blk_below HL7a.out hb8)
          clear hb8 y0 y1 y2 y3 y4 y5 z0 z1 z2 z3 z4 z5
          have y0 : w8.cell? ⟨w.heap.size, 0, none⟩ = some (.int .i64 c.f0) := blk_cell HK8.out 0
          have y1 : w8.cell? ⟨w.heap.size, 1, none⟩ = some (.slice A c.f1.length ca) := blk_cell HK8.out 1
          have y2 : w8.cell? ⟨w.heap.size, 2, none⟩ = some (.int .i64 c.f2) := blk_cell HK8.out 2
          have y3 : w8.cell? ⟨w.heap.size, 3, none⟩ = some (.int .u64 c.f3) := blk_cell HK8.out 3
          have y4 : w8.cell? ⟨w.heap.size, 4, none⟩ = some (.string c.f4) := blk_cell HK8.out 4
          have y5 : w8.cell? ⟨w.heap.size, 5, none⟩ = some (.int .u64 c.f5) := blk_cell HK8.out 5
          have z0 : w8.cell? ⟨w.heap.size + 1, 0, none⟩ = some (.int .i64 d.f0) := blk_cell HL8.out 0
          have z1 : w8.cell? ⟨w.heap.size + 1, 1, none⟩ = some (.slice B d.f1.length cb) := blk_cell HL8.out 1
          have z2 : w8.cell? ⟨w.heap.size + 1, 2, none⟩ = some (.int .i64 d.f2) := blk_cell HL8.out 2
          have z3 : w8.cell? ⟨w.heap.size + 1, 3, none⟩ = some (.int .u64 d.f3) := blk_cell HL8.out 3
          have z4 : w8.cell? ⟨w.heap.size + 1, 4, none⟩ = some (.string d.f4) := blk_cell HL8.out 4
          have z5 : w8.cell? ⟨w.heap.size + 1, 5, none⟩ = some (.int .u64 d.f5) := blk_cell HL8.out 5
          have hbl8a : Below w8.heap.size w8 (w8.alloc (.cells #[.int .i64 c.f0, .slice A c.f1.length ca, .int .i64 c.f2, .int .u64 c.f3, .string c.f4, .int .u64 c.f5, .int .i64 d.f0, .slice B d.f1.length cb, .int .i64 d.f2, .int .u64 d.f3, .string d.f4, .int .u64 d.f5] 47)) := (Below.refl _ _).alloc (Nat.le_refl _) _
          have HB8a := Aside0.mk (HB8.out.trans (hbl8a.mono HB8.out.size))
          have HK8a := Aside0.mk (blk_below HK8.out hbl8a)
          have HL8a := Aside0.mk (blk_below HL8.out hbl8a)
          clear hbl8a
          have HM8a := Aside0.mk (cond_any1 ⟨2, [c, d], 0, 0, ⟨#[]⟩, 0⟩ (right_two 2 (Or.inr rfl) HRTC.out HRTD.out HNC.out HND.out) (zero_rng 2 _ (by rw [rngL, rngL, rngL, HRC.out, HRD.out]; rfl)) (some ⟨w8.heap.size, 0, none⟩) 2 (w8.alloc (.cells #[.int .i64 c.f0, .slice A c.f1.length ca, .int .i64 c.f2, .int .u64 c.f3, .string c.f4, .int .u64 c.f5, .int .i64 d.f0, .slice B d.f1.length cb, .int .i64 d.f2, .int .u64 d.f3, .string d.f4, .int .u64 d.f5] 47)) (lit_C2 c d A B ca cb w8 (Kd.C_below HC.out HB8.out) HCA.out (Kd.C_below HD.out HB8.out) HCB.out) (Nat.le_refl _) (LaidAt.of HLD.out HB8a.out))
          rw [write_or_eq] at HM8a
          go_wp2_with fail
          go_at_call 29
          refine (HM8a.out).mono ?_
          rintro e w9 ⟨rfl, hb9⟩
          have HB9 := Aside0.mk (HB8a.out.trans (hb9.mono HB8a.out.size))
          have HK9 := Aside0.mk (blk_below HK8a.out hb9)
          have HL9 := Aside0.mk (blk_below HL8a.out hb9)
          clear hb9 y0 y1 y2 y3 y4 y5 z0 z1 z2 z3 z4 z5
          go_upto_region 10 with (fail)
          have HGC := Aside0.mk (fun (w : World) => factorc_any (writeC c) (by have := HWC.out; have := HNC.out; omega) (manyB c) w)
          have HGD := Aside0.mk (fun (w : World) => factorc_any (writeC d) (by have := HWD.out; have := HND.out; omega) (manyB d) w)
          have HOC := Aside0.mk (fun (w : World) => factorc_any (writeC c) (by have := HWC.out; have := HNC.out; omega) (c.f0 == 2) w)
          have HOD := Aside0.mk (fun (w : World) => factorc_any (writeC d) (by have := HWD.out; have := HND.out; omega) (d.f0 == 2) w)
          rw [grp_fact] at HGC HGD
          rw [grp_or] at HOC HOD
          have hdr9d : Below w9.heap.size w9 w9.drew := (Below.refl _ _).drew
          have HB9d := Aside0.mk (HB9.out.trans (hdr9d.mono HB9.out.size))
          have HK9d := Aside0.mk (blk_below HK9.out hdr9d)
          have HL9d := Aside0.mk (blk_below HL9.out hdr9d)
          clear hdr9d
          have f0 : w9.drew.cell? ⟨w.heap.size, 0, none⟩ = some (.int .i64 c.f0) := blk_cell HK9d.out 0
          have f1 : w9.drew.cell? ⟨w.heap.size, 1, none⟩ = some (.slice A c.f1.length ca) := blk_cell HK9d.out 1
          have f2 : w9.drew.cell? ⟨w.heap.size, 2, none⟩ = some (.int .i64 c.f2) := blk_cell HK9d.out 2
          have f3 : w9.drew.cell? ⟨w.heap.size, 3, none⟩ = some (.int .u64 c.f3) := blk_cell HK9d.out 3
          have f4 : w9.drew.cell? ⟨w.heap.size, 4, none⟩ = some (.string c.f4) := blk_cell HK9d.out 4
          have f5 : w9.drew.cell? ⟨w.heap.size, 5, none⟩ = some (.int .u64 c.f5) := blk_cell HK9d.out 5
          have g0 : w9.drew.cell? ⟨w.heap.size + 1, 0, none⟩ = some (.int .i64 d.f0) := blk_cell HL9d.out 0
          have g1 : w9.drew.cell? ⟨w.heap.size + 1, 1, none⟩ = some (.slice B d.f1.length cb) := blk_cell HL9d.out 1
          have g2 : w9.drew.cell? ⟨w.heap.size + 1, 2, none⟩ = some (.int .i64 d.f2) := blk_cell HL9d.out 2
          have g3 : w9.drew.cell? ⟨w.heap.size + 1, 3, none⟩ = some (.int .u64 d.f3) := blk_cell HL9d.out 3
          have g4 : w9.drew.cell? ⟨w.heap.size + 1, 4, none⟩ = some (.string d.f4) := blk_cell HL9d.out 4
          have g5 : w9.drew.cell? ⟨w.heap.size + 1, 5, none⟩ = some (.int .u64 d.f5) := blk_cell HL9d.out 5
          refine start_ (n := 14) (S := fun w' => w'.cell? ⟨w.heap.size, 0, none⟩ = some (.int .i64 c.f0) ∧ w'.cell? ⟨w.heap.size, 1, none⟩ = some (.slice A c.f1.length ca) ∧ w'.cell? ⟨w.heap.size, 2, none⟩ = some (.int .i64 c.f2) ∧ w'.cell? ⟨w.heap.size, 3, none⟩ = some (.int .u64 c.f3) ∧ w'.cell? ⟨w.heap.size, 4, none⟩ = some (.string c.f4) ∧ w'.cell? ⟨w.heap.size, 5, none⟩ = some (.int .u64 c.f5) ∧ w'.cell? ⟨w.heap.size + 1, 0, none⟩ = some (.int .i64 d.f0) ∧ w'.cell? ⟨w.heap.size + 1, 1, none⟩ = some (.slice B d.f1.length cb) ∧ w'.cell? ⟨w.heap.size + 1, 2, none⟩ = some (.int .i64 d.f2) ∧ w'.cell? ⟨w.heap.size + 1, 3, none⟩ = some (.int .u64 d.f3) ∧ w'.cell? ⟨w.heap.size + 1, 4, none⟩ = some (.string d.f4) ∧ w'.cell? ⟨w.heap.size + 1, 5, none⟩ = some (.int .u64 d.f5)) (ds := []) #[false, false, false, false, false, false, false, false, false, false, false, false, false, false] (by kernel_rfl) rfl rfl ⟨f0, f1, f2, f3, f4, f5, g0, g1, g2, g3, g4, g5⟩ (fun hHeld => ?_)
          refine pure_ (i := 0) (N := some 73) (v := ?_) (a' := ?_) #[true, false, false, false, false, false, false, false, false, false, false, false, false, false] rfl rfl (by kernel_rfl) (fun _ _ _ h => h) (Or.inl ⟨by rfl, ?_⟩) ?_ ?_
          rotate_left
          · intro w'
            go_simp
            with_reducible rfl
          rotate_left
          · simp only [Act.put, List.setIfInBounds_toArray, List.set_cons_zero, List.set_cons_succ, i64_w, i32_w]
            rfl
          refine pure_ (i := 1) (N := some 74) (v := ?_) (a' := ?_) #[true, true, false, false, false, false, false, false, false, false, false, false, false, false] rfl rfl (by kernel_rfl) (fun _ _ _ h => h) (Or.inl ⟨by rfl, ?_⟩) ?_ ?_
          rotate_left
          · intro w'
            go_simp
            with_reducible rfl
          rotate_left
          · simp only [Act.put, List.setIfInBounds_toArray, List.set_cons_zero, List.set_cons_succ, i64_w, i32_w]
            rfl
          refine pure_ (i := 2) (N := some 75) (v := ?_) (a' := ?_) #[true, true, true, false, false, false, false, false, false, false, false, false, false, false] rfl rfl (by kernel_rfl) (fun _ _ _ h => h) (Or.inl ⟨by rfl, ?_⟩) ?_ ?_
          rotate_left
          · intro w'
            go_simp
            with_reducible rfl
          rotate_left
          · simp only [Act.put, List.setIfInBounds_toArray, List.set_cons_zero, List.set_cons_succ, i64_w, i32_w]
            rfl
          refine pure_ (i := 6) (N := some 79) (v := ?_) (a' := ?_) #[true, true, true, false, false, false, true, false, false, false, false, false, false, false] rfl rfl (by kernel_rfl) (fun _ _ _ h => h) (Or.inl ⟨by rfl, ?_⟩) ?_ ?_
          rotate_left
          · intro w'
            go_simp
            with_reducible rfl
          rotate_left
          · simp only [Act.put, List.setIfInBounds_toArray, List.set_cons_zero, List.set_cons_succ, i64_w, i32_w]
            rfl
          refine pure_ (i := 7) (N := some 80) (v := ?_) (a' := ?_) #[true, true, true, false, false, false, true, true, false, false, false, false, false, false] rfl rfl (by kernel_rfl) (fun _ _ _ h => h) (Or.inl ⟨by rfl, ?_⟩) ?_ ?_
          rotate_left
          · intro w'
            go_simp
            with_reducible rfl
          rotate_left
          · simp only [Act.put, List.setIfInBounds_toArray, List.set_cons_zero, List.set_cons_succ, i64_w, i32_w]
            rfl
          refine pure_ (i := 8) (N := some 81) (v := ?_) (a' := ?_) #[true, true, true, false, false, false, true, true, true, false, false, false, false, false] rfl rfl (by kernel_rfl) (fun _ _ _ h => h) (Or.inl ⟨by rfl, ?_⟩) ?_ ?_
          rotate_left
          · intro w'
            go_simp
            with_reducible rfl
          rotate_left
          · simp only [Act.put, List.setIfInBounds_toArray, List.set_cons_zero, List.set_cons_succ, i64_w, i32_w]
            rfl
          refine take_ (i := 3) (N := some 76) (v := ?_) (a' := ?_) #[true, true, true, true, false, false, true, true, true, false, false, false, false, false] rfl rfl (by kernel_rfl) (fun _ _ _ h => h) (Or.inl ⟨by rfl, ?_⟩) hHeld ?_ ?_
          rotate_left
          · rintro w' ⟨s0, s1, s2, s3, s4, s5, s6, s7, s8, s9, s10, s11⟩
            go_simp
            with_reducible rfl
          rotate_left
          · simp only [Act.put, List.setIfInBounds_toArray, List.set_cons_zero, List.set_cons_succ, i64_w, i32_w]
            rfl
          refine take_ (i := 9) (N := some 82) (v := ?_) (a' := ?_) #[true, true, true, true, false, false, true, true, true, true, false, false, false, false] rfl rfl (by kernel_rfl) (fun _ _ _ h => h) (Or.inl ⟨by rfl, ?_⟩) hHeld ?_ ?_
          rotate_left
          · rintro w' ⟨s0, s1, s2, s3, s4, s5, s6, s7, s8, s9, s10, s11⟩
            go_simp
            with_reducible rfl
          rotate_left
          · simp only [Act.put, List.setIfInBounds_toArray, List.set_cons_zero, List.set_cons_succ, i64_w, i32_w]
            rfl
          refine one_ (i := 4) (N := some 77) #[true, true, true, true, true, false, true, true, true, true, false, false, false, false] rfl rfl (by kernel_rfl) (by decide) (fun K hK => ?_)
          refine goesV_ Tryd.func31 (by kernel_rfl) rfl #[.agg #[.int .i64 c.f0, .slice A c.f1.length ca, .int .i64 c.f2, .int .u64 c.f3, .string c.f4, .int .u64 c.f5]] (by rfl) rfl rfl (by rfl) (by simp only [List.map_toArray, List.map_cons, List.map_nil]; rfl) ?_
          with_reducible refine (manyc_any c A ca _).mono ?_
          rintro e w10 ⟨rfl, hb10⟩
          refine ⟨_, rfl, ?_⟩
          have HB10 := Aside0.mk (HB9d.out.trans (hb10.mono HB9d.out.size))
          have HK10 := Aside0.mk (blk_below HK9d.out hb10)
          have HL10 := Aside0.mk (blk_below HL9d.out hb10)
          clear hb10
          refine hK.out _ _ ⟨((blk_cell HK10.out 0).trans rfl), ((blk_cell HK10.out 1).trans rfl), ((blk_cell HK10.out 2).trans rfl), ((blk_cell HK10.out 3).trans rfl), ((blk_cell HK10.out 4).trans rfl), ((blk_cell HK10.out 5).trans rfl), ((blk_cell HL10.out 0).trans rfl), ((blk_cell HL10.out 1).trans rfl), ((blk_cell HL10.out 2).trans rfl), ((blk_cell HL10.out 3).trans rfl), ((blk_cell HL10.out 4).trans rfl), ((blk_cell HL10.out 5).trans rfl)⟩ (fun hHeld => ?_)
          clear hK K
          refine norm_ (a' := ?_) ?_ ?_
          rotate_left
          · show Act.put _ (some 77) _ = _
            simp only [Act.put, List.setIfInBounds_toArray, List.set_cons_zero, List.set_cons_succ, i64_w, i32_w]
            rfl
          refine one_ (i := 5) (N := some 78) #[true, true, true, true, true, true, true, true, true, true, false, false, false, false] rfl rfl (by kernel_rfl) (by decide) (fun K hK => ?_)
          refine goesV_ Tryd.func30 (by kernel_rfl) rfl #[.string (writeC c), .bool (manyB c)] (by rfl) rfl rfl (by rfl) (by simp only [List.map_toArray, List.map_cons, List.map_nil]; rfl) ?_
          with_reducible refine (HGC.out _).mono ?_
          rintro e w11 ⟨rfl, hb11⟩
          refine ⟨_, rfl, ?_⟩
          have HB11 := Aside0.mk (HB10.out.trans (hb11.mono HB10.out.size))
          have HK11 := Aside0.mk (blk_below HK10.out hb11)
          have HL11 := Aside0.mk (blk_below HL10.out hb11)
          clear hb11
          refine hK.out _ _ ⟨((blk_cell HK11.out 0).trans rfl), ((blk_cell HK11.out 1).trans rfl), ((blk_cell HK11.out 2).trans rfl), ((blk_cell HK11.out 3).trans rfl), ((blk_cell HK11.out 4).trans rfl), ((blk_cell HK11.out 5).trans rfl), ((blk_cell HL11.out 0).trans rfl), ((blk_cell HL11.out 1).trans rfl), ((blk_cell HL11.out 2).trans rfl), ((blk_cell HL11.out 3).trans rfl), ((blk_cell HL11.out 4).trans rfl), ((blk_cell HL11.out 5).trans rfl)⟩ (fun hHeld => ?_)
          clear hK K
          refine norm_ (a' := ?_) ?_ ?_
          rotate_left
          · show Act.put _ (some 78) _ = _
            simp only [Act.put, List.setIfInBounds_toArray, List.set_cons_zero, List.set_cons_succ, i64_w, i32_w]
            rfl
          refine one_ (i := 10) (N := some 83) #[true, true, true, true, true, true, true, true, true, true, true, false, false, false] rfl rfl (by kernel_rfl) (by decide) (fun K hK => ?_)
          refine goesV_ Tryd.func31 (by kernel_rfl) rfl #[.agg #[.int .i64 d.f0, .slice B d.f1.length cb, .int .i64 d.f2, .int .u64 d.f3, .string d.f4, .int .u64 d.f5]] (by rfl) rfl rfl (by rfl) (by simp only [List.map_toArray, List.map_cons, List.map_nil]; rfl) ?_
          with_reducible refine (manyc_any d B cb _).mono ?_
          rintro e w12 ⟨rfl, hb12⟩
          refine ⟨_, rfl, ?_⟩
          have HB12 := Aside0.mk (HB11.out.trans (hb12.mono HB11.out.size))
          have HK12 := Aside0.mk (blk_below HK11.out hb12)
          have HL12 := Aside0.mk (blk_below HL11.out hb12)
          clear hb12
          refine hK.out _ _ ⟨((blk_cell HK12.out 0).trans rfl), ((blk_cell HK12.out 1).trans rfl), ((blk_cell HK12.out 2).trans rfl), ((blk_cell HK12.out 3).trans rfl), ((blk_cell HK12.out 4).trans rfl), ((blk_cell HK12.out 5).trans rfl), ((blk_cell HL12.out 0).trans rfl), ((blk_cell HL12.out 1).trans rfl), ((blk_cell HL12.out 2).trans rfl), ((blk_cell HL12.out 3).trans rfl), ((blk_cell HL12.out 4).trans rfl), ((blk_cell HL12.out 5).trans rfl)⟩ (fun hHeld => ?_)
          clear hK K
          refine norm_ (a' := ?_) ?_ ?_
          rotate_left
          · show Act.put _ (some 83) _ = _
            simp only [Act.put, List.setIfInBounds_toArray, List.set_cons_zero, List.set_cons_succ, i64_w, i32_w]
            rfl
          refine one_ (i := 11) (N := some 84) #[true, true, true, true, true, true, true, true, true, true, true, true, false, false] rfl rfl (by kernel_rfl) (by decide) (fun K hK => ?_)
          refine goesV_ Tryd.func30 (by kernel_rfl) rfl #[.string (writeC d), .bool (manyB d)] (by rfl) rfl rfl (by rfl) (by simp only [List.map_toArray, List.map_cons, List.map_nil]; rfl) ?_
          with_reducible refine (HGD.out _).mono ?_
          rintro e w13 ⟨rfl, hb13⟩
          refine ⟨_, rfl, ?_⟩
          have HB13 := Aside0.mk (HB12.out.trans (hb13.mono HB12.out.size))
          have HK13 := Aside0.mk (blk_below HK12.out hb13)
          have HL13 := Aside0.mk (blk_below HL12.out hb13)
          clear hb13
          refine hK.out _ _ ⟨((blk_cell HK13.out 0).trans rfl), ((blk_cell HK13.out 1).trans rfl), ((blk_cell HK13.out 2).trans rfl), ((blk_cell HK13.out 3).trans rfl), ((blk_cell HK13.out 4).trans rfl), ((blk_cell HK13.out 5).trans rfl), ((blk_cell HL13.out 0).trans rfl), ((blk_cell HL13.out 1).trans rfl), ((blk_cell HL13.out 2).trans rfl), ((blk_cell HL13.out 3).trans rfl), ((blk_cell HL13.out 4).trans rfl), ((blk_cell HL13.out 5).trans rfl)⟩ (fun hHeld => ?_)
          clear hK K
          refine norm_ (a' := ?_) ?_ ?_
          rotate_left
          · show Act.put _ (some 84) _ = _
            simp only [Act.put, List.setIfInBounds_toArray, List.set_cons_zero, List.set_cons_succ, i64_w, i32_w]
            rfl
          refine pure_ (i := 12) (N := some 17) (v := ?_) (a' := ?_) #[true, true, true, true, true, true, true, true, true, true, true, true, true, false] rfl rfl (by kernel_rfl) (fun _ _ _ h => h) (Or.inl ⟨by rfl, ?_⟩) ?_ ?_
          rotate_left
          · intro w'
            go_simp
            with_reducible rfl
          rotate_left
          · simp only [Act.put, List.setIfInBounds_toArray, List.set_cons_zero, List.set_cons_succ, i64_w, i32_w]
            rfl
          refine pure_ (i := 13) (N := some 18) (v := ?_) (a' := ?_) #[true, true, true, true, true, true, true, true, true, true, true, true, true, true] rfl rfl (by kernel_rfl) (fun _ _ _ h => h) (Or.inl ⟨by rfl, ?_⟩) ?_ ?_
          rotate_left
          · intro w'
            go_simp
            with_reducible rfl
          rotate_left
          · simp only [Act.put, List.setIfInBounds_toArray, List.set_cons_zero, List.set_cons_succ, i64_w, i32_w]
            rfl
          refine done_ (by kernel_rfl) ?_
          clear hHeld f0 g0 f1 g1 f2 g2 f3 g3 f4 g4 f5 g5
          go_upto_region 11 with (fail)
          have hdr13d : Below w13.heap.size w13 w13.drew := (Below.refl _ _).drew
          have HB13d := Aside0.mk (HB13.out.trans (hdr13d.mono HB13.out.size))
          have HK13d := Aside0.mk (blk_below HK13.out hdr13d)
          have HL13d := Aside0.mk (blk_below HL13.out hdr13d)
          clear hdr13d
          have f0 : w13.drew.cell? ⟨w.heap.size, 0, none⟩ = some (.int .i64 c.f0) := blk_cell HK13d.out 0
          have g0 : w13.drew.cell? ⟨w.heap.size + 1, 0, none⟩ = some (.int .i64 d.f0) := blk_cell HL13d.out 0
          refine start_ (n := 14) (S := fun w' => w'.cell? ⟨w.heap.size, 0, none⟩ = some (.int .i64 c.f0) ∧ w'.cell? ⟨w.heap.size + 1, 0, none⟩ = some (.int .i64 d.f0)) (ds := []) #[false, false, false, false, false, false, false, false, false, false, false, false, false, false] (by kernel_rfl) rfl rfl ⟨f0, g0⟩ (fun hHeld => ?_)
          refine pure_ (i := 0) (N := some 85) (v := ?_) (a' := ?_) #[true, false, false, false, false, false, false, false, false, false, false, false, false, false] rfl rfl (by kernel_rfl) (fun _ _ _ h => h) (Or.inl ⟨by rfl, ?_⟩) ?_ ?_
          rotate_left
          · intro w'
            go_simp
            with_reducible rfl
          rotate_left
          · simp only [Act.put, List.setIfInBounds_toArray, List.set_cons_zero, List.set_cons_succ, i64_w, i32_w]
            rfl
          refine pure_ (i := 1) (N := some 86) (v := ?_) (a' := ?_) #[true, true, false, false, false, false, false, false, false, false, false, false, false, false] rfl rfl (by kernel_rfl) (fun _ _ _ h => h) (Or.inl ⟨by rfl, ?_⟩) ?_ ?_
          rotate_left
          · intro w'
            go_simp
            with_reducible rfl
          rotate_left
          · simp only [Act.put, List.setIfInBounds_toArray, List.set_cons_zero, List.set_cons_succ, i64_w, i32_w]
            rfl
          refine pure_ (i := 2) (N := some 87) (v := ?_) (a' := ?_) #[true, true, true, false, false, false, false, false, false, false, false, false, false, false] rfl rfl (by kernel_rfl) (fun _ _ _ h => h) (Or.inl ⟨by rfl, ?_⟩) ?_ ?_
          rotate_left
          · intro w'
            go_simp
            with_reducible rfl
          rotate_left
          · simp only [Act.put, List.setIfInBounds_toArray, List.set_cons_zero, List.set_cons_succ, i64_w, i32_w]
            rfl
          refine pure_ (i := 6) (N := some 91) (v := ?_) (a' := ?_) #[true, true, true, false, false, false, true, false, false, false, false, false, false, false] rfl rfl (by kernel_rfl) (fun _ _ _ h => h) (Or.inl ⟨by rfl, ?_⟩) ?_ ?_
          rotate_left
          · intro w'
            go_simp
            with_reducible rfl
          rotate_left
          · simp only [Act.put, List.setIfInBounds_toArray, List.set_cons_zero, List.set_cons_succ, i64_w, i32_w]
            rfl
          refine pure_ (i := 7) (N := some 92) (v := ?_) (a' := ?_) #[true, true, true, false, false, false, true, true, false, false, false, false, false, false] rfl rfl (by kernel_rfl) (fun _ _ _ h => h) (Or.inl ⟨by rfl, ?_⟩) ?_ ?_
          rotate_left
          · intro w'
            go_simp
            with_reducible rfl
          rotate_left
          · simp only [Act.put, List.setIfInBounds_toArray, List.set_cons_zero, List.set_cons_succ, i64_w, i32_w]
            rfl
          refine pure_ (i := 8) (N := some 93) (v := ?_) (a' := ?_) #[true, true, true, false, false, false, true, true, true, false, false, false, false, false] rfl rfl (by kernel_rfl) (fun _ _ _ h => h) (Or.inl ⟨by rfl, ?_⟩) ?_ ?_
          rotate_left
          · intro w'
            go_simp
            with_reducible rfl
          rotate_left
          · simp only [Act.put, List.setIfInBounds_toArray, List.set_cons_zero, List.set_cons_succ, i64_w, i32_w]
            rfl
          refine take_ (i := 3) (N := some 88) (v := ?_) (a' := ?_) #[true, true, true, true, false, false, true, true, true, false, false, false, false, false] rfl rfl (by kernel_rfl) (fun _ _ _ h => h) (Or.inl ⟨by rfl, ?_⟩) hHeld ?_ ?_
          rotate_left
          · rintro w' ⟨s0, s1⟩
            go_simp
            with_reducible rfl
          rotate_left
          · simp only [Act.put, List.setIfInBounds_toArray, List.set_cons_zero, List.set_cons_succ, i64_w, i32_w]
            rfl
          refine pure_ (i := 4) (N := some 89) (v := ?_) (a' := ?_) #[true, true, true, true, true, false, true, true, true, false, false, false, false, false] rfl rfl (by kernel_rfl) (fun _ _ _ h => h) (Or.inl ⟨by rfl, ?_⟩) ?_ ?_
          rotate_left
          · intro w'
            go_simp
            with_reducible rfl
          rotate_left
          · simp only [Act.put, List.setIfInBounds_toArray, List.set_cons_zero, List.set_cons_succ, i64_w, i32_w]
            rfl
          refine take_ (i := 9) (N := some 94) (v := ?_) (a' := ?_) #[true, true, true, true, true, false, true, true, true, true, false, false, false, false] rfl rfl (by kernel_rfl) (fun _ _ _ h => h) (Or.inl ⟨by rfl, ?_⟩) hHeld ?_ ?_
          rotate_left
          · rintro w' ⟨s0, s1⟩
            go_simp
            with_reducible rfl
          rotate_left
          · simp only [Act.put, List.setIfInBounds_toArray, List.set_cons_zero, List.set_cons_succ, i64_w, i32_w]
            rfl
          refine pure_ (i := 10) (N := some 95) (v := ?_) (a' := ?_) #[true, true, true, true, true, false, true, true, true, true, true, false, false, false] rfl rfl (by kernel_rfl) (fun _ _ _ h => h) (Or.inl ⟨by rfl, ?_⟩) ?_ ?_
          rotate_left
          · intro w'
            go_simp
            with_reducible rfl
          rotate_left
          · simp only [Act.put, List.setIfInBounds_toArray, List.set_cons_zero, List.set_cons_succ, i64_w, i32_w]
            rfl
          refine one_ (i := 5) (N := some 90) #[true, true, true, true, true, true, true, true, true, true, true, false, false, false] rfl rfl (by kernel_rfl) (by decide) (fun K hK => ?_)
          refine goesV_ Tryd.func30 (by kernel_rfl) rfl #[.string (writeC c), .bool (c.f0 == 2)] (by rfl) rfl rfl (by rfl) (by simp only [List.map_toArray, List.map_cons, List.map_nil]; rfl) ?_
          with_reducible refine (HOC.out _).mono ?_
          rintro e w14 ⟨rfl, hb14⟩
          refine ⟨_, rfl, ?_⟩
          have HB14 := Aside0.mk (HB13d.out.trans (hb14.mono HB13d.out.size))
          have HK14 := Aside0.mk (blk_below HK13d.out hb14)
          have HL14 := Aside0.mk (blk_below HL13d.out hb14)
          clear hb14
          refine hK.out _ _ ⟨((blk_cell HK14.out 0).trans rfl), ((blk_cell HL14.out 0).trans rfl)⟩ (fun hHeld => ?_)
          clear hK K
          refine norm_ (a' := ?_) ?_ ?_
          rotate_left
          · show Act.put _ (some 90) _ = _
            simp only [Act.put, List.setIfInBounds_toArray, List.set_cons_zero, List.set_cons_succ, i64_w, i32_w]
            rfl
          refine one_ (i := 11) (N := some 96) #[true, true, true, true, true, true, true, true, true, true, true, true, false, false] rfl rfl (by kernel_rfl) (by decide) (fun K hK => ?_)
          refine goesV_ Tryd.func30 (by kernel_rfl) rfl #[.string (writeC d), .bool (d.f0 == 2)] (by rfl) rfl rfl (by rfl) (by simp only [List.map_toArray, List.map_cons, List.map_nil]; rfl) ?_
          with_reducible refine (HOD.out _).mono ?_
          rintro e w15 ⟨rfl, hb15⟩
          refine ⟨_, rfl, ?_⟩
          have HB15 := Aside0.mk (HB14.out.trans (hb15.mono HB14.out.size))
          have HK15 := Aside0.mk (blk_below HK14.out hb15)
          have HL15 := Aside0.mk (blk_below HL14.out hb15)
          clear hb15
          refine hK.out _ _ ⟨((blk_cell HK15.out 0).trans rfl), ((blk_cell HL15.out 0).trans rfl)⟩ (fun hHeld => ?_)
          clear hK K
          refine norm_ (a' := ?_) ?_ ?_
          rotate_left
          · show Act.put _ (some 96) _ = _
            simp only [Act.put, List.setIfInBounds_toArray, List.set_cons_zero, List.set_cons_succ, i64_w, i32_w]
            rfl
          refine pure_ (i := 12) (N := some 19) (v := ?_) (a' := ?_) #[true, true, true, true, true, true, true, true, true, true, true, true, true, false] rfl rfl (by kernel_rfl) (fun _ _ _ h => h) (Or.inl ⟨by rfl, ?_⟩) ?_ ?_
          rotate_left
          · intro w'
            go_simp
            with_reducible rfl
          rotate_left
          · simp only [Act.put, List.setIfInBounds_toArray, List.set_cons_zero, List.set_cons_succ, i64_w, i32_w]
            rfl
          refine pure_ (i := 13) (N := some 20) (v := ?_) (a' := ?_) #[true, true, true, true, true, true, true, true, true, true, true, true, true, true] rfl rfl (by kernel_rfl) (fun _ _ _ h => h) (Or.inl ⟨by rfl, ?_⟩) ?_ ?_
          rotate_left
          · intro w'
            go_simp
            with_reducible rfl
          rotate_left
          · simp only [Act.put, List.setIfInBounds_toArray, List.set_cons_zero, List.set_cons_succ, i64_w, i32_w]
            rfl
          refine done_ (by kernel_rfl) ?_
          clear hHeld f0 g0
          have hx := factC_size c
          have hy := factC_size d
          have hu := orC_size c
          have hv := orC_size d
          have hwc := HWC.out
          have hwd := HWD.out
          have hnc := HNC.out
          have hnd := HND.out
          obtain ⟨X, hX⟩ : ∃ X, X = factC c := ⟨_, rfl⟩
          obtain ⟨Y, hY⟩ : ∃ Y, Y = factC d := ⟨_, rfl⟩
          obtain ⟨U, hU⟩ : ∃ U, U = orC c := ⟨_, rfl⟩
          obtain ⟨U2, hU2⟩ : ∃ U2, U2 = orC d := ⟨_, rfl⟩
          rw [← hX] at hx
          rw [← hY] at hy
          rw [← hU] at hu
          rw [← hU2] at hv
          rw [← hX, ← hY, ← hU, ← hU2]
          clear hX hY hU hU2
          have s1 : (9223372036854775807 < 4 + X.size) = False := eq_false (by omega)
          have s2 : (9223372036854775807 < X.size + 5) = False := eq_false (by omega)
          have s3 : (9223372036854775807 < X.size + 5 + Y.size) = False := eq_false (by omega)
          have s4 : (9223372036854775807 < U.size + 4) = False := eq_false (by omega)
          have s5 : (9223372036854775807 < U.size + 4 + U2.size) = False := eq_false (by omega)
          clear hx hy hu hv hwc hwd hnc hnd
          go_wp2_with fail
          go_at_call 28
          refine (alive_any _ (LaidAt.of HLD.out HB15.out)).mono ?_
          rintro e w16 ⟨rfl, hb16⟩
          have HB16 := Aside0.mk (HB15.out.trans (hb16.mono HB15.out.size))
          have HK16 := Aside0.mk (blk_below HK15.out hb16)
          have HL16 := Aside0.mk (blk_below HL15.out hb16)
          clear hb16
          go_wp2_with fail
          all_goals go_ret
          exact ⟨rfl, HB16.out⟩
    · skip
      have n1 : decide (((manyS d 40 : Nat) : Int) > 40) = true := decide_eq_true (by unfold manyS; omega)
      have n2 : decide (40 < ((manyS d 40 : Nat) : Int)) = true := decide_eq_true (by unfold manyS; omega)
      have n3 : (40 < manyS d 40) = True := eq_true (by unfold manyS; omega)
      clear hnd
      have z0 : w1.cell? ⟨w.heap.size + 1, 0, none⟩ = some (.int .i64 d.f0) := blk_cell HL1.out 0
      have z1 : w1.cell? ⟨w.heap.size + 1, 1, none⟩ = some (.slice B d.f1.length cb) := blk_cell HL1.out 1
      have z2 : w1.cell? ⟨w.heap.size + 1, 2, none⟩ = some (.int .i64 d.f2) := blk_cell HL1.out 2
      have z3 : w1.cell? ⟨w.heap.size + 1, 3, none⟩ = some (.int .u64 d.f3) := blk_cell HL1.out 3
      have z4 : w1.cell? ⟨w.heap.size + 1, 4, none⟩ = some (.string d.f4) := blk_cell HL1.out 4
      have z5 : w1.cell? ⟨w.heap.size + 1, 5, none⟩ = some (.int .u64 d.f5) := blk_cell HL1.out 5
      go_wp2_with fail
      go_at_call 26
      refine (many_any d 40 (by omega) (by omega) B cb w1 (Kd.C_below HD.out HB1.out) HCB.out).mono ?_
      rintro e w2 ⟨rfl, hb2⟩
      have HB2 := Aside0.mk (HB1.out.trans (hb2.mono HB1.out.size))
      have HK2 := Aside0.mk (blk_below HK1.out hb2)
      have HL2 := Aside0.mk (blk_below HL1.out hb2)
      clear hb2 z0 z1 z2 z3 z4 z5
      go_wp2_with fail
      go_at_call 28
      refine (alive_any _ (LaidAt.of HLD.out HB2.out)).mono ?_
      rintro e w3 ⟨rfl, hbe⟩
      have HBe := Aside0.mk (HB2.out.trans (hbe.mono HB2.out.size))
      have HKe := Aside0.mk (blk_below HK2.out hbe)
      have HLe := Aside0.mk (blk_below HL2.out hbe)
      clear hbe
      go_wp2_with fail
      all_goals go_ret
      exact ⟨rfl, HBe.out⟩
  · skip
    have m1 : decide (((manyS c 40 : Nat) : Int) > 40) = true := decide_eq_true (by unfold manyS; omega)
    have m2 : decide (40 < ((manyS c 40 : Nat) : Int)) = true := decide_eq_true (by unfold manyS; omega)
    have m3 : (40 < manyS c 40) = True := eq_true (by unfold manyS; omega)
    clear hnc
    have y0 : V.cell? ⟨w.heap.size, 0, none⟩ = some (.int .i64 c.f0) := blk_cell HK0.out 0
    have y1 : V.cell? ⟨w.heap.size, 1, none⟩ = some (.slice A c.f1.length ca) := blk_cell HK0.out 1
    have y2 : V.cell? ⟨w.heap.size, 2, none⟩ = some (.int .i64 c.f2) := blk_cell HK0.out 2
    have y3 : V.cell? ⟨w.heap.size, 3, none⟩ = some (.int .u64 c.f3) := blk_cell HK0.out 3
    have y4 : V.cell? ⟨w.heap.size, 4, none⟩ = some (.string c.f4) := blk_cell HK0.out 4
    have y5 : V.cell? ⟨w.heap.size, 5, none⟩ = some (.int .u64 c.f5) := blk_cell HK0.out 5
    go_wp2_with fail
    go_at_call 26
    refine (many_any c 40 (by omega) (by omega) A ca V (Kd.C_below HC.out HB0.out) HCA.out).mono ?_
    rintro e w1 ⟨rfl, hb1⟩
    have HB1 := Aside0.mk (HB0.out.trans (hb1.mono HB0.out.size))
    have HK1 := Aside0.mk (blk_below HK0.out hb1)
    have HL1 := Aside0.mk (blk_below HL0.out hb1)
    clear hb1 y0 y1 y2 y3 y4 y5
    go_wp2_with fail
    go_at_call 28
    refine (alive_any _ (LaidAt.of HLD.out HB1.out)).mono ?_
    rintro e w2 ⟨rfl, hbe⟩
    have HBe := Aside0.mk (HB1.out.trans (hbe.mono HB1.out.size))
    have HKe := Aside0.mk (blk_below HK1.out hbe)
    have HLe := Aside0.mk (blk_below HL1.out hbe)
    clear hbe
    go_wp2_with fail
    all_goals go_ret
    exact ⟨rfl, HBe.out⟩

end Go.Proofs.YtdfjjimmnbijmaaDoor.SQ

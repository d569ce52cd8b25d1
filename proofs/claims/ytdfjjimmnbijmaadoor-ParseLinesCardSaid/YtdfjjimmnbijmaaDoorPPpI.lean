import Derived.Test.YtdfjjimmnbijmaaDoorPPpH
import Derived.Test.YtdfjjimmnbijmaaDoorPPpF
import Derived.Test.YtdfjjimmnbijmaaDoorPPw
namespace Go.Proofs.YtdfjjimmnbijmaaDoor.PP
open Go.RowKit Go.Proofs.YtdfjjimmnbijmaaDoorW.PrintWords Go.Proofs.YtdfjjimmnbijmaaDoorW.PrintLast Go.Proofs.YtdfjjimmnbijmaaDoorW.PrintMore Go.Proofs.YtdfjjimmnbijmaaDoor.Base
attribute [local go_sem] max2_int min2_int max_two min_two max_three min_three max_four min_four
set_option linter.unusedVariables false
set_option linter.unusedSimpArgs false
theorem alive15 : doorwardlaw15_alive.f = some true := by kernel_rfl
/-! ### the law of the lines -/
theorem Exp.app {a a' b b' : List UInt8} (h : Exp a a') (k : Exp b b') : Exp (a ++ b) (a' ++ b') := by
  induction h with
  | nil => exact k
  | keep c _ ih => exact .keep c ih
  | @nl r r' _ ih =>
    have := Exp.nl ih
    rw [← List.append_assoc] at this
    exact this
theorem Dbl.app {a a' b b' : List TK} (h : Dbl a a') (k : Dbl b b') : Dbl (a ++ b) (a' ++ b') := by
  induction h with
  | nil => exact k
  | one h0 h1 _ ih => exact .one h0 h1 ih
  | two h0 h1 h2 _ ih => exact .two h0 h1 h2 ih
def aheadL : List UInt8 := [35, 32, 97, 104, 101, 97, 100, 10, 10]
theorem LB_aheadL (r : List UInt8) : LB (aheadL ++ r) 0 = consT ⟨4, mkB [10], ((7 : Nat) : Int)⟩ (consT ⟨4, mkB [10], ((8 : Nat) : Int)⟩ (LB r 9)) := by
  have e2 : stepB (35 :: 32 :: 97 :: 104 :: 101 :: 97 :: 100 :: 10 :: 10 :: r) = some (7, none) := by
    rw [stepB_cons, if_neg (by decide), if_pos (by decide)]
    rfl
  show LB (35 :: 32 :: 97 :: 104 :: 101 :: 97 :: 100 :: 10 :: 10 :: r) 0 = _
  rw [LB_step _ _ (by simp), e2]
  show LB (10 :: 10 :: r) (0 + 7) = _
  rw [LB_line, LB_line]
theorem parse_exp {s : ByteArray} (h : (parseS s).2.2.2.2.1 = 0) {l' : List UInt8} (hE : Exp s.data.toList l') (ht : (mkB aheadL ++ mkB l').size ≤ 2000) : parseS (mkB aheadL ++ mkB l') = parseS s := by
  obtain ⟨L, p, l, h0, hs, hL, hS, hP, hR, _, _⟩ := parse_ok h
  obtain ⟨ts', e1, d1⟩ := LB_exp _ _ _ 0 9 (Nat.le_refl _) hE L hL
  have hd : (mkB aheadL ++ mkB l').data.toList = aheadL ++ l' := by rw [mkB_app, mkB_data]
  have hx := lexS_B (mkB aheadL ++ mkB l') ht
  rw [hd, LB_aheadL, e1] at hx
  obtain ⟨l2, hP2⟩ := policy_D (d1.app (.one (a := endK s.size) (a' := endK (mkB aheadL ++ mkB l').size) rfl rfl .nil)) hP
  have hx' : lexS (mkB aheadL ++ mkB l') = (⟨4, mkB [10], ((7 : Nat) : Int)⟩ :: ⟨4, mkB [10], ((8 : Nat) : Int)⟩ :: (ts' ++ [endK (mkB aheadL ++ mkB l').size]), 0, 0) := hx
  have hq : ∀ (a b : TK) (m : List TK), a.f0 = 4 → b.f0 = 4 → policyP (a :: b :: m) = policyP m := fun a b m ha hb => by
    unfold policyP
    rw [lines4 ha, lines4 hb]
  have : parseS (mkB aheadL ++ mkB l') = parseR (policyP (ts' ++ [endK (mkB aheadL ++ mkB l').size])) := by
    unfold parseS
    rw [hx', if_pos rfl, hq _ _ _ rfl rfl]
  rw [this, hP2, hR]
  rfl
theorem parse_bad {s : ByteArray} (h : (parseS s).2.2.2.2.1 ≠ 0) : (parseS s).1 = ⟨#[]⟩ ∧ (parseS s).2.1 = ⟨#[]⟩ ∧ (parseS s).2.2.1 = 0 ∧ (parseS s).2.2.2.1 = [] := by
  unfold parseS at h ⊢
  split
  · rename_i h0
    rw [if_pos h0] at h
    cases hp : policyP (lexS s).1 with
    | ok x => rw [hp] at h; exact absurd rfl h
    | error e => exact ⟨rfl, rfl, rfl, rfl⟩
  · exact ⟨rfl, rfl, rfl, rfl⟩
theorem pl_l0 (s : ByteArray) (hs : s.size ≤ 1000) (x4 : Int) (p0 p1 : ByteArray) (p2 : Int) (p3 : List S81)
    (hend : ∀ l', Exp s.data.toList l' → Ev (fun k => if x4 = 0 then doorwardlaw15_ParseLines.j1 k x4 (mkB aheadL ++ mkB l') (decide (((mkB aheadL ++ mkB l').size : Int) > 2000)) p0 p1 p2 p3 else doorwardlaw15_ParseLines.j1 k x4 (mkB aheadL ++ mkB l') true p0 p1 p2 p3) true) :
    ∀ d i p', i + d = s.size → Exp (s.data.toList.take i) p' → p'.length ≤ 9 * i → Ev (fun k => doorwardlaw15_ParseLines.l0 k s x4 (mkB aheadL ++ mkB p') (s.size : Int) (i : Int) p0 p1 p2 p3) true := by
  intro d
  induction d with
  | zero =>
    intro i p' hi hE hp
    apply succ
    simp only [doorwardlaw15_ParseLines.l0]
    refine evN (by omega) ?_
    rw [List.take_of_length_le (by rw [← Lib.size_eq]; omega)] at hE
    exact hend p' hE
  | succ d ih =>
    intro i p' hi hE hp
    have hil : i < s.data.toList.length := by rw [← Lib.size_eq]; omega
    have hbt := bt_get s i _ (List.getElem?_eq_getElem hil)
    have htk : s.data.toList.take (i + 1) = s.data.toList.take i ++ [s.data.toList[i]] := by rw [List.take_add_one, List.getElem?_eq_getElem hil]; rfl
    have hex : s.extract i (i + 1) = mkB [s.data.toList[i]] := by
      rw [extract_mkB, drop_cons hil]; rfl
    have hw : wrap64 ((i : Int) + 1) = ((i + 1 : Nat) : Int) := w1 (by omega)
    have hsz : (mkB aheadL ++ mkB p').size = 9 + p'.length := by rw [mkB_app, mkB_size]; simp [aheadL]; omega
    generalize s.data.toList[i] = c at hbt htk hex
    have keep : Ev (fun k => doorwardlaw15_ParseLines.l0 k s x4 (mkB aheadL ++ mkB p' ++ mkB [c]) (s.size : Int) ((i + 1 : Nat) : Int) p0 p1 p2 p3) true := by
      have := ih (i + 1) (p' ++ [c]) (by omega) (by rw [htk]; exact hE.app (.keep c .nil)) (by simp; omega)
      rw [← mkB_app, ← ByteArray.append_assoc] at this
      exact this
    have tail : Ev (fun k => if (i : Int) ≤ wrap64 ((i : Int) + 1) then (if wrap64 ((i : Int) + 1) ≤ (s.size : Int) then (if (mkB aheadL ++ mkB p').size + (s.extract (i : Int).toNat (wrap64 ((i : Int) + 1)).toNat).size ≤ 9223372036854775807 then doorwardlaw15_ParseLines.l0 k s x4 (mkB aheadL ++ mkB p' ++ s.extract (i : Int).toNat (wrap64 ((i : Int) + 1)).toNat) (s.size : Int) (wrap64 ((i : Int) + 1)) p0 p1 p2 p3 else none) else none) else none) true := by
      rw [hw, Int.toNat_natCast, Int.toNat_natCast, hex]
      refine evP (by omega) (evP (by omega) (evP ?_ keep))
      rw [hsz, mkB_size]; simp; omega
    apply succ
    simp only [doorwardlaw15_ParseLines.l0]
    refine evP (by omega) (evP (by omega) (evP (by omega) ?_))
    by_cases hc : bt s (i : Int) = 10
    · refine evP hc ?_
      by_cases h18 : ((mkB aheadL ++ mkB p').size : Int) < 1800
      · refine evP h18 (evP (by omega) ?_)
        rw [hw]
        have hc10 : c = 10 := by
          rw [hbt] at hc
          apply UInt8.toNat_inj.1
          show c.toNat = 10
          omega
        subst hc10
        have := ih (i + 1) (p' ++ hereL) (by omega) (by rw [htk]; exact hE.app (b' := hereL) (Exp.nl Exp.nil)) (by simp [hereL]; omega)
        rw [← mkB_app, ← ByteArray.append_assoc] at this
        exact this
      · exact evN h18 tail
    · exact evN hc tail
theorem parseLines_law (a0 : ByteArray) : Ev (fun k => doorwardlaw15_ParseLines.f k a0) true := by
  have hmn : mn (a0.size : Int) 900 = ((min a0.size 900 : Nat) : Int) := by unfold mn; split <;> omega
  simp only [doorwardlaw15_ParseLines.f]
  rw [hmn, Int.toNat_natCast]
  refine evP (by omega) (evP (by omega) ?_)
  have hs : (a0.extract 0 (min a0.size 900)).size ≤ 1000 := by simp; omega
  generalize a0.extract 0 (min a0.size 900) = s at hs
  show Ev (fun k => (some (parseS s)).bind fun bt139 => _) true
  simp only [Option.bind_some]
  have hal := alive15
  have fin : ∀ l', Exp s.data.toList l' → Ev (fun k => if (parseS s).2.2.2.2.1 = 0 then doorwardlaw15_ParseLines.j1 k (parseS s).2.2.2.2.1 (mkB aheadL ++ mkB l') (decide (((mkB aheadL ++ mkB l').size : Int) > 2000)) (parseS s).1 (parseS s).2.1 (parseS s).2.2.1 (parseS s).2.2.2.1 else doorwardlaw15_ParseLines.j1 k (parseS s).2.2.2.2.1 (mkB aheadL ++ mkB l') true (parseS s).1 (parseS s).2.1 (parseS s).2.2.1 (parseS s).2.2.2.1) true := by
    intro l' hE
    by_cases e0 : (parseS s).2.2.2.2.1 = 0
    · refine evP e0 ?_
      apply succ
      simp only [doorwardlaw15_ParseLines.j1]
      by_cases h2 : ((mkB aheadL ++ mkB l').size : Int) > 2000
      · rw [decide_eq_true h2]
        refine evP rfl ?_
        rw [hal]
        simp only [Option.bind_some]
        exact evP trivial (evP e0 (now rfl))
      · rw [decide_eq_false h2]
        refine evN (by decide) ?_
        show Ev (fun k => (some (parseS (mkB aheadL ++ mkB l'))).bind fun bt150 => _) true
        simp only [Option.bind_some]
        rw [parse_exp e0 hE (by omega), hal]
        simp only [Option.bind_some]
        refine evP trivial (evP e0 ?_)
        obtain ⟨L, p, l, _, _, _, _, _, hR, q1, q2⟩ := parse_ok e0
        rw [hR]
        exact Ev.bind (like_ev p.f0 p.f1 p.f2 p.f3 q1 q2) (now rfl)
    · refine evN e0 ?_
      apply succ
      simp only [doorwardlaw15_ParseLines.j1]
      refine evP trivial ?_
      rw [hal]
      simp only [Option.bind_some]
      refine evP trivial (evN e0 ?_)
      obtain ⟨q0, q1, q2, q3⟩ := parse_bad e0
      rw [q0, q1, q2, q3]
      exact Ev.bind (like_ev ⟨#[]⟩ ⟨#[]⟩ 0 [] (by simp) (fun r hr => by cases hr)) (now rfl)
  have h := pl_l0 s hs (parseS s).2.2.2.2.1 _ _ _ _ fin s.size 0 [] (by omega) (by rw [List.take_zero]; exact .nil) (by simp)
  have e0 : mkB aheadL ++ mkB [] = mkB aheadL := by rw [mkB_app, List.append_nil]
  rw [e0] at h
  exact h

end Go.Proofs.YtdfjjimmnbijmaaDoor.PP

import Derived.Test.YtdfjjimmnbijmaaDoorPPqH
import Derived.Test.YtdfjjimmnbijmaaDoorPPy
namespace Go.Proofs.YtdfjjimmnbijmaaDoor.PP
open Go.RowKit Go.Proofs.YtdfjjimmnbijmaaDoorW.PrintWords Go.Proofs.YtdfjjimmnbijmaaDoorW.PrintLast Go.Proofs.YtdfjjimmnbijmaaDoorW.PrintMore Go.Proofs.YtdfjjimmnbijmaaDoor.Base
attribute [local go_sem] max2_int min2_int max_two min_two max_three min_three max_four min_four
set_option linter.unusedVariables false
set_option linter.unusedSimpArgs false
theorem alive15 : doorwardlaw15_alive.f = some true := by kernel_rfl
/-! ### the law of the rules -/
def headS : ByteArray := ⟨#[97, 114, 99, 104, 32, 97, 10, 100, 101, 102, 97, 117, 108, 116, 32, 98, 10]⟩
def headA : List UInt8 := [97, 114, 99, 104, 32, 97, 10, 100, 101, 102, 97, 117, 108, 116, 32, 98]
def headT : List TK := [⟨1, mkB [97, 114, 99, 104], ((0 : Nat) : Int)⟩, ⟨1, mkB [97], ((5 : Nat) : Int)⟩, ⟨4, mkB [10], ((6 : Nat) : Int)⟩, ⟨1, mkB [100, 101, 102, 97, 117, 108, 116], ((7 : Nat) : Int)⟩, ⟨1, mkB [98], ((15 : Nat) : Int)⟩]
theorem LB_headA : LB headA 0 = .ok headT := by kernel_rfl
theorem head_policy (N : TK) (hN : N.f0 = 4) (X : List TK) : policyP (headT ++ N :: X) = bnd (rulesP (linesP X).length [] (linesP X)) fun rs => .ok (⟨mkB [97], mkB [98], 0, rs.1⟩, rs.2) := by
 have e1 : takeP 1 [archT] (linesP (headT ++ N :: X)) = .ok (mkB [97, 114, 99, 104], headT.drop 1 ++ N :: X) := by kernel_rfl
 have e2 : wordP (headT.drop 1 ++ N :: X) = .ok (mkB [97], headT.drop 2 ++ N :: X) := by kernel_rfl
 have e3 : endP (headT.drop 2 ++ N :: X) = .ok ((), headT.drop 3 ++ N :: X) := by kernel_rfl
 have e4 : takeP 1 [defT] (headT.drop 3 ++ N :: X) = .ok (mkB [100, 101, 102, 97, 117, 108, 116], headT.drop 4 ++ N :: X) := by kernel_rfl
 have e5 : wordP (headT.drop 4 ++ N :: X) = .ok (mkB [98], N :: X) := by kernel_rfl
 have e6 : actP (headT.drop 4 ++ N :: X) = .ok ((mkB [98], 0), N :: X) := by
  unfold actP
  rw [e5, bnd_ok, if_neg (show ¬ (hd (N :: X)).f0 = 2 by show ¬ N.f0 = 2; rw [hN]; decide)]
 have e7 : endP (N :: X) = .ok ((), linesP X) := by
  unfold endP
  rw [if_neg (show ¬ (hd (N :: X)).f0 = 0 by show ¬ N.f0 = 0; rw [hN]; decide)]
  have e4 : takeP 4 [] (N :: X) = .ok (N.f1, X) := take_any0 hN
  rw [e4, bnd_ok]
 unfold policyP
 rw [e1, bnd_ok, e2, bnd_ok, e3, bnd_ok, e4, bnd_ok, e6, bnd_ok, e7, bnd_ok]
theorem Dbl.app2 {a a' b b' : List TK} (h : Dbl a a') (k : Dbl b b') : Dbl (a ++ b) (a' ++ b') := by
 induction h with
 | nil => exact k
 | one h0 h1 _ ih => exact .one h0 h1 ih
 | two h0 h1 h2 _ ih => exact .two h0 h1 h2 ih
theorem dbl_maps (d e : Nat) : ∀ l : List TK, Dbl (l.map (shT d)) (l.map (shT e))
 | [] => .nil
 | a :: r => .one rfl rfl (dbl_maps d e r)
theorem dbl_shift (d : Nat) : ∀ l : List TK, Dbl l (l.map (shT d))
 | [] => .nil
 | a :: r => .one rfl rfl (dbl_shift d r)
theorem Dbl.trans1 {a b c : List TK} (h : Dbl a b) (k : b = c) : Dbl a c := k ▸ h
theorem shE_ok {d : Nat} {r : Except Nat (List TK)} {m : List TK} (h : shE d r = .ok m) : ∃ m0, r = .ok m0 ∧ m = m0.map (shT d) := by
 cases r with
 | ok l => exact ⟨l, rfl, (Except.ok.inj h).symm⟩
 | error e => cases h
/-- The row of a source, an end, and what stands for the end. -/
theorem ext_of {s : ByteArray} {L : List TK} (h : LB s.data.toList 0 = .ok L) (N : TK) (hN : N.f0 = 4) (Y : List TK) : Ext (endK s.size) N Y (L ++ [endK s.size]) (L ++ N :: Y) := by
 have hk : ∀ t ∈ L, t.f0 ≠ 0 := by
  have h1 := LX_LB s 0 (Nat.zero_le _)
  rw [List.drop_zero, h] at h1
  intro t ht
  have := LX_kind s (s.size) 0 (by omega) (Nat.zero_le _) L h1 t ht
  omega
 clear h
 induction L with
 | nil => exact .fin rfl hN
 | cons a r ih => exact .one (hk a List.mem_cons_self) (ih fun t ht => hk t (List.mem_cons_of_mem _ ht))
theorem parse_rules {s u : ByteArray} (hs : (parseS s).2.2.2.2.1 = 0) (hu : (parseS (headS ++ u)).2.2.2.2.1 = 0) (hsz : s.size + u.size + 1 ≤ 2000) :
  parseS ((s ++ ⟨#[10]⟩) ++ u) = ((parseS s).1, (parseS s).2.1, (parseS s).2.2.1, (parseS s).2.2.2.1 ++ (parseS (headS ++ u)).2.2.2.1, 0, 0) := by
 obtain ⟨L, p, lp, _, _, hL, _, hP, hR, _, _⟩ := parse_ok hs
 obtain ⟨K, q, lq, _, _, hK, _, hQ, hRq, _, _⟩ := parse_ok hu
 have d1 : (headS ++ u).data.toList = headA ++ 10 :: u.data.toList := by simp [headS, headA]
 have d2 : ((s ++ ⟨#[10]⟩) ++ u).data.toList = s.data.toList ++ 10 :: u.data.toList := by simp
 rw [d1, LB_join _ _ _ _ (Nat.le_refl _), LB_headA] at hK
 -- the rule's own tokens
 have hM0 : ∃ M, LB u.data.toList 17 = .ok M ∧ K = headT ++ ⟨4, mkB [10], ((0 + headA.length : Nat) : Int)⟩ :: M := by
  have e17 : 0 + headA.length + 1 = 17 := rfl
  rw [e17] at hK
  cases hr : LB u.data.toList 17 with
  | error e => rw [hr] at hK; cases hK
  | ok M => rw [hr] at hK; exact ⟨M, rfl, (Except.ok.inj hK).symm⟩
 obtain ⟨M, hM, rfl⟩ := hM0
 -- at whatever place
 have hM1 : ∃ M0, LB u.data.toList 0 = .ok M0 ∧ M = M0.map (shT 17) := shE_ok (by have := LB_shift _ u.data.toList 0 17 (Nat.le_refl _); rw [Nat.zero_add] at this; rw [← this]; exact hM)
 obtain ⟨M0, hM0, rfl⟩ := hM1
 have hM2 : LB u.data.toList (0 + s.data.toList.length + 1) = .ok (M0.map (shT (s.data.toList.length + 1))) := by
  have := LB_shift _ u.data.toList 0 (s.data.toList.length + 1) (Nat.le_refl _)
  rw [hM0] at this
  rw [Nat.zero_add] at this ⊢
  exact this
 have hts : ((s ++ ⟨#[10]⟩) ++ u).size ≤ 2000 := by
  have : ((s ++ ⟨#[10]⟩) ++ u).size = s.size + 1 + u.size := by rw [ByteArray.size_append, ByteArray.size_append]; rfl
  omega
 have hx := lexS_B _ hts
 rw [d2, LB_join _ _ _ _ (Nat.le_refl _), hL, hM2] at hx
 generalize hz : ((s ++ ⟨#[10]⟩) ++ u).size = z at hx
 generalize hn : (((0 + s.data.toList.length : Nat)) : Int) = n at hx
 have hx' : lexS ((s ++ ⟨#[10]⟩) ++ u) = (L ++ ⟨4, mkB [10], n⟩ :: (M0.map (shT (s.data.toList.length + 1)) ++ [endK z]), 0, 0) := by
  rw [hx]
  show (L ++ ⟨4, mkB [10], n⟩ :: M0.map (shT (s.data.toList.length + 1)) ++ [endK z], (0 : Int), (0 : Int)) = _
  simp
 -- what the rules are
 rw [List.append_assoc, List.cons_append, head_policy _ rfl] at hQ
 obtain ⟨⟨rs, l7⟩, h7, h8⟩ := bnd_inv hQ
 obtain ⟨rfl, rfl⟩ := Prod.mk.inj (Except.ok.inj h8)
 have dd : ∀ e : Nat, Dbl (M0.map (shT 17) ++ [endK (headS ++ u).size]) (M0.map (shT e) ++ [endK z]) := fun e => Dbl.app2 (dbl_maps 17 e M0) (.one rfl rfl .nil)
 have hq : ∀ N, (linesP (M0.map (shT (s.data.toList.length + 1)) ++ [endK z])).length ≤ N → ∃ lq, rulesP N [] (linesP (M0.map (shT (s.data.toList.length + 1)) ++ [endK z])) = .ok (rs, lq) := by
  intro N hN
  obtain ⟨l', e1, _⟩ := rules_D _ N [] _ _ _ _ (Nat.le_refl _) hN (lines_D (dd _)) h7
  exact ⟨l', e1⟩
 obtain ⟨l9, hfin⟩ := policy_X hq (ext_of hL ⟨4, mkB [10], n⟩ rfl (M0.map (shT (s.data.toList.length + 1)) ++ [endK z])) hP
 have : parseS ((s ++ ⟨#[10]⟩) ++ u) = parseR (policyP (L ++ ⟨4, mkB [10], n⟩ :: (M0.map (shT (s.data.toList.length + 1)) ++ [endK z]))) := by
  unfold parseS
  rw [hx', if_pos rfl]
 rw [this, hfin, hR, hRq]
 rfl
theorem parseRules_law (a0 a1 : ByteArray) : Ev (fun k => doorwardlaw15_ParseRules.f k a0 a1) true := by
 have hm0 : mn (a0.size : Int) 900 = ((min a0.size 900 : Nat) : Int) := by unfold mn; split <;> omega
 have hm1 : mn (a1.size : Int) 300 = ((min a1.size 300 : Nat) : Int) := by unfold mn; split <;> omega
 simp only [doorwardlaw15_ParseRules.f]
 rw [hm0, hm1, Int.toNat_natCast, Int.toNat_natCast]
 have hs : (a0.extract 0 (min a0.size 900)).size ≤ 900 := by simp; omega
 have hu : (a1.extract 0 (min a1.size 300)).size ≤ 300 := by simp; omega
 refine evP (by omega) (evP (by omega) (evP (by omega) (evP (by omega) ?_)))
 generalize a0.extract 0 (min a0.size 900) = s at hs
 generalize a1.extract 0 (min a1.size 300) = u at hu
 show Ev (fun k => (some (parseS s)).bind fun bt139 => _) true
 simp only [Option.bind_some]
 refine evP (by omega) ?_
 show Ev (fun k => (some (parseS (headS ++ u))).bind fun bt148 => _) true
 simp only [Option.bind_some]
 have hal := alive15
 have skip : ∀ (x0 x1 : ByteArray) (b0 b1 : ByteArray) (b2 : Int) (b3 : List S81) (c0 c1 : ByteArray) (c2 : Int) (c3 : List S81), Ev (fun k => doorwardlaw15_ParseRules.j0 k x0 x1 true b0 b1 b2 b3 c0 c1 c2 c3) true := by
  intro x0 x1 b0 b1 b2 b3 c0 c1 c2 c3
  apply succ
  simp only [doorwardlaw15_ParseRules.j0]
  refine evP trivial ?_
  rw [hal]
  exact now rfl
 by_cases e0 : (parseS s).2.2.2.2.1 = 0
 ·refine evP e0 ?_
  by_cases e1 : (parseS (headS ++ u)).2.2.2.2.1 = 0
  ·have hb : ((parseS (headS ++ u)).2.2.2.2.1 != 0) = false := by rw [e1]; rfl
   rw [hb]
   apply succ
   simp only [doorwardlaw15_ParseRules.j0]
   refine evN (by decide) (evP (by omega) (evP ?_ ?_))
   ·have : (s ++ (⟨#[10]⟩ : ByteArray)).size = s.size + 1 := by rw [ByteArray.size_append]; rfl
    omega
   show Ev (fun k => (some (parseS ((s ++ ⟨#[10]⟩) ++ u))).bind fun bt158 => _) true
   simp only [Option.bind_some]
   have hall := parse_rules e0 e1 (by omega)
   obtain ⟨L, p, l, _, _, _, _, _, hR, q1, q2⟩ := parse_ok e0
   obtain ⟨K, q, m, _, _, _, _, _, hQ, r1, r2⟩ := parse_ok e1
   have hall0 : (parseS ((s ++ ⟨#[10]⟩) ++ u)).2.2.2.2.1 = 0 := by rw [hall]
   obtain ⟨J, z, n, _, _, _, _, _, hZ, z1, z2⟩ := parse_ok hall0
   rw [hall, hR, hQ]
   rw [hall, hR, hQ] at hZ
   have ez : p.f3 ++ q.f3 = z.f3 := congrArg (fun t => t.2.2.2.1) hZ
   simp only [List.nil_append, List.length_nil, Nat.zero_add]
   refine evP (by omega) (evP (by omega) ?_)
   rw [hal]
   simp only [Option.bind_some]
   refine evP trivial (evP trivial ?_)
   rw [ez]
   exact Ev.bind (like_ev p.f0 p.f1 p.f2 z.f3 z1 z2) (now rfl)
  ·have hb : ((parseS (headS ++ u)).2.2.2.2.1 != 0) = true := by simpa using e1
   rw [hb]
   exact skip _ _ _ _ _ _ _ _ _ _
 ·exact evN e0 (skip _ _ _ _ _ _ _ _ _ _)

end Go.Proofs.YtdfjjimmnbijmaaDoor.PP

import Derived.Test.YtdfjjimmnbijmaaGreatDoorZQ12
import Derived.Test.YtdfjjimmnbijmaaGreatDoorZQh
namespace Go.Proofs.YtdfjjimmnbijmaaGreatDoor.ZQ
open Go.RowKit Go.Proofs.YtdfjjimmnbijmaaGreatDoorW.PrintWords Go.Proofs.YtdfjjimmnbijmaaGreatDoorW.PrintLast Go.Proofs.YtdfjjimmnbijmaaGreatDoorW.PrintMore Go.Proofs.YtdfjjimmnbijmaaGreatDoor.Base
attribute [local go_sem] max2_int min2_int max_two min_two max_three min_three max_four min_four
set_option linter.unusedVariables false
set_option linter.unusedSimpArgs false
set_option maxHeartbeats 6400000 in
set_option maxRecDepth 100000 in
theorem like_any (s0 s1 : ByteArray) (d : Int) (l : List S47) (A B : Option Addr) (cA cB : Nat) (w : World) (hA : Kd.C k47 w A l.length l) (hcA : l.length ≤ cA) (hB : Kd.C k47 w B l.length l) (hcB : l.length ≤ cB) (hLd : LaidAt w) (hl : l.length ≤ 1000000) (hn : ∀ x ∈ l, x.f2.length ≤ 1000000)
    (hc : ∀ x ∈ l, ∃ k, doorwardref15_LikeCond.f k x.f3.f0 x.f3.f1 x.f3.f2 x.f3.f3 x.f3.f4 x.f3.f5 x.f3.f0 x.f3.f1 x.f3.f2 x.f3.f3 x.f3.f4 x.f3.f5 = some true) :
    Calls Tryz.prog 16 #[.agg #[.string s0, .string s1, .int .u64 d, .slice A l.length cA], .agg #[.string s0, .string s1, .int .u64 d, .slice B l.length cB]] w fun e w' => e = .returned (.bool true) ∧ Below w.heap.size w w' := by
  have HLD := Aside0.mk hLd
  have HA := Aside0.mk hA
  have HB := Aside0.mk hB
  have HCA := Aside0.mk hcA
  have HCB := Aside0.mk hcB
  have HL := Aside0.mk hl
  have HN := Aside0.mk hn
  have HC := Aside0.mk hc
  clear hLd hA hB hcA hcB hl hn hc
  have HBW := Aside0.mk (show Below w.heap.size w ((w.alloc (.cells #[.string s0, .string s1, .int .u64 d, .slice A l.length cA] 25)).alloc (.cells #[.string s0, .string s1, .int .u64 d, .slice B l.length cB] 25)) from ((Below.refl _ _).alloc (Nat.le_refl _) _).alloc (by simp) _)
  have BK0 := Aside0.mk (show ((w.alloc (.cells #[.string s0, .string s1, .int .u64 d, .slice A l.length cA] 25)).alloc (.cells #[.string s0, .string s1, .int .u64 d, .slice B l.length cB] 25)).heap[w.heap.size]? = some (.cells #[.string s0, .string s1, .int .u64 d, .slice A l.length cA] 25 (0, 0)) from blk_alloc (blk_new w _) _)
  have BK1 := Aside0.mk (show ((w.alloc (.cells #[.string s0, .string s1, .int .u64 d, .slice A l.length cA] 25)).alloc (.cells #[.string s0, .string s1, .int .u64 d, .slice B l.length cB] 25)).heap[w.heap.size + 1]? = some (.cells #[.string s0, .string s1, .int .u64 d, .slice B l.length cB] 25 (0, 0)) from by
    have h_ := blk_new (w.alloc (.cells #[.string s0, .string s1, .int .u64 d, .slice A l.length cA] 25)) (.cells #[.string s0, .string s1, .int .u64 d, .slice B l.length cB] 25)
    rw [World.size_alloc] at h_; exact h_)
  go_enter Tryz.func16, Tryz.ntmps16
  go_upto_region 1 with (fail)
  obtain ⟨V0, hV0⟩ : ∃ V0, V0 = ((w.alloc (.cells #[.string s0, .string s1, .int .u64 d, .slice A l.length cA] 25)).alloc (.cells #[.string s0, .string s1, .int .u64 d, .slice B l.length cB] 25)) := ⟨_, rfl⟩
  rw [← hV0] at HBW BK0 BK1 ⊢
  clear hV0
  have ac0 : V0.cell? ⟨w.heap.size, 0, none⟩ = some (.string s0) := blk_cell BK0.out 0
  have ac1 : V0.cell? ⟨w.heap.size, 1, none⟩ = some (.string s1) := blk_cell BK0.out 1
  have ac2 : V0.cell? ⟨w.heap.size, 2, none⟩ = some (.int .u64 d) := blk_cell BK0.out 2
  have ac3 : V0.cell? ⟨w.heap.size, 3, none⟩ = some (.slice A l.length cA) := blk_cell BK0.out 3
  have af0 := blk_frozen BK0.out 0
  have af1 := blk_frozen BK0.out 1
  have af2 := blk_frozen BK0.out 2
  have af3 := blk_frozen BK0.out 3
  have bc0 : V0.cell? ⟨w.heap.size + 1, 0, none⟩ = some (.string s0) := blk_cell BK1.out 0
  have bc1 : V0.cell? ⟨w.heap.size + 1, 1, none⟩ = some (.string s1) := blk_cell BK1.out 1
  have bc2 : V0.cell? ⟨w.heap.size + 1, 2, none⟩ = some (.int .u64 d) := blk_cell BK1.out 2
  have bc3 : V0.cell? ⟨w.heap.size + 1, 3, none⟩ = some (.slice B l.length cB) := blk_cell BK1.out 3
  have bf0 := blk_frozen BK1.out 0
  have bf1 := blk_frozen BK1.out 1
  have bf2 := blk_frozen BK1.out 2
  have bf3 := blk_frozen BK1.out 3
  go_wp2_with fail
  clear ac0 ac1 ac2 ac3 af0 af1 af2 af3 bc0 bc1 bc2 bc3 bf0 bf1 bf2 bf3
  go_loopw [40] (fun v40 wr => ∃ i : Nat, v40 = .int .i64 i ∧ Aside0 (i ≤ l.length) ∧ Aside0 (wr.heap[w.heap.size]? = some (.cells #[.string s0, .string s1, .int .u64 d, .slice A l.length cA] 25 (0, 0))) ∧ Aside0 (wr.heap[w.heap.size + 1]? = some (.cells #[.string s0, .string s1, .int .u64 d, .slice B l.length cB] 25 (0, 0))) ∧ Aside0 (Below w.heap.size w wr)) (fun v40 _ => l.length - (intOf v40).toNat)
  case atStart => exact ⟨0, rfl, ⟨Nat.zero_le _⟩, BK0, BK1, HBW⟩
  case round =>
    obtain ⟨i, rfl, hi, R0, R1, RB⟩ := hrel
    by_cases hil : i < l.length
    · have hd : decide ((i : Int) < (l.length : Int)) = true := decide_eq_true (by omega)
      have hi0 : 0 ≤ (i : Int) := Int.natCast_nonneg i
      have hi1 : (i : Int) < (l.length : Int) := by omega
      obtain ⟨aA, A2, c2, A4, c4, eA, hx0, hx1, hx2, hx3, hx4, hx5, hx6, hx7, hx8, hl2, hC2, hl4, hC4⟩ := at_T47 HA.out (i : Int) hi0 (by omega)
      obtain ⟨aB, B2, d2, B4, d4, eB, hy0, hy1, hy2, hy3, hy4, hy5, hy6, hy7, hy8, gl2, gC2, gl4, gC4⟩ := at_T47 HB.out (i : Int) hi0 (by omega)
      have hmem : rd_T47 l (i : Int) ∈ l := by
        have e_ : rd_T47 l (i : Int) = l[i] := by simp [rd_T47, List.getD_eq_getElem?_getD, List.getElem?_eq_getElem hil]
        rw [e_]; exact List.getElem_mem hil
      obtain ⟨x, hx⟩ : ∃ x, x = rd_T47 l (i : Int) := ⟨_, rfl⟩
      rw [← hx] at hx0 hx1 hx2 hx3 hx4 hx5 hx6 hx7 hx8 hl2 hC2 hl4 hC4 hy0 hy1 hy2 hy3 hy4 hy5 hy6 hy7 hy8 gl2 gC2 gl4 gC4 hmem
      clear hx
      rw [Int.toNat_natCast] at hx0 hx1 hx2 hx3 hx4 hx5 hx6 hx7 hx8 hy0 hy1 hy2 hy3 hy4 hy5 hy6 hy7 hy8
      have HX := Aside0.mk hmem
      have HC2 := Aside0.mk hC2
      have HC4 := Aside0.mk hC4
      have GC2 := Aside0.mk gC2
      have GC4 := Aside0.mk gC4
      have HL4 := Aside0.mk hl4
      have GL4 := Aside0.mk gl4
      clear hC2 hC4 gC2 gC4 hmem hl2 gl2 hl4 gl4
      subst eA
      subst eB
      have kx0 := (RB.out.cell (World.block_lt_of_cell? w _ hx0)).trans hx0
      have kx1 := (RB.out.cell (World.block_lt_of_cell? w _ hx1)).trans hx1
      have kx2 := (RB.out.cell (World.block_lt_of_cell? w _ hx2)).trans hx2
      have kx3 := (RB.out.cell (World.block_lt_of_cell? w _ hx3)).trans hx3
      have kx4 := (RB.out.cell (World.block_lt_of_cell? w _ hx4)).trans hx4
      have kx5 := (RB.out.cell (World.block_lt_of_cell? w _ hx5)).trans hx5
      have kx6 := (RB.out.cell (World.block_lt_of_cell? w _ hx6)).trans hx6
      have kx7 := (RB.out.cell (World.block_lt_of_cell? w _ hx7)).trans hx7
      have kx8 := (RB.out.cell (World.block_lt_of_cell? w _ hx8)).trans hx8
      have HY0 := Aside0.mk hy0
      have HY1 := Aside0.mk hy1
      have HY2 := Aside0.mk hy2
      have HY3 := Aside0.mk hy3
      have HY4 := Aside0.mk hy4
      have HY5 := Aside0.mk hy5
      have HY6 := Aside0.mk hy6
      have HY7 := Aside0.mk hy7
      have HY8 := Aside0.mk hy8
      clear hx0 hx1 hx2 hx3 hx4 hx5 hx6 hx7 hx8 hy0 hy1 hy2 hy3 hy4 hy5 hy6 hy7 hy8
      have hi0_ := eq_true hi0
      have hi1_ := eq_true hi1
      clear hi0 hi1
      go_upto_region 6 with (fail)
      clear kx0 kx1 kx2 kx3 kx4 kx5 kx6 kx7 kx8
      have hsr : w.heap.size + 2 ≤ wr.heap.size := by have := blk_lt R1.out; omega
      have hbV_ := RB.out
      have P9 := Aside0.mk (blk_new wr (.cells #[.string x.f0, .int .u64 x.f1, .slice A2 x.f2.length c2, .int .i64 x.f3.f0, .slice A4 x.f3.f1.length c4, .int .i64 x.f3.f2, .int .u64 x.f3.f3, .string x.f3.f4, .int .u64 x.f3.f5] 47))
      have PBB := Aside0.mk (hbV_.alloc (by omega) (.cells #[.string x.f0, .int .u64 x.f1, .slice A2 x.f2.length c2, .int .i64 x.f3.f0, .slice A4 x.f3.f1.length c4, .int .i64 x.f3.f2, .int .u64 x.f3.f3, .string x.f3.f4, .int .u64 x.f3.f5] 47))
      have Q9 := Aside0.mk (blk_alloc R0.out (.cells #[.string x.f0, .int .u64 x.f1, .slice A2 x.f2.length c2, .int .i64 x.f3.f0, .slice A4 x.f3.f1.length c4, .int .i64 x.f3.f2, .int .u64 x.f3.f3, .string x.f3.f4, .int .u64 x.f3.f5] 47))
      have S9 := Aside0.mk (blk_alloc R1.out (.cells #[.string x.f0, .int .u64 x.f1, .slice A2 x.f2.length c2, .int .i64 x.f3.f0, .slice A4 x.f3.f1.length c4, .int .i64 x.f3.f2, .int .u64 x.f3.f3, .string x.f3.f4, .int .u64 x.f3.f5] 47))
      clear hbV_
      obtain ⟨G, hG⟩ : ∃ G, G = wr.heap.size := ⟨_, rfl⟩
      obtain ⟨V, hV⟩ : ∃ V, V = wr.alloc (.cells #[.string x.f0, .int .u64 x.f1, .slice A2 x.f2.length c2, .int .i64 x.f3.f0, .slice A4 x.f3.f1.length c4, .int .i64 x.f3.f2, .int .u64 x.f3.f3, .string x.f3.f4, .int .u64 x.f3.f5] 47) := ⟨_, rfl⟩
      rw [← hV] at P9 PBB Q9 S9 ⊢
      clear hV
      rw [← hG] at P9 hsr ⊢
      clear hG
      have HSR := Aside0.mk hsr
      have ky0 := (PBB.out.cell (World.block_lt_of_cell? w _ HY0.out)).trans HY0.out
      have ky1 := (PBB.out.cell (World.block_lt_of_cell? w _ HY1.out)).trans HY1.out
      have ky2 := (PBB.out.cell (World.block_lt_of_cell? w _ HY2.out)).trans HY2.out
      have ky3 := (PBB.out.cell (World.block_lt_of_cell? w _ HY3.out)).trans HY3.out
      have ky4 := (PBB.out.cell (World.block_lt_of_cell? w _ HY4.out)).trans HY4.out
      have ky5 := (PBB.out.cell (World.block_lt_of_cell? w _ HY5.out)).trans HY5.out
      have ky6 := (PBB.out.cell (World.block_lt_of_cell? w _ HY6.out)).trans HY6.out
      have ky7 := (PBB.out.cell (World.block_lt_of_cell? w _ HY7.out)).trans HY7.out
      have ky8 := (PBB.out.cell (World.block_lt_of_cell? w _ HY8.out)).trans HY8.out
      have bc0 : V.cell? ⟨w.heap.size + 1, 0, none⟩ = some (.string s0) := blk_cell S9.out 0
      have bc1 : V.cell? ⟨w.heap.size + 1, 1, none⟩ = some (.string s1) := blk_cell S9.out 1
      have bc2 : V.cell? ⟨w.heap.size + 1, 2, none⟩ = some (.int .u64 d) := blk_cell S9.out 2
      have bc3 : V.cell? ⟨w.heap.size + 1, 3, none⟩ = some (.slice (some aB) l.length cB) := blk_cell S9.out 3
      have bf0 := blk_frozen S9.out 0
      have bf1 := blk_frozen S9.out 1
      have bf2 := blk_frozen S9.out 2
      have bf3 := blk_frozen S9.out 3
      clear hsr
      go_upto_region 7 with (fail)
      clear ky0 ky1 ky2 ky3 ky4 ky5 ky6 ky7 ky8 bc0 bc1 bc2 bc3 bf0 bf1 bf2 bf3
      have hsr := HSR.out
      have hGV : G < V.heap.size := blk_lt P9.out
      have T9 := Aside0.mk (blk_new V (.cells #[.string x.f0, .int .u64 x.f1, .slice B2 x.f2.length d2, .int .i64 x.f3.f0, .slice B4 x.f3.f1.length d4, .int .i64 x.f3.f2, .int .u64 x.f3.f3, .string x.f3.f4, .int .u64 x.f3.f5] 47))
      have TP := Aside0.mk (blk_alloc P9.out (.cells #[.string x.f0, .int .u64 x.f1, .slice B2 x.f2.length d2, .int .i64 x.f3.f0, .slice B4 x.f3.f1.length d4, .int .i64 x.f3.f2, .int .u64 x.f3.f3, .string x.f3.f4, .int .u64 x.f3.f5] 47))
      have TB := Aside0.mk (PBB.out.alloc (by omega) (.cells #[.string x.f0, .int .u64 x.f1, .slice B2 x.f2.length d2, .int .i64 x.f3.f0, .slice B4 x.f3.f1.length d4, .int .i64 x.f3.f2, .int .u64 x.f3.f3, .string x.f3.f4, .int .u64 x.f3.f5] 47))
      have TQ := Aside0.mk (blk_alloc Q9.out (.cells #[.string x.f0, .int .u64 x.f1, .slice B2 x.f2.length d2, .int .i64 x.f3.f0, .slice B4 x.f3.f1.length d4, .int .i64 x.f3.f2, .int .u64 x.f3.f3, .string x.f3.f4, .int .u64 x.f3.f5] 47))
      have TS := Aside0.mk (blk_alloc S9.out (.cells #[.string x.f0, .int .u64 x.f1, .slice B2 x.f2.length d2, .int .i64 x.f3.f0, .slice B4 x.f3.f1.length d4, .int .i64 x.f3.f2, .int .u64 x.f3.f3, .string x.f3.f4, .int .u64 x.f3.f5] 47))
      clear P9 PBB Q9 S9
      have HGH := Aside0.mk hGV
      obtain ⟨H, hH⟩ : ∃ H, H = V.heap.size := ⟨_, rfl⟩
      obtain ⟨U, hU⟩ : ∃ U, U = V.alloc (.cells #[.string x.f0, .int .u64 x.f1, .slice B2 x.f2.length d2, .int .i64 x.f3.f0, .slice B4 x.f3.f1.length d4, .int .i64 x.f3.f2, .int .u64 x.f3.f3, .string x.f3.f4, .int .u64 x.f3.f5] 47) := ⟨_, rfl⟩
      rw [← hU] at T9 TP TB TQ TS ⊢
      clear hU
      rw [← hH] at T9 HGH ⊢
      clear hH hsr hGV
      have rc0 : U.cell? ⟨G, 0, none⟩ = some (.string x.f0) := blk_cell TP.out 0
      have rc1 : U.cell? ⟨G, 1, none⟩ = some (.int .u64 x.f1) := blk_cell TP.out 1
      have rc2 : U.cell? ⟨G, 2, none⟩ = some (.slice A2 x.f2.length c2) := blk_cell TP.out 2
      have rc3 : U.cell? ⟨G, 3, none⟩ = some (.int .i64 x.f3.f0) := blk_cell TP.out 3
      have rc4 : U.cell? ⟨G, 4, none⟩ = some (.slice A4 x.f3.f1.length c4) := blk_cell TP.out 4
      have rc5 : U.cell? ⟨G, 5, none⟩ = some (.int .i64 x.f3.f2) := blk_cell TP.out 5
      have rc6 : U.cell? ⟨G, 6, none⟩ = some (.int .u64 x.f3.f3) := blk_cell TP.out 6
      have rc7 : U.cell? ⟨G, 7, none⟩ = some (.string x.f3.f4) := blk_cell TP.out 7
      have rc8 : U.cell? ⟨G, 8, none⟩ = some (.int .u64 x.f3.f5) := blk_cell TP.out 8
      have rf0 := blk_frozen TP.out 0
      have rf1 := blk_frozen TP.out 1
      have rf2 := blk_frozen TP.out 2
      have rf3 := blk_frozen TP.out 3
      have rf4 := blk_frozen TP.out 4
      have rf5 := blk_frozen TP.out 5
      have rf6 := blk_frozen TP.out 6
      have rf7 := blk_frozen TP.out 7
      have rf8 := blk_frozen TP.out 8
      have tc0 : U.cell? ⟨H, 0, none⟩ = some (.string x.f0) := blk_cell T9.out 0
      have tc1 : U.cell? ⟨H, 1, none⟩ = some (.int .u64 x.f1) := blk_cell T9.out 1
      have tc2 : U.cell? ⟨H, 2, none⟩ = some (.slice B2 x.f2.length d2) := blk_cell T9.out 2
      have tc3 : U.cell? ⟨H, 3, none⟩ = some (.int .i64 x.f3.f0) := blk_cell T9.out 3
      have tc4 : U.cell? ⟨H, 4, none⟩ = some (.slice B4 x.f3.f1.length d4) := blk_cell T9.out 4
      have tc5 : U.cell? ⟨H, 5, none⟩ = some (.int .i64 x.f3.f2) := blk_cell T9.out 5
      have tc6 : U.cell? ⟨H, 6, none⟩ = some (.int .u64 x.f3.f3) := blk_cell T9.out 6
      have tc7 : U.cell? ⟨H, 7, none⟩ = some (.string x.f3.f4) := blk_cell T9.out 7
      have tc8 : U.cell? ⟨H, 8, none⟩ = some (.int .u64 x.f3.f5) := blk_cell T9.out 8
      have tf0 := blk_frozen T9.out 0
      have tf1 := blk_frozen T9.out 1
      have tf2 := blk_frozen T9.out 2
      have tf3 := blk_frozen T9.out 3
      have tf4 := blk_frozen T9.out 4
      have tf5 := blk_frozen T9.out 5
      have tf6 := blk_frozen T9.out 6
      have tf7 := blk_frozen T9.out 7
      have tf8 := blk_frozen T9.out 8
      have hne1 : G ≠ H := Nat.ne_of_lt HGH.out
      obtain ⟨kk, hkk⟩ := HC.out x HX.out
      have HK := Aside0.mk hkk
      clear hkk
      go_wp2_with fail
      refine (doorwardref15_LikeCond.calls kk x.f3.f0 _ _ x.f3.f1 x.f3.f2 x.f3.f3 x.f3.f4 x.f3.f5 x.f3.f0 _ _ x.f3.f1 x.f3.f2 x.f3.f3 x.f3.f4 x.f3.f5 true _ (Kd.C_below HC4.out TB.out) HL4.out (Kd.C_below GC4.out TB.out) GL4.out (LaidAt.of HLD.out TB.out) HK.out).mono ?_
      rintro e w5 ⟨rfl, hb5⟩
      clear rc0 rc1 rc2 rc3 rc4 rc5 rc6 rc7 rc8 rf0 rf1 rf2 rf3 rf4 rf5 rf6 rf7 rf8 tc0 tc1 tc2 tc3 tc4 tc5 tc6 tc7 tc8 tf0 tf1 tf2 tf3 tf4 tf5 tf6 tf7 tf8
      have E9 := Aside0.mk (blk_below T9.out hb5)
      have EP := Aside0.mk (blk_below TP.out hb5)
      have EQ := Aside0.mk (blk_below TQ.out hb5)
      have ES := Aside0.mk (blk_below TS.out hb5)
      have EB := Aside0.mk (TB.out.trans (hb5.mono TB.out.size))
      clear T9 TP TQ TS TB hb5 HK
      have rc0 : w5.cell? ⟨G, 0, none⟩ = some (.string x.f0) := blk_cell EP.out 0
      have rc1 : w5.cell? ⟨G, 1, none⟩ = some (.int .u64 x.f1) := blk_cell EP.out 1
      have rc2 : w5.cell? ⟨G, 2, none⟩ = some (.slice A2 x.f2.length c2) := blk_cell EP.out 2
      have rc3 : w5.cell? ⟨G, 3, none⟩ = some (.int .i64 x.f3.f0) := blk_cell EP.out 3
      have rc4 : w5.cell? ⟨G, 4, none⟩ = some (.slice A4 x.f3.f1.length c4) := blk_cell EP.out 4
      have rc5 : w5.cell? ⟨G, 5, none⟩ = some (.int .i64 x.f3.f2) := blk_cell EP.out 5
      have rc6 : w5.cell? ⟨G, 6, none⟩ = some (.int .u64 x.f3.f3) := blk_cell EP.out 6
      have rc7 : w5.cell? ⟨G, 7, none⟩ = some (.string x.f3.f4) := blk_cell EP.out 7
      have rc8 : w5.cell? ⟨G, 8, none⟩ = some (.int .u64 x.f3.f5) := blk_cell EP.out 8
      have rf0 := blk_frozen EP.out 0
      have rf1 := blk_frozen EP.out 1
      have rf2 := blk_frozen EP.out 2
      have rf3 := blk_frozen EP.out 3
      have rf4 := blk_frozen EP.out 4
      have rf5 := blk_frozen EP.out 5
      have rf6 := blk_frozen EP.out 6
      have rf7 := blk_frozen EP.out 7
      have rf8 := blk_frozen EP.out 8
      go_wp2_with fail
      clear rc0 rc1 rc2 rc3 rc4 rc5 rc6 rc7 rc8 rf0 rf1 rf2 rf3 rf4 rf5 rf6 rf7 rf8
      go_loopw [82] (fun v82 wq => ∃ j : Nat, v82 = .int .i64 j ∧ Aside0 (j ≤ x.f2.length) ∧ Aside0 (wq.heap[w.heap.size]? = some (.cells #[.string s0, .string s1, .int .u64 d, .slice (some aA) l.length cA] 25 (0, 0))) ∧ Aside0 (wq.heap[w.heap.size + 1]? = some (.cells #[.string s0, .string s1, .int .u64 d, .slice (some aB) l.length cB] 25 (0, 0))) ∧ Aside0 (wq.heap[G]? = some (.cells #[.string x.f0, .int .u64 x.f1, .slice A2 x.f2.length c2, .int .i64 x.f3.f0, .slice A4 x.f3.f1.length c4, .int .i64 x.f3.f2, .int .u64 x.f3.f3, .string x.f3.f4, .int .u64 x.f3.f5] 47 (0, 0))) ∧ Aside0 (wq.heap[H]? = some (.cells #[.string x.f0, .int .u64 x.f1, .slice B2 x.f2.length d2, .int .i64 x.f3.f0, .slice B4 x.f3.f1.length d4, .int .i64 x.f3.f2, .int .u64 x.f3.f3, .string x.f3.f4, .int .u64 x.f3.f5] 47 (0, 0))) ∧ Aside0 (Below w.heap.size w wq)) (fun v82 _ => x.f2.length - (intOf v82).toNat)
      case atStart => exact ⟨0, rfl, ⟨Nat.zero_le _⟩, EQ, ES, EP, E9, EB⟩
      case round =>
        obtain ⟨j, rfl, hj, J0, J1, JG, JH, JB⟩ := hrel
        have hnx := HN.out x HX.out
        by_cases hjl : j < x.f2.length
        · have hd2 : decide ((j : Int) < (x.f2.length : Int)) = true := decide_eq_true (by omega)
          have hj0 : 0 ≤ (j : Int) := Int.natCast_nonneg j
          have hj1 : (j : Int) < (x.f2.length : Int) := by omega
          obtain ⟨b2, eb2, u2⟩ := Kd.at_string HC2.out (j : Int) hj0 hj1
          obtain ⟨b3, eb3, u3⟩ := Kd.at_string GC2.out (j : Int) hj0 hj1
          rw [Int.toNat_natCast] at u2 u3
          obtain ⟨nm, hnm⟩ : ∃ nm, nm = rdOf ByteArray.empty x.f2 (j : Int) := ⟨_, rfl⟩
          rw [← hnm] at u2 u3
          clear hnm
          subst eb2
          subst eb3
          have m2 := (JB.out.cell (World.block_lt_of_cell? w _ u2)).trans u2
          have m3 := (JB.out.cell (World.block_lt_of_cell? w _ u3)).trans u3
          clear u2 u3
          have hj0_ := eq_true hj0
          have hj1_ := eq_true hj1
          clear hj0 hj1
          have HJL := Aside0.mk hjl
          have HNX := Aside0.mk hnx
          have rc2 : wr.cell? ⟨G, 2, none⟩ = some (.slice (some b2) x.f2.length c2) := blk_cell JG.out 2
          have tc2 : wr.cell? ⟨H, 2, none⟩ = some (.slice (some b3) x.f2.length d2) := blk_cell JH.out 2
          have hdn : (j < x.f2.length) = True := eq_true hjl
          clear hjl hnx
          go_upto_region 12 with (fail)
          refine start_ (n := 11) (S := fun w' => w'.cell? ⟨G, 2, none⟩ = some (.slice (some b2) x.f2.length c2) ∧ w'.cell? ⟨H, 2, none⟩ = some (.slice (some b3) x.f2.length d2) ∧ w'.cell? (b2.add j) = some (.string nm) ∧ w'.cell? (b3.add j) = some (.string nm)) (ds := []) #[false, false, false, false, false, false, false, false, false, false, false] (by kernel_rfl) rfl rfl ⟨(cdr rc2), (cdr tc2), (cdr m2), (cdr m3)⟩ (fun hHeld => ?_)
          refine pure_ (i := 0) (N := some 85) (v := ?_) (a' := ?_) #[true, false, false, false, false, false, false, false, false, false, false] rfl rfl (by kernel_rfl) (fun _ _ _ h => h) (Or.inl ⟨by rfl, ?_⟩) ?_ ?_
          rotate_left
          · intro w'
            go_simp
            with_reducible rfl
          rotate_left
          · simp only [Act.put, List.setIfInBounds_toArray, List.set_cons_zero, List.set_cons_succ, i64_w, i32_w]
            rfl
          refine pure_ (i := 2) (N := some 87) (v := ?_) (a' := ?_) #[true, false, true, false, false, false, false, false, false, false, false] rfl rfl (by kernel_rfl) (fun _ _ _ h => h) (Or.inl ⟨by rfl, ?_⟩) ?_ ?_
          rotate_left
          · intro w'
            go_simp
            with_reducible rfl
          rotate_left
          · simp only [Act.put, List.setIfInBounds_toArray, List.set_cons_zero, List.set_cons_succ, i64_w, i32_w]
            rfl
          refine pure_ (i := 5) (N := some 90) (v := ?_) (a' := ?_) #[true, false, true, false, false, true, false, false, false, false, false] rfl rfl (by kernel_rfl) (fun _ _ _ h => h) (Or.inl ⟨by rfl, ?_⟩) ?_ ?_
          rotate_left
          · intro w'
            go_simp
            with_reducible rfl
          rotate_left
          · simp only [Act.put, List.setIfInBounds_toArray, List.set_cons_zero, List.set_cons_succ, i64_w, i32_w]
            rfl
          refine pure_ (i := 7) (N := some 92) (v := ?_) (a' := ?_) #[true, false, true, false, false, true, false, true, false, false, false] rfl rfl (by kernel_rfl) (fun _ _ _ h => h) (Or.inl ⟨by rfl, ?_⟩) ?_ ?_
          rotate_left
          · intro w'
            go_simp
            with_reducible rfl
          rotate_left
          · simp only [Act.put, List.setIfInBounds_toArray, List.set_cons_zero, List.set_cons_succ, i64_w, i32_w]
            rfl
          refine take_ (i := 1) (N := some 86) (v := ?_) (a' := ?_) #[true, true, true, false, false, true, false, true, false, false, false] rfl rfl (by kernel_rfl) (fun _ _ _ h => h) (Or.inl ⟨by rfl, ?_⟩) hHeld ?_ ?_
          rotate_left
          · rintro w' ⟨s0, s1, s2, s3⟩
            go_simp
            with_reducible rfl
          rotate_left
          · simp only [Act.put, List.setIfInBounds_toArray, List.set_cons_zero, List.set_cons_succ, i64_w, i32_w]
            rfl
          refine pure_ (i := 3) (N := some 88) (v := ?_) (a' := ?_) #[true, true, true, true, false, true, false, true, false, false, false] rfl rfl (by kernel_rfl) (fun _ _ _ h => h) (Or.inl ⟨by rfl, ?_⟩) ?_ ?_
          rotate_left
          · intro w'
            go_simp
            with_reducible rfl
          rotate_left
          · simp only [Act.put, List.setIfInBounds_toArray, List.set_cons_zero, List.set_cons_succ, i64_w, i32_w]
            rfl
          refine take_ (i := 4) (N := some 89) (v := ?_) (a' := ?_) #[true, true, true, true, true, true, false, true, false, false, false] rfl rfl (by kernel_rfl) (fun _ _ _ h => h) (Or.inl ⟨by rfl, ?_⟩) hHeld ?_ ?_
          rotate_left
          · rintro w' ⟨s0, s1, s2, s3⟩
            go_simp
            with_reducible rfl
          rotate_left
          · simp only [Act.put, List.setIfInBounds_toArray, List.set_cons_zero, List.set_cons_succ, i64_w, i32_w]
            rfl
          refine take_ (i := 6) (N := some 91) (v := ?_) (a' := ?_) #[true, true, true, true, true, true, true, true, false, false, false] rfl rfl (by kernel_rfl) (fun _ _ _ h => h) (Or.inl ⟨by rfl, ?_⟩) hHeld ?_ ?_
          rotate_left
          · rintro w' ⟨s0, s1, s2, s3⟩
            go_simp
            with_reducible rfl
          rotate_left
          · simp only [Act.put, List.setIfInBounds_toArray, List.set_cons_zero, List.set_cons_succ, i64_w, i32_w]
            rfl
          refine pure_ (i := 8) (N := some 93) (v := ?_) (a' := ?_) #[true, true, true, true, true, true, true, true, true, false, false] rfl rfl (by kernel_rfl) (fun _ _ _ h => h) (Or.inl ⟨by rfl, ?_⟩) ?_ ?_
          rotate_left
          · intro w'
            go_simp
            with_reducible rfl
          rotate_left
          · simp only [Act.put, List.setIfInBounds_toArray, List.set_cons_zero, List.set_cons_succ, i64_w, i32_w]
            rfl
          refine take_ (i := 9) (N := some 94) (v := ?_) (a' := ?_) #[true, true, true, true, true, true, true, true, true, true, false] rfl rfl (by kernel_rfl) (fun _ _ _ h => h) (Or.inl ⟨by rfl, ?_⟩) hHeld ?_ ?_
          rotate_left
          · rintro w' ⟨s0, s1, s2, s3⟩
            go_simp
            with_reducible rfl
          rotate_left
          · simp only [Act.put, List.setIfInBounds_toArray, List.set_cons_zero, List.set_cons_succ, i64_w, i32_w]
            rfl
          refine pure_ (i := 10) (N := some 95) (v := ?_) (a' := ?_) #[true, true, true, true, true, true, true, true, true, true, true] rfl rfl (by kernel_rfl) (fun _ _ _ h => h) (Or.inl ⟨by rfl, ?_⟩) ?_ ?_
          rotate_left
          · intro w'
            go_simp
            with_reducible rfl
          rotate_left
          · simp only [Act.put, List.setIfInBounds_toArray, List.set_cons_zero, List.set_cons_succ, i64_w, i32_w]
            rfl
          refine done_ (by kernel_rfl) ?_
          go_wp2_with fail
          go_roundw
          case rel => exact ⟨j + 1, by have := HJL.out; have := HNX.out; rw [show wrap64 ((j : Int) + 1) = ((j + 1 : Nat) : Int) by unfold wrap64; omega], ⟨HJL.out⟩, ⟨bdr J0.out⟩, ⟨bdr J1.out⟩, ⟨bdr JG.out⟩, ⟨bdr JH.out⟩, ⟨JB.out.drew⟩⟩
          case measure =>
            have := HJL.out
            have := HNX.out
            rw [show wrap64 ((j : Int) + 1) = ((j + 1 : Nat) : Int) by unfold wrap64; omega]
            simp only [intOf, Int.toNat_natCast]
            omega
        · have hd2 : decide ((j : Int) < (x.f2.length : Int)) = false := decide_eq_false (by omega)
          have hdn : (j < x.f2.length) = False := eq_false hjl
          have HIL := Aside0.mk hil
          clear hil hnx hjl
          go_wp2_with fail
          go_roundw
          case rel => exact ⟨i + 1, by have := HIL.out; have := HL.out; rw [show wrap64 ((i : Int) + 1) = ((i + 1 : Nat) : Int) by unfold wrap64; omega], ⟨HIL.out⟩, J0, J1, JB⟩
          case measure =>
            have := HIL.out
            have := HL.out
            rw [show wrap64 ((i : Int) + 1) = ((i + 1 : Nat) : Int) by unfold wrap64; omega]
            simp only [intOf, Int.toNat_natCast]
            omega
    · have hd : decide ((i : Int) < (l.length : Int)) = false := decide_eq_false (by omega)
      have hdn : (i < l.length) = False := eq_false hil
      clear hil
      go_wp2_with fail
      go_ret
      exact ⟨rfl, RB.out⟩
def eqAll {α : Type} (e : α → α → Bool) : List α → List α → Bool
  | [], [] => true
  | a :: r, b :: s => e a b && eqAll e r s
  | _, _ => false
def eqK : Nat → S28 → S28 → Bool
  | 0, _, _ => false
  | n + 1, x, y => x.f0 == y.f0 && (x.f2 == y.f2 && (x.f3 == y.f3 && (x.f4.toList == y.f4.toList && (x.f5 == y.f5 && (decide (x.f1.length ≤ 1000000) && eqAll (eqK n) x.f1 y.f1)))))
def eqB (a b : ByteArray) : Bool := a.toList == b.toList
def eqR (n : Nat) (x y : S47) : Bool := eqB x.f0 y.f0 && (x.f1 == y.f1 && (eqAll eqB x.f2 y.f2 && (decide (x.f2.length ≤ 1000000) && eqK n x.f3 y.f3)))
def doorwardref15_Like.f (k : Nat) (a0_0 : ByteArray) (a0_1 : ByteArray) (a0_2 : Int) (l0_3 : List (S47)) (a1_0 : ByteArray) (a1_1 : ByteArray) (a1_2 : Int) (l1_3 : List (S47)) : Option (Bool) :=
  if (eqB a0_0 a1_0 && (eqB a0_1 a1_1 && (a0_2 == a1_2 && (decide (l0_3.length ≤ 1000000) && eqAll (eqR k) l0_3 l1_3)))) = true then some true else none
theorem eqB_eq {a b : ByteArray} (h : eqB a b = true) : a = b := tl_inj (by simpa [eqB] using h)
theorem eqAll_mono {α : Type} {e e' : α → α → Bool} (h : ∀ a b, e a b = true → e' a b = true) : ∀ l m, eqAll e l m = true → eqAll e' l m = true
  | [], [], _ => rfl
  | a :: r, b :: s, hh => by
    simp only [eqAll, Bool.and_eq_true] at hh ⊢
    exact ⟨h _ _ hh.1, eqAll_mono h r s hh.2⟩
  | [], b :: s, hh => by cases hh
  | a :: r, [], hh => by cases hh
theorem eqAll_eq {α : Type} {e : α → α → Bool} (h : ∀ a b, e a b = true → a = b) : ∀ l m, eqAll e l m = true → l = m
  | [], [], _ => rfl
  | a :: r, b :: s, hh => by
    simp only [eqAll, Bool.and_eq_true] at hh
    rw [h _ _ hh.1, eqAll_eq h r s hh.2]
  | [], b :: s, hh => by cases hh
  | a :: r, [], hh => by cases hh
theorem eqAll_mem {α : Type} {e : α → α → Bool} : ∀ l, eqAll e l l = true → ∀ a ∈ l, e a a = true
  | [], _, a, h => by cases h
  | b :: r, hh, a, h => by
    simp only [eqAll, Bool.and_eq_true] at hh
    rcases List.mem_cons.1 h with q | q
    · subst q; exact hh.1
    · exact eqAll_mem r hh.2 a q
theorem eqAll_refl {α : Type} {e : α → α → Bool} : ∀ l : List α, (∀ a ∈ l, e a a = true) → eqAll e l l = true
  | [], _ => rfl
  | b :: r, h => by
    simp only [eqAll, Bool.and_eq_true]
    exact ⟨h b List.mem_cons_self, eqAll_refl r fun a ha => h a (List.mem_cons_of_mem _ ha)⟩
theorem eqK_mono : ∀ n x y, eqK n x y = true → eqK (n + 1) x y = true
  | 0, x, y, h => by cases h
  | n + 1, x, y, h => by
    rw [eqK] at h ⊢
    simp only [Bool.and_eq_true] at h ⊢
    obtain ⟨h0, h1, h2, h3, h4, h5, h6⟩ := h
    exact ⟨h0, h1, h2, h3, h4, h5, eqAll_mono (eqK_mono n) _ _ h6⟩
theorem eqK_eq : ∀ n x y, eqK n x y = true → x = y
  | 0, x, y, h => by cases h
  | n + 1, x, y, h => by
    rw [eqK] at h
    simp only [Bool.and_eq_true, beq_iff_eq] at h
    obtain ⟨h0, h1, h2, h3, h4, _, h6⟩ := h
    have e4 := tl_inj h3
    have e1 := eqAll_eq (eqK_eq n) _ _ h6
    cases x; cases y
    simp only at h0 h1 h2 e4 h4 e1
    subst h0 h1 h2 e4 h4 e1
    rfl
theorem eqR_mono (n : Nat) (x y : S47) (h : eqR n x y = true) : eqR (n + 1) x y = true := by
  unfold eqR at h ⊢
  simp only [Bool.and_eq_true] at h ⊢
  exact ⟨h.1, h.2.1, h.2.2.1, h.2.2.2.1, eqK_mono _ _ _ h.2.2.2.2⟩
theorem eqR_eq (n : Nat) (x y : S47) (h : eqR n x y = true) : x = y := by
  unfold eqR at h
  simp only [Bool.and_eq_true, beq_iff_eq] at h
  obtain ⟨h0, h1, h2, _, h4⟩ := h
  have e0 := eqB_eq h0
  have e2 := eqAll_eq (fun a b => eqB_eq) _ _ h2
  have e4 := eqK_eq _ _ _ h4
  cases x; cases y
  simp only at e0 h1 e2 e4
  subst e0 h1 e2 e4
  rfl
theorem doorwardref15_Like.mono : ∀ a0 a1 a2 a3 a4 a5 a6 a7 k, LeO (doorwardref15_Like.f k a0 a1 a2 a3 a4 a5 a6 a7) (doorwardref15_Like.f (k + 1) a0 a1 a2 a3 a4 a5 a6 a7) := by
  intro a0 a1 a2 a3 a4 a5 a6 a7 k r h
  unfold doorwardref15_Like.f at h ⊢
  split at h
  · rename_i hc
    rw [if_pos]
    · exact h
    · simp only [Bool.and_eq_true] at hc ⊢
      exact ⟨hc.1, hc.2.1, hc.2.2.1, hc.2.2.2.1, eqAll_mono (eqR_mono k) _ _ hc.2.2.2.2⟩
  · cases h
theorem evP_ {α : Type} {c : Prop} [Decidable c] {g g' : Nat → Option α} {r : α} (hc : c) (h : Ev g r) : Ev (fun k => if c then g k else g' k) r := by
  have e : (fun k => if c then g k else g' k) = g := by funext k; rw [if_pos hc]
  rw [e]; exact h
theorem evN_ {α : Type} {c : Prop} [Decidable c] {g g' : Nat → Option α} {r : α} (hc : ¬ c) (h : Ev g' r) : Ev (fun k => if c then g k else g' k) r := by
  have e : (fun k => if c then g k else g' k) = g' := by funext k; rw [if_neg hc]
  rw [e]; exact h
theorem likeC_l0 (b0 : Int) (b2 : Int) (b3 : Int) (b4 : ByteArray) (b5 : Int) (kids : List S28) (hk : kids.length ≤ 1000000) (hh : ∀ c ∈ kids, Ev (fun k => doorwardref15_LikeCond.f k c.f0 c.f1 c.f2 c.f3 c.f4 c.f5 c.f0 c.f1 c.f2 c.f3 c.f4 c.f5) true) :
    ∀ d i, i + d = kids.length → Ev (fun k => doorwardref15_LikeCond.l0 k (kids.length : Int) (i : Int) b0 kids b2 b3 b4 b5 b0 kids b2 b3 b4 b5) true := by
  intro d
  induction d with
  | zero =>
    intro i hi
    refine Ev.step (fun k => by rw [doorwardref15_LikeCond.l0]) ?_
    exact evN_ (by omega) (Ev.now true)
  | succ d ih =>
    intro i hi
    refine Ev.step (fun k => by rw [doorwardref15_LikeCond.l0]) ?_
    refine evP_ (show (i : Int) < (kids.length : Int) by omega) (evP_ (show 0 ≤ (i : Int) by omega) (evP_ (show (i : Int) < (kids.length : Int) by omega) (evP_ (show (i : Int) < (kids.length : Int) by omega) ?_)))
    have hil : i < kids.length := by omega
    have e_ : rd_T28 kids (i : Int) = kids[i] := by simp [rd_T28, List.getD_eq_getElem?_getD, List.getElem?_eq_getElem hil]
    rw [e_]
    refine Ev.bind (hh _ (List.getElem_mem hil)) (evP_ rfl ?_)
    have := ih (i + 1) (by omega)
    rw [show wrap64 ((i : Int) + 1) = ((i + 1 : Nat) : Int) by unfold wrap64; omega]
    exact this
theorem likeC_ev : ∀ n (x : S28), eqK n x x = true → Ev (fun k => doorwardref15_LikeCond.f k x.f0 x.f1 x.f2 x.f3 x.f4 x.f5 x.f0 x.f1 x.f2 x.f3 x.f4 x.f5) true
  | 0, x, h => by cases h
  | n + 1, x, h => by
    rw [eqK] at h
    simp only [Bool.and_eq_true, decide_eq_true_eq] at h
    obtain ⟨_, _, _, _, _, h5, h6⟩ := h
    have hk := eqAll_mem _ h6
    refine Ev.step (fun k => by rw [doorwardref15_LikeCond.f]) ?_
    refine evP_ rfl (evP_ rfl (evP_ rfl (evP_ rfl (evP_ rfl ?_))))
    have hne : ((x.f1.length : Int) != (x.f1.length : Int)) = false := by simp
    rw [hne]
    refine Ev.step (fun k => by rw [doorwardref15_LikeCond.j0]) ?_
    refine evN_ (by decide) ?_
    exact likeC_l0 _ _ _ _ _ x.f1 h5 (fun c hc => likeC_ev n c (hk c hc)) x.f1.length 0 (by omega)
theorem doorwardref15_Like.calls (k : Nat) (a0_0 : ByteArray) (a0_1 : ByteArray) (a0_2 : Int) (A0_3 : Option Addr) (c0_3 : Nat) (l0_3 : List (S47)) (a1_0 : ByteArray) (a1_1 : ByteArray) (a1_2 : Int) (A1_3 : Option Addr) (c1_3 : Nat) (l1_3 : List (S47)) (r : Bool) (w : World) (hr0_3 : Kd.C k47 w A0_3 l0_3.length l0_3) (hc0_3 : l0_3.length ≤ c0_3) (hr1_3 : Kd.C k47 w A1_3 l1_3.length l1_3) (hc1_3 : l1_3.length ≤ c1_3) (hLd : LaidAt w) (h : doorwardref15_Like.f k a0_0 a0_1 a0_2 l0_3 a1_0 a1_1 a1_2 l1_3 = some r) :
    Calls Tryz.prog 16 #[.agg #[.string a0_0, .string a0_1, .int .u64 a0_2, .slice A0_3 l0_3.length c0_3], .agg #[.string a1_0, .string a1_1, .int .u64 a1_2, .slice A1_3 l1_3.length c1_3]] w fun e w' => e = .returned (.bool r) ∧ Below w.heap.size w w' := by
  unfold doorwardref15_Like.f at h
  split at h
  · rename_i hc
    obtain rfl := Option.some.inj h
    simp only [Bool.and_eq_true, beq_iff_eq, decide_eq_true_eq] at hc
    obtain ⟨q0, q1, q2, q3, q4⟩ := hc
    obtain rfl := eqB_eq q0
    obtain rfl := eqB_eq q1
    obtain rfl := q2
    obtain rfl := eqAll_eq (eqR_eq k) _ _ q4
    have hm := eqAll_mem _ q4
    refine like_any _ _ _ _ _ _ _ _ w hr0_3 hc0_3 hr1_3 hc1_3 hLd q3 (fun x hx => ?_) (fun x hx => ?_)
    · have := hm x hx
      unfold eqR at this
      simp only [Bool.and_eq_true, decide_eq_true_eq] at this
      exact this.2.2.2.1
    · have := hm x hx
      unfold eqR at this
      simp only [Bool.and_eq_true] at this
      exact Ev.rounds (likeC_ev k x.f3 this.2.2.2.2)
  · cases h

end Go.Proofs.YtdfjjimmnbijmaaGreatDoor.ZQ

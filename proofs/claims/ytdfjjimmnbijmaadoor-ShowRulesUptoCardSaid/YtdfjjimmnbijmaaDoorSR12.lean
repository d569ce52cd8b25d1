-- Written for this claim by myprint.py over the kit's print (functions of this session supplied)
import Derived.Test.YtdfjjimmnbijmaaDoorSR0
import Derived.Test.YtdfjjimmnbijmaaDoorSR3
import Derived.Test.YtdfjjimmnbijmaaDoorSR11
namespace Go.Proofs.YtdfjjimmnbijmaaDoor.SR
open Go.RowKit Go.Proofs.YtdfjjimmnbijmaaDoorW.PrintWords Go.Proofs.YtdfjjimmnbijmaaDoorW.PrintLast Go.Proofs.YtdfjjimmnbijmaaDoorW.PrintMore Go.Proofs.YtdfjjimmnbijmaaDoor.Base
attribute [local go_sem] max2_int min2_int max_two min_two max_three min_three max_four min_four   -- for this text's walks alone
set_option linter.unusedVariables false
set_option linter.unusedSimpArgs false

/-! ### doorwardlaw17_ShowRules: function 12 -/
def doorwardlaw17_ShowRules.j0 : Nat → ByteArray → Bool → ByteArray → ByteArray → Int → List (S81) → Option (Bool)
 | 0, _, _, _, _, _, _ => none
 | k + 1, x4, x36, x152000, x152001, x152002, x152003 => if x36 = true then ((doorwardlaw17_alive.f).bind fun t161 => (some t161)) else (if 0 ≤ (wrap64 ((x152003.length : Int) - 1)) then (if (wrap64 ((x152003.length : Int) - 1)) ≤ (x152003.length : Int) then ((show_Print.f x152000 x152001 x152002 (x152003.take ((wrap64 ((x152003.length : Int) - 1)) : Int).toNat)).bind fun bt174 => ((show_Print.f x152000 x152001 x152002 (x152003.drop ((wrap64 ((x152003.length : Int) - 1)) : Int).toNat)).bind fun bt176 => ((show_Print.f x152000 x152001 x152002 ([] : List (S81))).bind fun bt178 => ((doorwardlaw17_alive.f).bind fun t180 => (if t180 = true then (if bt174.2 = 0 then (if bt176.2 = 0 then (if bt178.2 = 0 then (if (bt176.1.size : Int) ≥ (bt178.1.size : Int) then (if 0 ≤ (bt178.1.size : Int) then (if (bt178.1.size : Int) ≤ (bt176.1.size : Int) then (if bt174.1.size + (bt176.1.extract ((bt178.1.size : Int) : Int).toNat bt176.1.size).size ≤ 9223372036854775807 then (some (x4.toList == (bt174.1 ++ (bt176.1.extract ((bt178.1.size : Int) : Int).toNat bt176.1.size)).toList)) else (none)) else (none)) else (none)) else (none)) else (none)) else (none)) else (none)) else (none)))))) else (none)) else (none))
def doorwardlaw17_ShowRules.f (k : Nat) (a0_0 : ByteArray) (a0_1 : ByteArray) (a0_2 : Int) (l0_3 : List (S81)) : Option (Bool) := (doorwardref15_Few.f a0_0 a0_1 a0_2 l0_3).bind fun bt152 => ((show_Print.f bt152.1 bt152.2.1 bt152.2.2.1 bt152.2.2.2.1).bind fun bt159 => (if bt152.2.2.2.2 = true then (if bt159.2 = 0 then (doorwardlaw17_ShowRules.j0 k bt159.1 ((bt152.2.2.2.1.length : Int) == 0) bt152.1 bt152.2.1 bt152.2.2.1 bt152.2.2.2.1) else (doorwardlaw17_ShowRules.j0 k bt159.1 true bt152.1 bt152.2.1 bt152.2.2.1 bt152.2.2.2.1)) else (doorwardlaw17_ShowRules.j0 k bt159.1 true bt152.1 bt152.2.1 bt152.2.2.1 bt152.2.2.2.1)))
theorem doorwardlaw17_ShowRules.mono_l : ∀ k, (∀ y0 y1 y2 y3 y4 y5, LeO (doorwardlaw17_ShowRules.j0 k y0 y1 y2 y3 y4 y5) (doorwardlaw17_ShowRules.j0 (k + 1) y0 y1 y2 y3 y4 y5))
 | 0 => fun _ _ _ _ _ _ r h => by simp [doorwardlaw17_ShowRules.j0] at h
 | k + 1 => by
  have ih0 := doorwardlaw17_ShowRules.mono_l k
  ·intro y0 y1 y2 y3 y4 y5
   unfold doorwardlaw17_ShowRules.j0
   repeat' first
   | (with_reducible exact ih0 _ _ _ _ _ _)
   | (with_reducible exact LeO.refl _)
   | (with_reducible exact LeO.none _)
   | (with_reducible refine LeO.ite ?_ ?_)
   | (with_reducible refine LeO.bind ?_ (fun _ => ?_))
   | exact ih0 _ _ _ _ _ _
   | exact LeO.none _
   | refine LeO.ite ?_ ?_
   | refine LeO.bind ?_ (fun _ => ?_)
theorem doorwardlaw17_ShowRules.mono : ∀ a0 a1 a2 a3 k, LeO (doorwardlaw17_ShowRules.f k a0 a1 a2 a3) (doorwardlaw17_ShowRules.f (k + 1) a0 a1 a2 a3) := by
 intro a0 a1 a2 a3 k
 have ih0 := doorwardlaw17_ShowRules.mono_l k
 unfold doorwardlaw17_ShowRules.f
 repeat' first
   | (with_reducible exact ih0 _ _ _ _ _ _)
   | (with_reducible exact LeO.refl _)
   | (with_reducible exact LeO.none _)
   | (with_reducible refine LeO.ite ?_ ?_)
   | (with_reducible refine LeO.bind ?_ (fun _ => ?_))
   | exact ih0 _ _ _ _ _ _
   | exact LeO.none _
   | refine LeO.ite ?_ ?_
   | refine LeO.bind ?_ (fun _ => ?_)
def doorwardlaw17_ShowRules.T7 : Bool × List (List Nat × List Nat) := (true, [([], []), ([0], [0]), ([], []), ([2], [2]), ([1, 3], [1, 3]), ([], []), ([5], [5]), ([], []), ([7], [7]), ([6, 8], [6, 8]), ([0, 1, 2, 3, 4], []), ([10, 4, 0, 1, 2, 3, 4], [4, 10]), ([0, 1, 2, 3, 4, 5, 6, 7, 8, 9, 10, 11], []), ([12, 9, 11, 0, 1, 2, 3, 4, 5, 6, 7, 8, 9, 10, 11], [9, 12])])
def doorwardlaw17_ShowRules.B7 : List Nat := [0, 1, 0, 4, 15, 0, 32, 0, 128, 480, 31, 1055, 4095, 8191]
theorem doorwardlaw17_ShowRules.tab7 : rtab .any (opsOf Tryd.f12 7) = doorwardlaw17_ShowRules.T7 := by kernel_rfl
theorem doorwardlaw17_ShowRules.bits7 : waitsOk doorwardlaw17_ShowRules.T7.2 doorwardlaw17_ShowRules.B7 = true := by kernel_rfl
set_option maxHeartbeats 8000000 in
set_option maxRecDepth 100000 in
theorem doorwardlaw17_ShowRules.calls (k : Nat) (a0_0 : ByteArray) (a0_1 : ByteArray) (a0_2 : Int) (A0_3 : Option Addr) (c0_3 : Nat) (l0_3 : List (S81)) (r : Bool) (w : World) (hr0_3 : Kd.C k81 w A0_3 l0_3.length l0_3) (hc0_3 : l0_3.length ≤ c0_3) (hLd : LaidAt w) (h : doorwardlaw17_ShowRules.f k a0_0 a0_1 a0_2 l0_3 = some r) :
  Calls Tryd.prog 12 #[.agg #[.string a0_0, .string a0_1, .int .u64 a0_2, .slice A0_3 l0_3.length c0_3]] w fun e w' => e = .returned (.bool r) ∧ Below w.heap.size w w' := by
 have hu41 := Tryd.underlying41
 have HLD := Aside0.mk hLd
 clear hLd
 have HR0_3 := Aside0.mk hr0_3
 have HC0_3 := Aside0.mk hc0_3
 clear hr0_3 hc0_3
 have HB := Aside0.mk (Below.refl w.heap.size w)
 have H:((doorwardref15_Few.f a0_0 a0_1 a0_2 l0_3).bind fun bt152 => ((show_Print.f bt152.1 bt152.2.1 bt152.2.2.1 bt152.2.2.2.1).bind fun bt159 => (if bt152.2.2.2.2 = true then (if bt159.2 = 0 then (doorwardlaw17_ShowRules.j0 k bt159.1 ((bt152.2.2.2.1.length:Int) == 0) bt152.1 bt152.2.1 bt152.2.2.1 bt152.2.2.2.1) else (doorwardlaw17_ShowRules.j0 k bt159.1 true bt152.1 bt152.2.1 bt152.2.2.1 bt152.2.2.2.1)) else (doorwardlaw17_ShowRules.j0 k bt159.1 true bt152.1 bt152.2.1 bt152.2.2.1 bt152.2.2.2.1)))) = some r:=h
 clear h
 replace H := Option.bind_eq_some_iff.mp H
 obtain ⟨⟨t152, t153, t154, t155, t158⟩, A20, H⟩ := H
 replace H:((show_Print.f t152 t153 t154 t155).bind fun bt159 => (if t158 = true then (if bt159.2 = 0 then (doorwardlaw17_ShowRules.j0 k bt159.1 ((t155.length:Int) == 0) t152 t153 t154 t155) else (doorwardlaw17_ShowRules.j0 k bt159.1 true t152 t153 t154 t155)) else (doorwardlaw17_ShowRules.j0 k bt159.1 true t152 t153 t154 t155))) = some r:=H
 have A2 := Aside0.mk A20
 clear A20
 replace H := Option.bind_eq_some_iff.mp H
 obtain ⟨⟨t159, t160⟩, A30, H⟩ := H
 replace H:(if t158 = true then (if t160 = 0 then (doorwardlaw17_ShowRules.j0 k t159 ((t155.length:Int) == 0) t152 t153 t154 t155) else (doorwardlaw17_ShowRules.j0 k t159 true t152 t153 t154 t155)) else (doorwardlaw17_ShowRules.j0 k t159 true t152 t153 t154 t155)) = some r:=H
 have A3 := Aside0.mk A30
 clear A30
 have HC4 := Aside0.mk H
 clear H
 go_enter Tryd.func12, Tryd.ntmps12
 go_upto_region 3 with (first|((with_reducible refine gate_dst (N:=1) rfl ?_);(try (refine gate_guard (by rfl) ?_;dsimp only));refine box_event ?hg (N:=1) ?hd (cs:=#[.string a0_0,.string a0_1,.int .u64 a0_2,.slice A0_3 l0_3.length c0_3]) (t:=41) ?hr ?_;(case hd => rfl);(case hg => rfl);(case hr => first|(go_simp;done)|(go_simp;rfl));intro gb151 hg w5 hbox hb;have n0_:=Aside0.mk (below_step (by repeat (with_reducible first|exact HB.out|apply below_alloc|apply pw_below_drewN|apply below_drew1)) hb);have n1_:=Aside0.mk (hbox);have n2_:=Aside0.mk ((by rw [hg];exact (below_size (by repeat (with_reducible first|exact HB.out|apply below_alloc|apply pw_below_drewN|apply below_drew1))):w.heap.size ≤ gb151));have n3_:=Aside0.mk ((by rw [hg];exact (below_size (by repeat (with_reducible first|exact HB.out|apply below_alloc|apply pw_below_drewN|apply below_drew1))):w.heap.size ≤ gb151));clear HB;have HB:=n0_;have BK151:=n1_;have GW151:=n2_;have GE151:=n3_;clear n0_ n1_ n2_ n3_;clear hb hbox hg;have hcz6_0:w5.cell? ⟨gb151,0,none⟩ = some (.string a0_0):=(blk_cell BK151.out 0).trans rfl;have hcz6_1:w5.cell? ⟨gb151,1,none⟩ = some (.string a0_1):=(blk_cell BK151.out 1).trans rfl;have hcz6_2:w5.cell? ⟨gb151,2,none⟩ = some (.int .u64 a0_2):=(blk_cell BK151.out 2).trans rfl;have hcz6_3:w5.cell? ⟨gb151,3,none⟩ = some (.slice A0_3 l0_3.length c0_3):=(blk_cell BK151.out 3).trans rfl;have hfz6_0:=blk_frozen BK151.out 0;have hfz6_1:=blk_frozen BK151.out 1;have hfz6_2:=blk_frozen BK151.out 2;have hfz6_3:=blk_frozen BK151.out 3)|((with_reducible refine gate_callee (f:=32) rfl ?_);refine goesL_ (some 17) rfl rfl Tryd.func32 (by kernel_rfl) rfl #[.agg #[.string a0_0,.string a0_1,.int .u64 a0_2,.slice A0_3 l0_3.length c0_3]] rfl (by (try simp only [List.map_toArray,List.map_cons,List.map_nil]);first|done|rfl|(simp only [List.length_drop,List.length_take];rfl)) ?_;(with_reducible refine (doorwardref15_Few.calls a0_0 a0_1 a0_2 (fun k_ => k_ < w.heap.size) _ _ l0_3 t152 t153 t154 t155 t158 _ ?side1 ?side2 A2.out).mono ?_);(case side1 => exact Kd.V_mk HC0_3.out (Kd.F_below (Kd.C_F k81_heap HR0_3.out) (by repeat (first|(with_reducible first|exact HB.out|apply below_alloc|apply pw_below_drewN|apply below_drew1|refine below_set ?_ GE151.out)|exact HB.out))));(case side2 => exact LaidAt.of HLD.out (by repeat (first|(with_reducible first|exact HB.out|apply below_alloc|apply pw_below_drewN|apply below_drew1|refine below_set ?_ GE151.out)|exact HB.out)));rintro e w7 ⟨v156,rfl,ho0,hb⟩;refine ⟨_,rfl,?_⟩;have n0_:=Aside0.mk (Kd.V_lower (Kd.V_mono (ok':=fun k_ => k_ ≠ gb151) ho0 (fun k_ hk_ => Or.elim hk_ (fun hs_ => fun e_ => Nat.not_le.2 hs_ (by rw [e_];exact GW151.out)) (fun hn_ => (Kd.freshB (g:=gb151) (o:=.cells #[.string a0_0,.string a0_1,.int .u64 a0_2,.slice A0_3 l0_3.length c0_3] 41 (0,0)) (by (with_reducible repeat (first|refine blk_drewN ?_ _|refine blk_drew ?_|refine blk_alloc ?_ _));exact BK151.out) k_ hn_)))) (below_size (by repeat (first|(with_reducible first|exact HB.out|apply below_alloc|apply pw_below_drewN|apply below_drew1|refine below_set ?_ GE151.out)|exact HB.out))));have n1_:=Aside0.mk (blk_below (g:=gb151) (o:=.cells #[.string a0_0,.string a0_1,.int .u64 a0_2,.slice A0_3 l0_3.length c0_3] 41 (0,0)) (by (with_reducible repeat (first|refine blk_drewN ?_ _|refine blk_drew ?_|refine blk_alloc ?_ _));exact BK151.out) hb);have n2_:=Aside0.mk (below_step (by repeat (first|(with_reducible first|exact HB.out|apply below_alloc|apply pw_below_drewN|apply below_drew1|refine below_set ?_ GE151.out)|exact HB.out)) hb);clear BK151;clear HB;have HO157:=n0_;have BK151:=n1_;have HB:=n2_;clear n0_ n1_ n2_;(try clear hb);(try clear hb2);(try clear hk);(try clear hi);(try clear ho0);have hcz8_0:w7.cell? ⟨gb151,0,none⟩ = some (.string a0_0):=(blk_cell BK151.out 0).trans rfl;have hcz8_1:w7.cell? ⟨gb151,1,none⟩ = some (.string a0_1):=(blk_cell BK151.out 1).trans rfl;have hcz8_2:w7.cell? ⟨gb151,2,none⟩ = some (.int .u64 a0_2):=(blk_cell BK151.out 2).trans rfl;have hcz8_3:w7.cell? ⟨gb151,3,none⟩ = some (.slice A0_3 l0_3.length c0_3):=(blk_cell BK151.out 3).trans rfl;have hfz8_0:=blk_frozen BK151.out 0;have hfz8_1:=blk_frozen BK151.out 1;have hfz8_2:=blk_frozen BK151.out 2;have hfz8_3:=blk_frozen BK151.out 3;obtain ⟨Ao9,co9,eo9⟩:=Kd.V_slice HO157.out;subst eo9)|((with_reducible refine gate_callee (f:=33) rfl ?_);refine goesL_ (some 22) rfl rfl Tryd.func33 (by kernel_rfl) rfl #[.agg #[.string t152,.string t153,.int .u64 t154,.slice Ao9 t155.length co9]] rfl (by (try simp only [List.map_toArray,List.map_cons,List.map_nil]);first|done|rfl|(simp only [List.length_drop,List.length_take];rfl)) ?_;(with_reducible refine (show_Print.calls t152 t153 t154 _ _ t155 t159 t160 _ ?side1 ?side2 ?side3 A3.out).mono ?_);(case side1 => refine (Kd.V_reads' (e:=81) (base:=w.heap.size) (ok:=fun k_ => k_ ≠ gb151) (n:=t155.length) (c:=co9) ?_).2.2;exact (by (with_reducible repeat (first|apply Kd.V_alloc|apply Kd.V_drewN|apply Kd.V_drew));exact (Kd.V_mono (Kd.V_far (p:=⟨gb151,3,none⟩) (Kd.V_far (p:=⟨gb151,2,none⟩) (Kd.V_far (p:=⟨gb151,1,none⟩) (Kd.V_far (p:=⟨gb151,0,none⟩) (Kd.V_mono HO157.out (fun k_ hk => (⟨hk,hk⟩:_ ∧ k_ ≠ gb151))) (fun _ hk => hk.2) (.string t152)) (fun _ hk => hk.2) (.string t153)) (fun _ hk => hk.2) (.int .u64 t154)) (fun _ hk => hk.2) (.slice Ao9 t155.length co9)) (fun _ h_ => h_.1))));(case side2 => exact (Kd.V_reads' HO157.out).2.1);(case side3 => exact LaidAt.of HLD.out (by repeat (first|(with_reducible first|exact HB.out|apply below_alloc|apply pw_below_drewN|apply below_drew1|refine below_set ?_ GE151.out)|exact HB.out)));rintro e w10 ⟨rfl,hb⟩;refine ⟨_,rfl,?_⟩;have n0_:=Aside0.mk (Kd.V_below (by (with_reducible repeat (first|apply Kd.V_alloc|apply Kd.V_drewN|apply Kd.V_drew));exact (Kd.V_mono (Kd.V_far (p:=⟨gb151,3,none⟩) (Kd.V_far (p:=⟨gb151,2,none⟩) (Kd.V_far (p:=⟨gb151,1,none⟩) (Kd.V_far (p:=⟨gb151,0,none⟩) (Kd.V_mono HO157.out (fun k_ hk => (⟨hk,hk⟩:_ ∧ k_ ≠ gb151))) (fun _ hk => hk.2) (.string t152)) (fun _ hk => hk.2) (.string t153)) (fun _ hk => hk.2) (.int .u64 t154)) (fun _ hk => hk.2) (.slice Ao9 t155.length co9)) (fun _ h_ => h_.1))) hb);have n1_:=Aside0.mk (blk_below (g:=gb151) (o:=.cells #[.string t152,.string t153,.int .u64 t154,.slice Ao9 t155.length co9] 41 (0,0)) (by (with_reducible repeat (first|refine blk_drewN ?_ _|refine blk_drew ?_|refine blk_alloc ?_ _));refine blk_put (cs:=#[.string t152,.string t153,.int .u64 t154,.slice A0_3 l0_3.length c0_3]) ?_ 3 _ rfl;(with_reducible repeat (first|refine blk_drewN ?_ _|refine blk_drew ?_|refine blk_alloc ?_ _));refine blk_put (cs:=#[.string t152,.string t153,.int .u64 a0_2,.slice A0_3 l0_3.length c0_3]) ?_ 2 _ rfl;(with_reducible repeat (first|refine blk_drewN ?_ _|refine blk_drew ?_|refine blk_alloc ?_ _));refine blk_put (cs:=#[.string t152,.string a0_1,.int .u64 a0_2,.slice A0_3 l0_3.length c0_3]) ?_ 1 _ rfl;(with_reducible repeat (first|refine blk_drewN ?_ _|refine blk_drew ?_|refine blk_alloc ?_ _));refine blk_put (cs:=#[.string a0_0,.string a0_1,.int .u64 a0_2,.slice A0_3 l0_3.length c0_3]) ?_ 0 _ rfl;(with_reducible repeat (first|refine blk_drewN ?_ _|refine blk_drew ?_|refine blk_alloc ?_ _));exact BK151.out) hb);have n2_:=Aside0.mk (below_step (by repeat (first|(with_reducible first|exact HB.out|apply below_alloc|apply pw_below_drewN|apply below_drew1|refine below_set ?_ GE151.out)|exact HB.out)) hb);clear HO157;clear BK151;clear HB;have HO157:=n0_;have BK151:=n1_;have HB:=n2_;clear n0_ n1_ n2_;(try clear hb);(try clear hb2);(try clear hk);(try clear hi)))
 (try simp only [Act.put, List.setIfInBounds_toArray, List.set_cons_zero, List.set_cons_succ])
 go_cut [36] (fun v36 wc => ∃ (kq:Nat) (x36_3:Bool),v36 = .bool x36_3 ∧ Aside0 (doorwardlaw17_ShowRules.j0 kq t159 x36_3 t152 t153 t154 t155 = some r) ∧ Aside0 (kq ≤ k) ∧ Aside0 (Kd.V k81 81 wc w.heap.size (fun k_ => k_ ≠ gb151) (.slice Ao9 t155.length co9) t155) ∧ Aside0 (wc.heap[gb151]? = some (.cells #[.string t152,.string t153,.int .u64 t154,(.slice Ao9 t155.length co9)] 41 (0,0))) ∧ Aside0 (Below w.heap.size w wc))
 case first =>
  have H := HC4.out
  clear HC4
  by_cases c11 : t158 = true
  ·subst c11
   have H1:(if t160 = 0 then (doorwardlaw17_ShowRules.j0 k t159 ((t155.length:Int) == 0) t152 t153 t154 t155) else (doorwardlaw17_ShowRules.j0 k t159 true t152 t153 t154 t155)) = some r:=by rw [if_pos rfl] at H;exact H
   clear H
   have H := H1
   clear H1
   by_cases c12 : t160 = 0
   ·rw [if_pos c12] at H
    have c12b0 : (t160 == 0) = true := beq_iff_eq.mpr c12
    have c12b1 : (t160 != 0) = false := bne_eq_false_iff_eq.mpr c12
    clear c12
    (first | rw [c12b0] | (simp only [i64_w, i32_w]; rw [c12b0]) | skip)
    have H' := Aside0.mk H
    clear H
    have hcz13_0 : w10.cell? ⟨gb151, 0, none⟩ = some (.string t152) := (blk_cell BK151.out 0).trans rfl
    have hcz13_1 : w10.cell? ⟨gb151, 1, none⟩ = some (.string t153) := (blk_cell BK151.out 1).trans rfl
    have hcz13_2 : w10.cell? ⟨gb151, 2, none⟩ = some (.int .u64 t154) := (blk_cell BK151.out 2).trans rfl
    have hcz13_3 : w10.cell? ⟨gb151, 3, none⟩ = some (.slice Ao9 t155.length co9) := (blk_cell BK151.out 3).trans rfl
    have hfz13_0 := blk_frozen BK151.out 0
    have hfz13_1 := blk_frozen BK151.out 1
    have hfz13_2 := blk_frozen BK151.out 2
    have hfz13_3 := blk_frozen BK151.out 3
    go_wp2
    go_meet
    case rel => exact ⟨_,(((t155.length:Int) == 0)),(by first|rfl|(simp;done)|(simp [*];done)),H',⟨by first|omega|exact Nat.le_refl _⟩,⟨by (with_reducible repeat (first|apply Kd.V_alloc|apply Kd.V_drewN|apply Kd.V_drew));exact HO157.out⟩,⟨by (with_reducible repeat (first|refine blk_drewN ?_ _|refine blk_drew ?_|refine blk_alloc ?_ _));exact BK151.out⟩,⟨by repeat (first|(with_reducible first|exact HB.out|apply below_alloc|apply pw_below_drewN|apply below_drew1|refine below_set ?_ GE151.out)|exact HB.out)⟩⟩
   ·rw [if_neg c12] at H
    have c12b0 : (t160 == 0) = false := beq_eq_false_iff_ne.mpr c12
    have c12b1 : (t160 != 0) = true := bne_iff_ne.mpr c12
    (first | rw [c12b0] | (simp only [i64_w, i32_w]; rw [c12b0]) | skip)
    have H' := Aside0.mk H
    clear H
    go_wp2
    go_meet
    case rel => exact ⟨_,(true),(by first|rfl|(simp;done)|(simp [*];done)),H',⟨by first|omega|exact Nat.le_refl _⟩,⟨by (with_reducible repeat (first|apply Kd.V_alloc|apply Kd.V_drewN|apply Kd.V_drew));exact HO157.out⟩,⟨by (with_reducible repeat (first|refine blk_drewN ?_ _|refine blk_drew ?_|refine blk_alloc ?_ _));exact BK151.out⟩,⟨by repeat (first|(with_reducible first|exact HB.out|apply below_alloc|apply pw_below_drewN|apply below_drew1|refine below_set ?_ GE151.out)|exact HB.out)⟩⟩
  ·replace c11 := Bool.eq_false_iff.mpr c11
   subst c11
   have H1 : (doorwardlaw17_ShowRules.j0 k t159 true t152 t153 t154 t155) = some r := by rw [if_neg (show ¬ (false = true) by decide)] at H; exact H
   clear H
   have H := H1
   clear H1
   have H' := Aside0.mk H
   clear H
   go_wp2
   go_meet
   case rel => exact ⟨_,(true),(by first|rfl|(simp;done)|(simp [*];done)),H',⟨by first|omega|exact Nat.le_refl _⟩,⟨by (with_reducible repeat (first|apply Kd.V_alloc|apply Kd.V_drewN|apply Kd.V_drew));exact HO157.out⟩,⟨by (with_reducible repeat (first|refine blk_drewN ?_ _|refine blk_drew ?_|refine blk_alloc ?_ _));exact BK151.out⟩,⟨by repeat (first|(with_reducible first|exact HB.out|apply below_alloc|apply pw_below_drewN|apply below_drew1|refine below_set ?_ GE151.out)|exact HB.out)⟩⟩
 case rest =>
  clear HC4
  try clear c1
  try clear p2
  try clear c3
  try clear c11
  try clear c12
  try clear c12b0
  try clear c12b1
  try clear hcz13_0
  try clear hcz13_1
  try clear hcz13_2
  try clear hcz13_3
  try clear hcz6_0
  try clear hcz6_1
  try clear hcz6_2
  try clear hcz6_3
  try clear hcz8_0
  try clear hcz8_1
  try clear hcz8_2
  try clear hcz8_3
  try clear hfz13_0
  try clear hfz13_1
  try clear hfz13_2
  try clear hfz13_3
  try clear hfz6_0
  try clear hfz6_1
  try clear hfz6_2
  try clear hfz6_3
  try clear hfz8_0
  try clear hfz8_1
  try clear hfz8_2
  try clear hfz8_3
  obtain ⟨kq, x36_3, rfl, HA, HJ3, HO_152003, BK151, HB⟩ := hcut
  cases kq with
  | zero => exact absurd HA.out (by simp [doorwardlaw17_ShowRules.j0])
  | succ kj3 =>
   have H := HA.out
   clear HA
   simp only [doorwardlaw17_ShowRules.j0] at H
   by_cases c14 : x36_3 = true
   ·subst c14
    have H1 : ((doorwardlaw17_alive.f).bind fun t161 => (some t161)) = some r := by rw [if_pos rfl] at H; exact H
    clear H
    have H := H1
    clear H1
    replace H := Option.bind_eq_some_iff.mp H
    obtain ⟨t161, A150, H⟩ := H
    replace H : (some t161) = some r := H
    have A15 := Aside0.mk A150
    clear A150
    obtain rfl := Option.some.inj H
    go_wp2_with (first|((with_reducible refine gate_callee (f:=28) rfl ?_);refine goesL_ (some 37) rfl rfl Tryd.func28 (by kernel_rfl) rfl #[] rfl (by (try simp only [List.map_toArray,List.map_cons,List.map_nil]);first|done|rfl|(simp only [List.length_drop,List.length_take];rfl)) ?_;(with_reducible refine (doorwardlaw17_alive.calls  t161 _ ?side1 A15.out).mono ?_);(case side1 => exact LaidAt.of HLD.out (by repeat (first|(with_reducible first|exact HB.out|apply below_alloc|apply pw_below_drewN|apply below_drew1|refine below_set ?_ GE151.out)|exact HB.out)));rintro e w16 ⟨rfl,hb⟩;refine ⟨_,rfl,?_⟩;have n0_:=Aside0.mk (Kd.V_below (by (with_reducible repeat (first|apply Kd.V_alloc|apply Kd.V_drewN|apply Kd.V_drew));exact HO_152003.out) hb);have n1_:=Aside0.mk (blk_below (g:=gb151) (o:=.cells #[.string t152,.string t153,.int .u64 t154,.slice Ao9 t155.length co9] 41 (0,0)) (by (with_reducible repeat (first|refine blk_drewN ?_ _|refine blk_drew ?_|refine blk_alloc ?_ _));exact BK151.out) hb);have n2_:=Aside0.mk (below_step (by repeat (first|(with_reducible first|exact HB.out|apply below_alloc|apply pw_below_drewN|apply below_drew1|refine below_set ?_ GE151.out)|exact HB.out)) hb);clear HO_152003;clear BK151;clear HB;have HO_152003:=n0_;have BK151:=n1_;have HB:=n2_;clear n0_ n1_ n2_;(try clear hb);(try clear hb2);(try clear hk);(try clear hi)))
    go_ret
    exact ⟨by first|rfl|(simp [errW_none,errW_some] <;> rfl)|(simp [*,errW_none,errW_some] <;> rfl),by repeat (first|(with_reducible first|exact HB.out|apply below_alloc|apply pw_below_drewN|apply below_drew1|refine below_set ?_ GE151.out)|exact HB.out)⟩
   ·replace c14 := Bool.eq_false_iff.mpr c14
    subst c14
    have H1:(if 0 ≤ (wrap64 ((t155.length:Int) - 1)) then (if (wrap64 ((t155.length:Int) - 1)) ≤ (t155.length:Int) then ((show_Print.f t152 t153 t154 (t155.take ((wrap64 ((t155.length:Int) - 1)):Int).toNat)).bind fun bt174 => ((show_Print.f t152 t153 t154 (t155.drop ((wrap64 ((t155.length:Int) - 1)):Int).toNat)).bind fun bt176 => ((show_Print.f t152 t153 t154 ([]:List (S81))).bind fun bt178 => ((doorwardlaw17_alive.f).bind fun t180 => (if t180 = true then (if bt174.2 = 0 then (if bt176.2 = 0 then (if bt178.2 = 0 then (if (bt176.1.size:Int) ≥ (bt178.1.size:Int) then (if 0 ≤ (bt178.1.size:Int) then (if (bt178.1.size:Int) ≤ (bt176.1.size:Int) then (if bt174.1.size+(bt176.1.extract ((bt178.1.size:Int):Int).toNat bt176.1.size).size ≤ 9223372036854775807 then (some (t159.toList == (bt174.1 ++ (bt176.1.extract ((bt178.1.size:Int):Int).toNat bt176.1.size)).toList)) else (none)) else (none)) else (none)) else (none)) else (none)) else (none)) else (none)) else (none)))))) else (none)) else (none)) = some r:=by rw [if_neg (show ¬ (false = true) by decide)] at H;exact H
    clear H
    have H := H1
    clear H1
    obtain ⟨ji17, hji17⟩ : ∃ j_ : Int, (wrap64 ((t155.length : Int) - 1)) = j_ := ⟨_, rfl⟩
    replace H:(if 0 ≤ (ji17) then (if (ji17) ≤ (t155.length:Int) then ((show_Print.f t152 t153 t154 (t155.take ((ji17):Int).toNat)).bind fun bt174 => ((show_Print.f t152 t153 t154 (t155.drop ((ji17):Int).toNat)).bind fun bt176 => ((show_Print.f t152 t153 t154 ([]:List (S81))).bind fun bt178 => ((doorwardlaw17_alive.f).bind fun t180 => (if t180 = true then (if bt174.2 = 0 then (if bt176.2 = 0 then (if bt178.2 = 0 then (if (bt176.1.size:Int) ≥ (bt178.1.size:Int) then (if 0 ≤ (bt178.1.size:Int) then (if (bt178.1.size:Int) ≤ (bt176.1.size:Int) then (if bt174.1.size+(bt176.1.extract ((bt178.1.size:Int):Int).toNat bt176.1.size).size ≤ 9223372036854775807 then (some (t159.toList == (bt174.1 ++ (bt176.1.extract ((bt178.1.size:Int):Int).toNat bt176.1.size)).toList)) else (none)) else (none)) else (none)) else (none)) else (none)) else (none)) else (none)) else (none)))))) else (none)) else (none)) = some r:=by first|(rw [hji17] at H;exact H)|(simp only [hji17] at H ⊢;exact H)
    have hji17w : (IntKind.i64.wrap ((t155.length : Int) - 1)) = ji17 := (i64_w _).trans hji17
    by_cases c18 : 0 ≤ (ji17)
    ·rw [if_pos c18] at H
     have c18b0 := eq_true c18
     have c18b1 : decide (0 ≤ (ji17)) = true := decide_eq_true c18
     clear c18
     by_cases c19 : (ji17) ≤ (t155.length : Int)
     ·rw [if_pos c19] at H
      have c19b0 := eq_true c19
      have c19b1 : decide ((ji17) ≤ (t155.length : Int)) = true := decide_eq_true c19
      clear c19
      obtain ⟨y164, hy164⟩ : ∃ y_ : List (S81), y_ = (t155.take ((ji17) : Int).toNat) := ⟨_, rfl⟩
      replace H:((show_Print.f t152 t153 t154 y164).bind fun bt174 => ((show_Print.f t152 t153 t154 (t155.drop ((ji17):Int).toNat)).bind fun bt176 => ((show_Print.f t152 t153 t154 ([]:List (S81))).bind fun bt178 => ((doorwardlaw17_alive.f).bind fun t180 => (if t180 = true then (if bt174.2 = 0 then (if bt176.2 = 0 then (if bt178.2 = 0 then (if (bt176.1.size:Int) ≥ (bt178.1.size:Int) then (if 0 ≤ (bt178.1.size:Int) then (if (bt178.1.size:Int) ≤ (bt176.1.size:Int) then (if bt174.1.size+(bt176.1.extract ((bt178.1.size:Int):Int).toNat bt176.1.size).size ≤ 9223372036854775807 then (some (t159.toList == (bt174.1 ++ (bt176.1.extract ((bt178.1.size:Int):Int).toNat bt176.1.size)).toList)) else (none)) else (none)) else (none)) else (none)) else (none)) else (none)) else (none)) else (none)))))) = some r:=by first|(rw [hy164];with_reducible exact H)|(have H2_:=(Option.bind_some _ _).symm.trans H;rw [hy164];with_reducible exact H2_)|(have H2_:=(Option.bind_some _ _).symm.trans H;with_reducible exact H2_)|with_reducible exact H|(rw [hy164];exact H)|exact H
      have Ny164 := Aside0.mk hy164
      clear hy164
      have c20b0 := eq_true (of_decide_eq_true (by first | (with_reducible assumption) | assumption) : 0 ≤ (ji17))
      have c21b0 := eq_true (of_decide_eq_true (by first | (with_reducible assumption) | assumption) : (ji17) ≤ (t155.length : Int))
      obtain ⟨y169, hy169⟩ : ∃ y_ : List (S81), y_ = (t155.drop ((ji17) : Int).toNat) := ⟨_, rfl⟩
      replace H:((show_Print.f t152 t153 t154 y164).bind fun bt174 => ((show_Print.f t152 t153 t154 y169).bind fun bt176 => ((show_Print.f t152 t153 t154 ([]:List (S81))).bind fun bt178 => ((doorwardlaw17_alive.f).bind fun t180 => (if t180 = true then (if bt174.2 = 0 then (if bt176.2 = 0 then (if bt178.2 = 0 then (if (bt176.1.size:Int) ≥ (bt178.1.size:Int) then (if 0 ≤ (bt178.1.size:Int) then (if (bt178.1.size:Int) ≤ (bt176.1.size:Int) then (if bt174.1.size+(bt176.1.extract ((bt178.1.size:Int):Int).toNat bt176.1.size).size ≤ 9223372036854775807 then (some (t159.toList == (bt174.1 ++ (bt176.1.extract ((bt178.1.size:Int):Int).toNat bt176.1.size)).toList)) else (none)) else (none)) else (none)) else (none)) else (none)) else (none)) else (none)) else (none)))))) = some r:=by first|(rw [hy169];with_reducible exact H)|(have H2_:=(Option.bind_some _ _).symm.trans H;rw [hy169];with_reducible exact H2_)|(have H2_:=(Option.bind_some _ _).symm.trans H;with_reducible exact H2_)|with_reducible exact H|(rw [hy169];exact H)|exact H
      have Ny169 := Aside0.mk hy169
      clear hy169
      replace H := Option.bind_eq_some_iff.mp H
      obtain ⟨⟨t174, t175⟩, A220, H⟩ := H
      replace H:((show_Print.f t152 t153 t154 y169).bind fun bt176 => ((show_Print.f t152 t153 t154 ([]:List (S81))).bind fun bt178 => ((doorwardlaw17_alive.f).bind fun t180 => (if t180 = true then (if t175 = 0 then (if bt176.2 = 0 then (if bt178.2 = 0 then (if (bt176.1.size:Int) ≥ (bt178.1.size:Int) then (if 0 ≤ (bt178.1.size:Int) then (if (bt178.1.size:Int) ≤ (bt176.1.size:Int) then (if t174.size+(bt176.1.extract ((bt178.1.size:Int):Int).toNat bt176.1.size).size ≤ 9223372036854775807 then (some (t159.toList == (t174 ++ (bt176.1.extract ((bt178.1.size:Int):Int).toNat bt176.1.size)).toList)) else (none)) else (none)) else (none)) else (none)) else (none)) else (none)) else (none)) else (none))))) = some r:=H
      have A22 := Aside0.mk A220
      clear A220
      replace H := Option.bind_eq_some_iff.mp H
      obtain ⟨⟨t176, t177⟩, A230, H⟩ := H
      replace H:((show_Print.f t152 t153 t154 ([]:List (S81))).bind fun bt178 => ((doorwardlaw17_alive.f).bind fun t180 => (if t180 = true then (if t175 = 0 then (if t177 = 0 then (if bt178.2 = 0 then (if (t176.size:Int) ≥ (bt178.1.size:Int) then (if 0 ≤ (bt178.1.size:Int) then (if (bt178.1.size:Int) ≤ (t176.size:Int) then (if t174.size+(t176.extract ((bt178.1.size:Int):Int).toNat t176.size).size ≤ 9223372036854775807 then (some (t159.toList == (t174 ++ (t176.extract ((bt178.1.size:Int):Int).toNat t176.size)).toList)) else (none)) else (none)) else (none)) else (none)) else (none)) else (none)) else (none)) else (none)))) = some r:=H
      have A23 := Aside0.mk A230
      clear A230
      replace H := Option.bind_eq_some_iff.mp H
      obtain ⟨⟨t178, t179⟩, A240, H⟩ := H
      replace H:((doorwardlaw17_alive.f).bind fun t180 => (if t180 = true then (if t175 = 0 then (if t177 = 0 then (if t179 = 0 then (if (t176.size:Int) ≥ (t178.size:Int) then (if 0 ≤ (t178.size:Int) then (if (t178.size:Int) ≤ (t176.size:Int) then (if t174.size+(t176.extract ((t178.size:Int):Int).toNat t176.size).size ≤ 9223372036854775807 then (some (t159.toList == (t174 ++ (t176.extract ((t178.size:Int):Int).toNat t176.size)).toList)) else (none)) else (none)) else (none)) else (none)) else (none)) else (none)) else (none)) else (none))) = some r:=H
      have A24 := Aside0.mk A240
      clear A240
      replace H := Option.bind_eq_some_iff.mp H
      obtain ⟨t180, A250, H⟩ := H
      replace H:(if t180 = true then (if t175 = 0 then (if t177 = 0 then (if t179 = 0 then (if (t176.size:Int) ≥ (t178.size:Int) then (if 0 ≤ (t178.size:Int) then (if (t178.size:Int) ≤ (t176.size:Int) then (if t174.size+(t176.extract ((t178.size:Int):Int).toNat t176.size).size ≤ 9223372036854775807 then (some (t159.toList == (t174 ++ (t176.extract ((t178.size:Int):Int).toNat t176.size)).toList)) else (none)) else (none)) else (none)) else (none)) else (none)) else (none)) else (none)) else (none)) = some r:=H
      have A25 := Aside0.mk A250
      clear A250
      by_cases c26 : t180 = true
      ·subst c26
       have H1:(if t175 = 0 then (if t177 = 0 then (if t179 = 0 then (if (t176.size:Int) ≥ (t178.size:Int) then (if 0 ≤ (t178.size:Int) then (if (t178.size:Int) ≤ (t176.size:Int) then (if t174.size+(t176.extract ((t178.size:Int):Int).toNat t176.size).size ≤ 9223372036854775807 then (some (t159.toList == (t174 ++ (t176.extract ((t178.size:Int):Int).toNat t176.size)).toList)) else (none)) else (none)) else (none)) else (none)) else (none)) else (none)) else (none)) = some r:=by rw [if_pos rfl] at H;exact H
       clear H
       have H := H1
       clear H1
       by_cases c27 : t175 = 0
       ·rw [if_pos c27] at H
        have c27b0 : (t175 == 0) = true := beq_iff_eq.mpr c27
        have c27b1 : (t175 != 0) = false := bne_eq_false_iff_eq.mpr c27
        clear c27
        by_cases c28 : t177 = 0
        ·rw [if_pos c28] at H
         have c28b0 : (t177 == 0) = true := beq_iff_eq.mpr c28
         have c28b1 : (t177 != 0) = false := bne_eq_false_iff_eq.mpr c28
         clear c28
         by_cases c29 : t179 = 0
         ·rw [if_pos c29] at H
          have c29b0 : (t179 == 0) = true := beq_iff_eq.mpr c29
          have c29b1 : (t179 != 0) = false := bne_eq_false_iff_eq.mpr c29
          clear c29
          by_cases c30 : (t176.size : Int) ≥ (t178.size : Int)
          ·rw [if_pos c30] at H
           have c30b0 : decide ((t178.size : Int) ≤ (t176.size : Int)) = true := decide_eq_true c30
           have c30b1 : decide (t178.size ≤ t176.size) = true := decide_eq_true (Int.ofNat_le.mp c30)
           clear c30
           by_cases c31 : 0 ≤ (t178.size : Int)
           ·rw [if_pos c31] at H
            have c31b0 := eq_true c31
            have c31b1 : decide (0 ≤ (t178.size : Int)) = true := decide_eq_true c31
            clear c31
            by_cases c32 : (t178.size : Int) ≤ (t176.size : Int)
            ·rw [if_pos c32] at H
             have c32b0 := eq_true c32
             have c32b1 : decide ((t178.size : Int) ≤ (t176.size : Int)) = true := decide_eq_true c32
             clear c32
             by_cases c33 : t174.size + (t176.extract ((t178.size : Int) : Int).toNat t176.size).size ≤ 9223372036854775807
             ·rw [if_pos c33] at H
              have c33b0 := eq_true c33
              have c33b1 : decide (t174.size + (t176.extract ((t178.size : Int) : Int).toNat t176.size).size ≤ 9223372036854775807) = true := decide_eq_true c33
              try have c33b2 : (9223372036854775807 < t174.size + (t176.extract ((t178.size : Int) : Int).toNat t176.size).size) = False := eq_false (Nat.not_lt.2 c33)
              have c33b9 : (9223372036854775807 < t174.size + (t176.size - t178.size)) = False := eq_false (by have h_ := c33; rw [ByteArray.size_extract, Int.toNat_natCast, Nat.min_self] at h_; omega)
              try have c33b3:(9223372036854775807 < t174.size+(t176.size - ((t178.size:Int):Int).toNat)) = False:=eq_false (by have h0_:=c33;have f0_:=of_eq_true c32b0;simp only [ByteArray.size_append,ByteArray.size_extract] at h0_ ⊢;omega)
              obtain rfl := Option.some.inj H
              have hcz34_0 : wc.cell? ⟨gb151, 0, none⟩ = some (.string t152) := (blk_cell BK151.out 0).trans rfl
              have hcz34_1 : wc.cell? ⟨gb151, 1, none⟩ = some (.string t153) := (blk_cell BK151.out 1).trans rfl
              have hcz34_2 : wc.cell? ⟨gb151, 2, none⟩ = some (.int .u64 t154) := (blk_cell BK151.out 2).trans rfl
              have hcz34_3 : wc.cell? ⟨gb151, 3, none⟩ = some (.slice Ao9 t155.length co9) := (blk_cell BK151.out 3).trans rfl
              have hfz34_0 := blk_frozen BK151.out 0
              have hfz34_1 := blk_frozen BK151.out 1
              have hfz34_2 := blk_frozen BK151.out 2
              have hfz34_3 := blk_frozen BK151.out 3
              try go_wp2
              have n0_ := Aside0.mk (Kd.V_drew HO_152003.out)
              have n1_ := Aside0.mk (blk_drew BK151.out)
              have n2_ := Aside0.mk (below_drew1 HB.out)
              clear HO_152003
              clear BK151
              clear HB
              have HO_152003 := n0_
              have BK151 := n1_
              have HB := n2_
              clear n0_ n1_ n2_
              refine start_ (n:=6) (S:=fun w' => w'.cell? ⟨gb151,0,none⟩ = some (.string t152) ∧ w'.cell? ⟨gb151,1,none⟩ = some (.string t153) ∧ w'.cell? ⟨gb151,2,none⟩ = some (.int .u64 t154) ∧ w'.cell? ⟨gb151,3,none⟩ = some (.slice Ao9 t155.length co9)) (ds:=[]) #[false,false,false,false,false,false] (by kernel_rfl) rfl rfl ⟨(blk_cell BK151.out 0).trans rfl,(blk_cell BK151.out 1).trans rfl,(blk_cell BK151.out 2).trans rfl,(blk_cell BK151.out 3).trans rfl⟩ (fun hHeld => ?_)
              generalize wc.drew = w35 at HO_152003 BK151 HB hHeld ⊢
              refine take_ (i := 0) (N := some 41) (v := ?_) (a' := ?_) #[true, false, false, false, false, false] rfl rfl (by kernel_rfl) (fun _ _ _ h => h) (Or.inl ⟨by rfl, ?_⟩) hHeld ?_ ?_
              rotate_left
              ·rintro w' ⟨s0, s1, s2, s3⟩
               go_simp
               with_reducible rfl
              rotate_left
              ·simp only [Act.put, List.setIfInBounds_toArray, List.set_cons_zero, List.set_cons_succ, i64_w, i32_w]
               rfl
              refine take_ (i := 1) (N := some 42) (v := ?_) (a' := ?_) #[true, true, false, false, false, false] rfl rfl (by kernel_rfl) (fun _ _ _ h => h) (Or.inl ⟨by rfl, ?_⟩) hHeld ?_ ?_
              rotate_left
              ·rintro w' ⟨s0, s1, s2, s3⟩
               go_simp
               with_reducible rfl
              rotate_left
              ·simp only [Act.put, List.setIfInBounds_toArray, List.set_cons_zero, List.set_cons_succ, i64_w, i32_w]
               rfl
              refine join_ (σ:=Nat × Nat) 2 #[true,true,true,true,false,false] (fun s_ => [(7,.pointer (some ⟨s_.1,0,none⟩)),(8,.pointer (some ⟨s_.2,0,none⟩))]) (fun s_ w' => (w'.cell? ⟨gb151,0,none⟩ = some (.string t152) ∧ w'.cell? ⟨gb151,1,none⟩ = some (.string t153) ∧ w'.cell? ⟨gb151,2,none⟩ = some (.int .u64 t154) ∧ w'.cell? ⟨gb151,3,none⟩ = some (.slice Ao9 t155.length co9)) ∧ (Kd.V k81 81 w' w.heap.size (fun k_ => k_ ≠ gb151 ∧ k_ ≠ s_.1 ∧ k_ ≠ s_.2) (.slice Ao9 t155.length co9) t155) ∧ (w'.heap[gb151]? = some (.cells #[.string t152,.string t153,.int .u64 t154,.slice Ao9 t155.length co9] 41 (0,0))) ∧ (w'.heap[s_.1]? = some (.cells #[.string ⟨#[]⟩,.string ⟨#[]⟩,.int .u64 0,.slice none 0 0] 41 (0,0))) ∧ (w'.heap[s_.2]? = some (.cells #[.string ⟨#[]⟩,.string ⟨#[]⟩,.int .u64 0,.slice none 0 0] 41 (0,0))) ∧ (w.heap.size ≤ s_.1) ∧ (w.heap.size ≤ s_.1) ∧ (gb151 ≠ s_.1) ∧ (s_.1 ≠ gb151) ∧ (s_.2 ≠ s_.1) ∧ (s_.1 ≠ s_.2) ∧ (w.heap.size ≤ s_.2) ∧ (w.heap.size ≤ s_.2) ∧ (gb151 ≠ s_.2) ∧ (s_.2 ≠ gb151) ∧ (Below w.heap.size w w')) ?_ ?_
              rotate_left
              ·intro hCont
               refine two_ (i:=2) (j:=3) (Ni:=some 7) (Nj:=some 8) #[true,true,true,false,false,false] #[true,true,false,true,false,false] rfl rfl rfl rfl (by kernel_rfl) (by decide) (by decide) (fun K hK => ?_) (fun K hK => ?_)
               ·skip
                refine box_step ?hg (N:=7) ?hd (cs:=#[.string ⟨#[]⟩,.string ⟨#[]⟩,.int .u64 0,.slice none 0 0]) (t:=41) ?hr ?_;(case hd => rfl);(case hg => rfl);(case hr => first|(go_simp;done)|(go_simp;rfl))
                intro gb162 hg w36 hbox hb
                have n0_ := Aside0.mk (Kd.V_below (Kd.V_elderB (by (with_reducible repeat (first | apply Kd.V_alloc | apply Kd.V_drewN | apply Kd.V_drew)); exact HO_152003.out) gb162 (Nat.le_of_eq hg.symm)) hb)
                have n1_:=Aside0.mk (blk_below (g:=gb151) (o:=.cells #[.string t152,.string t153,.int .u64 t154,.slice Ao9 t155.length co9] 41 (0,0)) (by (with_reducible repeat (first|refine blk_drewN ?_ _|refine blk_drew ?_|refine blk_alloc ?_ _));exact BK151.out) hb)
                have n2_:=Aside0.mk (below_step (by repeat (first|(with_reducible first|exact HB.out|apply below_alloc|apply pw_below_drewN|apply below_drew1|refine below_set ?_ GE151.out)|exact HB.out)) hb)
                have n3_ := Aside0.mk (hbox)
                have n4_:=Aside0.mk ((by rw [hg];exact (below_size (by repeat (first|(with_reducible first|exact HB.out|apply below_alloc|apply pw_below_drewN|apply below_drew1|refine below_set ?_ GE151.out)|exact HB.out))):w.heap.size ≤ gb162))
                have n5_:=Aside0.mk ((by rw [hg];exact (below_size (by repeat (first|(with_reducible first|exact HB.out|apply below_alloc|apply pw_below_drewN|apply below_drew1|refine below_set ?_ GE151.out)|exact HB.out))):w.heap.size ≤ gb162))
                have n6_:=Aside0.mk ((by rw [hg];exact Nat.ne_of_lt (blk_lt (g:=gb151) (o:=.cells #[.string t152,.string t153,.int .u64 t154,.slice Ao9 t155.length co9] 41 (0,0)) (by (with_reducible repeat (first|refine blk_drewN ?_ _|refine blk_drew ?_|refine blk_alloc ?_ _));exact BK151.out)):gb151 ≠ gb162))
                have n7_:=Aside0.mk ((by rw [hg];exact Nat.ne_of_gt (blk_lt (g:=gb151) (o:=.cells #[.string t152,.string t153,.int .u64 t154,.slice Ao9 t155.length co9] 41 (0,0)) (by (with_reducible repeat (first|refine blk_drewN ?_ _|refine blk_drew ?_|refine blk_alloc ?_ _));exact BK151.out)):gb162 ≠ gb151))
                clear HO_152003
                clear BK151
                clear HB
                have HO_152003 := n0_
                have BK151 := n1_
                have HB := n2_
                have BK162 := n3_
                have GW162 := n4_
                have GE162 := n5_
                have NB151_162 := n6_
                have NB162_151 := n7_
                clear n0_ n1_ n2_ n3_ n4_ n5_ n6_ n7_
                clear hb hbox hg
                refine hK.out _ _ ⟨(blk_cell BK151.out 0).trans rfl, (blk_cell BK151.out 1).trans rfl, (blk_cell BK151.out 2).trans rfl, (blk_cell BK151.out 3).trans rfl⟩ (fun hHeld => ?_)
                clear hK K
                refine norm_ (a' := ?_) ?_ ?_
                rotate_left
                ·show Act.put _ (some 7) _ = _
                 simp only [Act.put, List.setIfInBounds_toArray, List.set_cons_zero, List.set_cons_succ, i64_w, i32_w]
                 rfl
                refine one_ (i := 3) (N := some 8) #[true, true, true, true, false, false] rfl rfl (by kernel_rfl) (by decide) (fun K hK => ?_)
                refine box_step ?hg (N:=8) ?hd (cs:=#[.string ⟨#[]⟩,.string ⟨#[]⟩,.int .u64 0,.slice none 0 0]) (t:=41) ?hr ?_;(case hd => rfl);(case hg => rfl);(case hr => first|(go_simp;done)|(go_simp;rfl))
                intro gb163 hg w37 hbox hb
                have n0_ := Aside0.mk (Kd.V_below (Kd.V_elderB (by (with_reducible repeat (first | apply Kd.V_alloc | apply Kd.V_drewN | apply Kd.V_drew)); exact HO_152003.out) gb163 (Nat.le_of_eq hg.symm)) hb)
                have n1_:=Aside0.mk (blk_below (g:=gb151) (o:=.cells #[.string t152,.string t153,.int .u64 t154,.slice Ao9 t155.length co9] 41 (0,0)) (by (with_reducible repeat (first|refine blk_drewN ?_ _|refine blk_drew ?_|refine blk_alloc ?_ _));exact BK151.out) hb)
                have n2_:=Aside0.mk (blk_below (g:=gb162) (o:=.cells #[.string ⟨#[]⟩,.string ⟨#[]⟩,.int .u64 0,.slice none 0 0] 41 (0,0)) (by (with_reducible repeat (first|refine blk_drewN ?_ _|refine blk_drew ?_|refine blk_alloc ?_ _));exact BK162.out) hb)
                have n3_:=Aside0.mk (below_step (by repeat (first|(with_reducible first|exact HB.out|apply below_alloc|apply pw_below_drewN|apply below_drew1|refine below_set ?_ GE151.out|refine below_set ?_ GE162.out)|exact HB.out)) hb)
                have n4_ := Aside0.mk (hbox)
                have n5_:=Aside0.mk ((by rw [hg];exact (below_size (by repeat (first|(with_reducible first|exact HB.out|apply below_alloc|apply pw_below_drewN|apply below_drew1|refine below_set ?_ GE151.out|refine below_set ?_ GE162.out)|exact HB.out))):w.heap.size ≤ gb163))
                have n6_:=Aside0.mk ((by rw [hg];exact (below_size (by repeat (first|(with_reducible first|exact HB.out|apply below_alloc|apply pw_below_drewN|apply below_drew1|refine below_set ?_ GE151.out|refine below_set ?_ GE162.out)|exact HB.out))):w.heap.size ≤ gb163))
                have n7_:=Aside0.mk ((by rw [hg];exact Nat.ne_of_lt (blk_lt (g:=gb151) (o:=.cells #[.string t152,.string t153,.int .u64 t154,.slice Ao9 t155.length co9] 41 (0,0)) (by (with_reducible repeat (first|refine blk_drewN ?_ _|refine blk_drew ?_|refine blk_alloc ?_ _));exact BK151.out)):gb151 ≠ gb163))
                have n8_:=Aside0.mk ((by rw [hg];exact Nat.ne_of_gt (blk_lt (g:=gb151) (o:=.cells #[.string t152,.string t153,.int .u64 t154,.slice Ao9 t155.length co9] 41 (0,0)) (by (with_reducible repeat (first|refine blk_drewN ?_ _|refine blk_drew ?_|refine blk_alloc ?_ _));exact BK151.out)):gb163 ≠ gb151))
                have n9_:=Aside0.mk ((by rw [hg];exact Nat.ne_of_lt (blk_lt (g:=gb162) (o:=.cells #[.string ⟨#[]⟩,.string ⟨#[]⟩,.int .u64 0,.slice none 0 0] 41 (0,0)) (by (with_reducible repeat (first|refine blk_drewN ?_ _|refine blk_drew ?_|refine blk_alloc ?_ _));exact BK162.out)):gb162 ≠ gb163))
                have n10_:=Aside0.mk ((by rw [hg];exact Nat.ne_of_gt (blk_lt (g:=gb162) (o:=.cells #[.string ⟨#[]⟩,.string ⟨#[]⟩,.int .u64 0,.slice none 0 0] 41 (0,0)) (by (with_reducible repeat (first|refine blk_drewN ?_ _|refine blk_drew ?_|refine blk_alloc ?_ _));exact BK162.out)):gb163 ≠ gb162))
                clear HO_152003
                clear BK151
                clear BK162
                clear HB
                have HO_152003 := n0_
                have BK151 := n1_
                have BK162 := n2_
                have HB := n3_
                have BK163 := n4_
                have GW163 := n5_
                have GE163 := n6_
                have NB151_163 := n7_
                have NB163_151 := n8_
                have NB162_163 := n9_
                have NB163_162 := n10_
                clear n0_ n1_ n2_ n3_ n4_ n5_ n6_ n7_ n8_ n9_ n10_
                clear hb hbox hg
                refine hK.out _ _ ⟨(blk_cell BK151.out 0).trans rfl, (blk_cell BK151.out 1).trans rfl, (blk_cell BK151.out 2).trans rfl, (blk_cell BK151.out 3).trans rfl⟩ (fun hHeld => ?_)
                clear hK K
                refine norm_ (a' := ?_) ?_ ?_
                rotate_left
                ·show Act.put _ (some 8) _ = _
                 simp only [Act.put, List.setIfInBounds_toArray, List.set_cons_zero, List.set_cons_succ, i64_w, i32_w]
                 rfl
                exact norm_ (by simp only [putAll,Act.put,List.setIfInBounds_toArray,List.set_cons_zero,List.set_cons_succ]) (hCont (gb162,gb163) _ ⟨hHeld,(by (with_reducible repeat (first|apply Kd.V_alloc|apply Kd.V_drewN|apply Kd.V_drew));exact Kd.V_mono HO_152003.out (fun _ hk => ⟨hk.1.1,⟨hk.1.2,hk.2⟩⟩)),(by (with_reducible repeat (first|refine blk_drewN ?_ _|refine blk_drew ?_|refine blk_alloc ?_ _));exact BK151.out),(by (with_reducible repeat (first|refine blk_drewN ?_ _|refine blk_drew ?_|refine blk_alloc ?_ _));exact BK162.out),(by (with_reducible repeat (first|refine blk_drewN ?_ _|refine blk_drew ?_|refine blk_alloc ?_ _));exact BK163.out),GW162.out,GE162.out,NB151_162.out,NB162_151.out,NB163_162.out,NB162_163.out,GW163.out,GE163.out,NB151_163.out,NB163_151.out,(by repeat (first|(with_reducible first|exact HB.out|apply below_alloc|apply pw_below_drewN|apply below_drew1|refine below_set ?_ GE151.out|refine below_set ?_ GE162.out|refine below_set ?_ GE163.out)|exact HB.out))⟩)
               ·skip
                refine box_step ?hg (N:=8) ?hd (cs:=#[.string ⟨#[]⟩,.string ⟨#[]⟩,.int .u64 0,.slice none 0 0]) (t:=41) ?hr ?_;(case hd => rfl);(case hg => rfl);(case hr => first|(go_simp;done)|(go_simp;rfl))
                intro gb163 hg w36 hbox hb
                have n0_ := Aside0.mk (Kd.V_below (Kd.V_elderB (by (with_reducible repeat (first | apply Kd.V_alloc | apply Kd.V_drewN | apply Kd.V_drew)); exact HO_152003.out) gb163 (Nat.le_of_eq hg.symm)) hb)
                have n1_:=Aside0.mk (blk_below (g:=gb151) (o:=.cells #[.string t152,.string t153,.int .u64 t154,.slice Ao9 t155.length co9] 41 (0,0)) (by (with_reducible repeat (first|refine blk_drewN ?_ _|refine blk_drew ?_|refine blk_alloc ?_ _));exact BK151.out) hb)
                have n2_:=Aside0.mk (below_step (by repeat (first|(with_reducible first|exact HB.out|apply below_alloc|apply pw_below_drewN|apply below_drew1|refine below_set ?_ GE151.out)|exact HB.out)) hb)
                have n3_ := Aside0.mk (hbox)
                have n4_:=Aside0.mk ((by rw [hg];exact (below_size (by repeat (first|(with_reducible first|exact HB.out|apply below_alloc|apply pw_below_drewN|apply below_drew1|refine below_set ?_ GE151.out)|exact HB.out))):w.heap.size ≤ gb163))
                have n5_:=Aside0.mk ((by rw [hg];exact (below_size (by repeat (first|(with_reducible first|exact HB.out|apply below_alloc|apply pw_below_drewN|apply below_drew1|refine below_set ?_ GE151.out)|exact HB.out))):w.heap.size ≤ gb163))
                have n6_:=Aside0.mk ((by rw [hg];exact Nat.ne_of_lt (blk_lt (g:=gb151) (o:=.cells #[.string t152,.string t153,.int .u64 t154,.slice Ao9 t155.length co9] 41 (0,0)) (by (with_reducible repeat (first|refine blk_drewN ?_ _|refine blk_drew ?_|refine blk_alloc ?_ _));exact BK151.out)):gb151 ≠ gb163))
                have n7_:=Aside0.mk ((by rw [hg];exact Nat.ne_of_gt (blk_lt (g:=gb151) (o:=.cells #[.string t152,.string t153,.int .u64 t154,.slice Ao9 t155.length co9] 41 (0,0)) (by (with_reducible repeat (first|refine blk_drewN ?_ _|refine blk_drew ?_|refine blk_alloc ?_ _));exact BK151.out)):gb163 ≠ gb151))
                clear HO_152003
                clear BK151
                clear HB
                have HO_152003 := n0_
                have BK151 := n1_
                have HB := n2_
                have BK163 := n3_
                have GW163 := n4_
                have GE163 := n5_
                have NB151_163 := n6_
                have NB163_151 := n7_
                clear n0_ n1_ n2_ n3_ n4_ n5_ n6_ n7_
                clear hb hbox hg
                refine hK.out _ _ ⟨(blk_cell BK151.out 0).trans rfl, (blk_cell BK151.out 1).trans rfl, (blk_cell BK151.out 2).trans rfl, (blk_cell BK151.out 3).trans rfl⟩ (fun hHeld => ?_)
                clear hK K
                refine norm_ (a' := ?_) ?_ ?_
                rotate_left
                ·show Act.put _ (some 8) _ = _
                 simp only [Act.put, List.setIfInBounds_toArray, List.set_cons_zero, List.set_cons_succ, i64_w, i32_w]
                 rfl
                refine one_ (i := 2) (N := some 7) #[true, true, true, true, false, false] rfl rfl (by kernel_rfl) (by decide) (fun K hK => ?_)
                refine box_step ?hg (N:=7) ?hd (cs:=#[.string ⟨#[]⟩,.string ⟨#[]⟩,.int .u64 0,.slice none 0 0]) (t:=41) ?hr ?_;(case hd => rfl);(case hg => rfl);(case hr => first|(go_simp;done)|(go_simp;rfl))
                intro gb162 hg w37 hbox hb
                have n0_ := Aside0.mk (Kd.V_below (Kd.V_elderB (by (with_reducible repeat (first | apply Kd.V_alloc | apply Kd.V_drewN | apply Kd.V_drew)); exact HO_152003.out) gb162 (Nat.le_of_eq hg.symm)) hb)
                have n1_:=Aside0.mk (blk_below (g:=gb151) (o:=.cells #[.string t152,.string t153,.int .u64 t154,.slice Ao9 t155.length co9] 41 (0,0)) (by (with_reducible repeat (first|refine blk_drewN ?_ _|refine blk_drew ?_|refine blk_alloc ?_ _));exact BK151.out) hb)
                have n2_:=Aside0.mk (blk_below (g:=gb163) (o:=.cells #[.string ⟨#[]⟩,.string ⟨#[]⟩,.int .u64 0,.slice none 0 0] 41 (0,0)) (by (with_reducible repeat (first|refine blk_drewN ?_ _|refine blk_drew ?_|refine blk_alloc ?_ _));exact BK163.out) hb)
                have n3_:=Aside0.mk (below_step (by repeat (first|(with_reducible first|exact HB.out|apply below_alloc|apply pw_below_drewN|apply below_drew1|refine below_set ?_ GE151.out|refine below_set ?_ GE163.out)|exact HB.out)) hb)
                have n4_ := Aside0.mk (hbox)
                have n5_:=Aside0.mk ((by rw [hg];exact (below_size (by repeat (first|(with_reducible first|exact HB.out|apply below_alloc|apply pw_below_drewN|apply below_drew1|refine below_set ?_ GE151.out|refine below_set ?_ GE163.out)|exact HB.out))):w.heap.size ≤ gb162))
                have n6_:=Aside0.mk ((by rw [hg];exact (below_size (by repeat (first|(with_reducible first|exact HB.out|apply below_alloc|apply pw_below_drewN|apply below_drew1|refine below_set ?_ GE151.out|refine below_set ?_ GE163.out)|exact HB.out))):w.heap.size ≤ gb162))
                have n7_:=Aside0.mk ((by rw [hg];exact Nat.ne_of_lt (blk_lt (g:=gb151) (o:=.cells #[.string t152,.string t153,.int .u64 t154,.slice Ao9 t155.length co9] 41 (0,0)) (by (with_reducible repeat (first|refine blk_drewN ?_ _|refine blk_drew ?_|refine blk_alloc ?_ _));exact BK151.out)):gb151 ≠ gb162))
                have n8_:=Aside0.mk ((by rw [hg];exact Nat.ne_of_gt (blk_lt (g:=gb151) (o:=.cells #[.string t152,.string t153,.int .u64 t154,.slice Ao9 t155.length co9] 41 (0,0)) (by (with_reducible repeat (first|refine blk_drewN ?_ _|refine blk_drew ?_|refine blk_alloc ?_ _));exact BK151.out)):gb162 ≠ gb151))
                have n9_:=Aside0.mk ((by rw [hg];exact Nat.ne_of_lt (blk_lt (g:=gb163) (o:=.cells #[.string ⟨#[]⟩,.string ⟨#[]⟩,.int .u64 0,.slice none 0 0] 41 (0,0)) (by (with_reducible repeat (first|refine blk_drewN ?_ _|refine blk_drew ?_|refine blk_alloc ?_ _));exact BK163.out)):gb163 ≠ gb162))
                have n10_:=Aside0.mk ((by rw [hg];exact Nat.ne_of_gt (blk_lt (g:=gb163) (o:=.cells #[.string ⟨#[]⟩,.string ⟨#[]⟩,.int .u64 0,.slice none 0 0] 41 (0,0)) (by (with_reducible repeat (first|refine blk_drewN ?_ _|refine blk_drew ?_|refine blk_alloc ?_ _));exact BK163.out)):gb162 ≠ gb163))
                clear HO_152003
                clear BK151
                clear BK163
                clear HB
                have HO_152003 := n0_
                have BK151 := n1_
                have BK163 := n2_
                have HB := n3_
                have BK162 := n4_
                have GW162 := n5_
                have GE162 := n6_
                have NB151_162 := n7_
                have NB162_151 := n8_
                have NB163_162 := n9_
                have NB162_163 := n10_
                clear n0_ n1_ n2_ n3_ n4_ n5_ n6_ n7_ n8_ n9_ n10_
                clear hb hbox hg
                refine hK.out _ _ ⟨(blk_cell BK151.out 0).trans rfl, (blk_cell BK151.out 1).trans rfl, (blk_cell BK151.out 2).trans rfl, (blk_cell BK151.out 3).trans rfl⟩ (fun hHeld => ?_)
                clear hK K
                refine norm_ (a' := ?_) ?_ ?_
                rotate_left
                ·show Act.put _ (some 7) _ = _
                 simp only [Act.put, List.setIfInBounds_toArray, List.set_cons_zero, List.set_cons_succ, i64_w, i32_w]
                 rfl
                exact norm_ (by simp only [putAll,Act.put,List.setIfInBounds_toArray,List.set_cons_zero,List.set_cons_succ]) (hCont (gb162,gb163) _ ⟨hHeld,(by (with_reducible repeat (first|apply Kd.V_alloc|apply Kd.V_drewN|apply Kd.V_drew));exact Kd.V_mono HO_152003.out (fun _ hk => ⟨hk.1.1,⟨hk.2,hk.1.2⟩⟩)),(by (with_reducible repeat (first|refine blk_drewN ?_ _|refine blk_drew ?_|refine blk_alloc ?_ _));exact BK151.out),(by (with_reducible repeat (first|refine blk_drewN ?_ _|refine blk_drew ?_|refine blk_alloc ?_ _));exact BK162.out),(by (with_reducible repeat (first|refine blk_drewN ?_ _|refine blk_drew ?_|refine blk_alloc ?_ _));exact BK163.out),GW162.out,GE162.out,NB151_162.out,NB162_151.out,NB163_162.out,NB162_163.out,GW163.out,GE163.out,NB151_163.out,NB163_151.out,(by repeat (first|(with_reducible first|exact HB.out|apply below_alloc|apply pw_below_drewN|apply below_drew1|refine below_set ?_ GE151.out|refine below_set ?_ GE163.out|refine below_set ?_ GE162.out)|exact HB.out))⟩)
              rintro ⟨gb162, gb163⟩ w38 ⟨hS_, h0_, h1_, h2_, h3_, h4_, h5_, h6_, h7_, h8_, h9_, h10_, h11_, h12_, h13_, h14_⟩
              have n0_ : Aside0 (Kd.V k81 81 w38 w.heap.size (fun k_ => k_ ≠ gb151 ∧ k_ ≠ gb162 ∧ k_ ≠ gb163) (.slice Ao9 t155.length co9) t155) := ⟨h0_⟩
              have n1_ : Aside0 (w38.heap[gb151]? = some (.cells #[.string t152, .string t153, .int .u64 t154, .slice Ao9 t155.length co9] 41 (0, 0))) := ⟨h1_⟩
              have n2_ : Aside0 (w38.heap[gb162]? = some (.cells #[.string (⟨#[]⟩ : ByteArray), .string (⟨#[]⟩ : ByteArray), .int .u64 0, .slice none 0 0] 41 (0, 0))) := ⟨h2_⟩
              have n3_ : Aside0 (w38.heap[gb163]? = some (.cells #[.string (⟨#[]⟩ : ByteArray), .string (⟨#[]⟩ : ByteArray), .int .u64 0, .slice none 0 0] 41 (0, 0))) := ⟨h3_⟩
              have n4_ : Aside0 (w.heap.size ≤ gb162) := ⟨h4_⟩
              have n5_ : Aside0 (w.heap.size ≤ gb162) := ⟨h5_⟩
              have n6_ : Aside0 (gb151 ≠ gb162) := ⟨h6_⟩
              have n7_ : Aside0 (gb162 ≠ gb151) := ⟨h7_⟩
              have n8_ : Aside0 (gb163 ≠ gb162) := ⟨h8_⟩
              have n9_ : Aside0 (gb162 ≠ gb163) := ⟨h9_⟩
              have n10_ : Aside0 (w.heap.size ≤ gb163) := ⟨h10_⟩
              have n11_ : Aside0 (w.heap.size ≤ gb163) := ⟨h11_⟩
              have n12_ : Aside0 (gb151 ≠ gb163) := ⟨h12_⟩
              have n13_ : Aside0 (gb163 ≠ gb151) := ⟨h13_⟩
              have n14_ : Aside0 (Below w.heap.size w w38) := ⟨h14_⟩
              clear HO_152003
              clear BK151
              clear HB
              clear h0_ h1_ h2_ h3_ h4_ h5_ h6_ h7_ h8_ h9_ h10_ h11_ h12_ h13_ h14_
              have HO_152003 := n0_
              have BK151 := n1_
              have BK162 := n2_
              have BK163 := n3_
              have GW162 := n4_
              have GE162 := n5_
              have NB151_162 := n6_
              have NB162_151 := n7_
              have NB163_162 := n8_
              have NB162_163 := n9_
              have GW163 := n10_
              have GE163 := n11_
              have NB151_163 := n12_
              have NB163_151 := n13_
              have HB := n14_
              clear n0_ n1_ n2_ n3_ n4_ n5_ n6_ n7_ n8_ n9_ n10_ n11_ n12_ n13_ n14_
              have hHeld:w38.cell? ⟨gb151,0,none⟩ = some (.string t152) ∧ w38.cell? ⟨gb151,1,none⟩ = some (.string t153) ∧ w38.cell? ⟨gb151,2,none⟩ = some (.int .u64 t154) ∧ w38.cell? ⟨gb151,3,none⟩ = some (.slice Ao9 t155.length co9):=hS_
              refine norm_ (a' := ?_) ?_ ?_
              rotate_left
              ·simp only [putAll, Act.put, List.setIfInBounds_toArray, List.set_cons_zero, List.set_cons_succ]
               rfl
              refine one_ (i := 4) (N := none) #[true, true, true, true, true, false] rfl rfl (by kernel_rfl) (by decide) (fun K hK => ?_)
              have hs39 : w38.cell? ⟨gb162, 0, none⟩ = some (.string (⟨#[]⟩ : ByteArray)) := (blk_cell BK162.out 0).trans rfl
              have hfs39 := blk_frozen BK162.out 0
              have hns39_0 := NB151_162.out
              have hns39_2 := NB163_162.out
              have hms39_0 := NB162_151.out
              have hms39_2 := NB162_163.out
              have hs40 : w38.cell? ⟨gb162, 1, none⟩ = some (.string (⟨#[]⟩ : ByteArray)) := (blk_cell BK162.out 1).trans rfl
              have hfs40 := blk_frozen BK162.out 1
              have hns40_0 := NB151_162.out
              have hns40_2 := NB163_162.out
              have hms40_0 := NB162_151.out
              have hms40_2 := NB162_163.out
              have hs41 : w38.cell? ⟨gb162, 2, none⟩ = some (.int .u64 0) := (blk_cell BK162.out 2).trans rfl
              have hfs41 := blk_frozen BK162.out 2
              have hns41_0 := NB151_162.out
              have hns41_2 := NB163_162.out
              have hms41_0 := NB162_151.out
              have hms41_2 := NB162_163.out
              have hs42 : w38.cell? ⟨gb162, 3, none⟩ = some (.slice none 0 0) := (blk_cell BK162.out 3).trans rfl
              have hfs42 := blk_frozen BK162.out 3
              have hns42_0 := NB151_162.out
              have hns42_2 := NB163_162.out
              have hms42_0 := NB162_151.out
              have hms42_2 := NB162_163.out
              refine skip_ (w1 := ?_) (by rfl) rfl ?_ ?_
              rotate_left
              ·go_simp
               rfl
              refine hK.out _ _ ⟨((cell_far (p:=⟨gb162,_,none⟩) NB151_162.out _).trans (((cell_far (p:=⟨gb162,_,none⟩) NB151_162.out _).trans (((cell_far (p:=⟨gb162,_,none⟩) NB151_162.out _).trans (((cell_far (p:=⟨gb162,_,none⟩) NB151_162.out _).trans (hHeld.1)))))))),((cell_far (p:=⟨gb162,_,none⟩) NB151_162.out _).trans (((cell_far (p:=⟨gb162,_,none⟩) NB151_162.out _).trans (((cell_far (p:=⟨gb162,_,none⟩) NB151_162.out _).trans (((cell_far (p:=⟨gb162,_,none⟩) NB151_162.out _).trans (hHeld.2.1)))))))),((cell_far (p:=⟨gb162,_,none⟩) NB151_162.out _).trans (((cell_far (p:=⟨gb162,_,none⟩) NB151_162.out _).trans (((cell_far (p:=⟨gb162,_,none⟩) NB151_162.out _).trans (((cell_far (p:=⟨gb162,_,none⟩) NB151_162.out _).trans (hHeld.2.2.1)))))))),((cell_far (p:=⟨gb162,_,none⟩) NB151_162.out _).trans (((cell_far (p:=⟨gb162,_,none⟩) NB151_162.out _).trans (((cell_far (p:=⟨gb162,_,none⟩) NB151_162.out _).trans (((cell_far (p:=⟨gb162,_,none⟩) NB151_162.out _).trans (hHeld.2.2.2))))))))⟩ (fun hHeld => ?_)
              clear hK K
              refine one_ (i := 5) (N := none) #[true, true, true, true, true, true] rfl rfl (by kernel_rfl) (by decide) (fun K hK => ?_)
              have hs43 : w38.cell? ⟨gb163, 0, none⟩ = some (.string (⟨#[]⟩ : ByteArray)) := (blk_cell BK163.out 0).trans rfl
              have hfs43 := blk_frozen BK163.out 0
              have hns43_0 := NB151_163.out
              have hns43_1 := NB162_163.out
              have hms43_0 := NB163_151.out
              have hms43_1 := NB163_162.out
              have hs44 : w38.cell? ⟨gb163, 1, none⟩ = some (.string (⟨#[]⟩ : ByteArray)) := (blk_cell BK163.out 1).trans rfl
              have hfs44 := blk_frozen BK163.out 1
              have hns44_0 := NB151_163.out
              have hns44_1 := NB162_163.out
              have hms44_0 := NB163_151.out
              have hms44_1 := NB163_162.out
              have hs45 : w38.cell? ⟨gb163, 2, none⟩ = some (.int .u64 0) := (blk_cell BK163.out 2).trans rfl
              have hfs45 := blk_frozen BK163.out 2
              have hns45_0 := NB151_163.out
              have hns45_1 := NB162_163.out
              have hms45_0 := NB163_151.out
              have hms45_1 := NB163_162.out
              have hs46 : w38.cell? ⟨gb163, 3, none⟩ = some (.slice none 0 0) := (blk_cell BK163.out 3).trans rfl
              have hfs46 := blk_frozen BK163.out 3
              have hns46_0 := NB151_163.out
              have hns46_1 := NB162_163.out
              have hms46_0 := NB163_151.out
              have hms46_1 := NB163_162.out
              refine skip_ (w1 := ?_) (by rfl) rfl ?_ ?_
              rotate_left
              ·go_simp
               rfl
              refine hK.out _ _ ⟨((cell_far (p:=⟨gb163,_,none⟩) NB151_163.out _).trans (((cell_far (p:=⟨gb163,_,none⟩) NB151_163.out _).trans (((cell_far (p:=⟨gb163,_,none⟩) NB151_163.out _).trans (((cell_far (p:=⟨gb163,_,none⟩) NB151_163.out _).trans (hHeld.1)))))))),((cell_far (p:=⟨gb163,_,none⟩) NB151_163.out _).trans (((cell_far (p:=⟨gb163,_,none⟩) NB151_163.out _).trans (((cell_far (p:=⟨gb163,_,none⟩) NB151_163.out _).trans (((cell_far (p:=⟨gb163,_,none⟩) NB151_163.out _).trans (hHeld.2.1)))))))),((cell_far (p:=⟨gb163,_,none⟩) NB151_163.out _).trans (((cell_far (p:=⟨gb163,_,none⟩) NB151_163.out _).trans (((cell_far (p:=⟨gb163,_,none⟩) NB151_163.out _).trans (((cell_far (p:=⟨gb163,_,none⟩) NB151_163.out _).trans (hHeld.2.2.1)))))))),((cell_far (p:=⟨gb163,_,none⟩) NB151_163.out _).trans (((cell_far (p:=⟨gb163,_,none⟩) NB151_163.out _).trans (((cell_far (p:=⟨gb163,_,none⟩) NB151_163.out _).trans (((cell_far (p:=⟨gb163,_,none⟩) NB151_163.out _).trans (hHeld.2.2.2))))))))⟩ (fun hHeld => ?_)
              clear hK K
              refine done_ (by kernel_rfl) ?_
              try go_wp2
              have n0_:Aside0 (Kd.V k81 81 ((((((((w38.setCell ⟨gb162,0,none⟩ (.string t152)).setCell ⟨gb162,1,none⟩ (.string t153)).setCell ⟨gb162,2,none⟩ (.int .u64 t154)).setCell ⟨gb162,3,none⟩ (.slice Ao9 t155.length co9)).setCell ⟨gb163,0,none⟩ (.string t152)).setCell ⟨gb163,1,none⟩ (.string t153)).setCell ⟨gb163,2,none⟩ (.int .u64 t154)).setCell ⟨gb163,3,none⟩ (.slice Ao9 t155.length co9)) w.heap.size (fun k_ => k_ ≠ gb151 ∧ k_ ≠ gb162 ∧ k_ ≠ gb163) (.slice Ao9 t155.length co9) t155):=⟨by (with_reducible repeat (first|apply Kd.V_alloc|apply Kd.V_drewN|apply Kd.V_drew));exact Kd.V_mono (Kd.V_far (p:=⟨gb163,3,none⟩) (Kd.V_far (p:=⟨gb163,2,none⟩) (Kd.V_far (p:=⟨gb163,1,none⟩) (Kd.V_far (p:=⟨gb163,0,none⟩) (Kd.V_far (p:=⟨gb162,3,none⟩) (Kd.V_far (p:=⟨gb162,2,none⟩) (Kd.V_far (p:=⟨gb162,1,none⟩) (Kd.V_far (p:=⟨gb162,0,none⟩) (Kd.V_mono (Kd.V_mono HO_152003.out (fun k_ hk => (⟨hk,hk.2.1⟩:_ ∧ k_ ≠ gb162))) (fun k_ hk => (⟨hk,hk.1.2.2⟩:_ ∧ k_ ≠ gb163))) (fun _ hk => hk.1.2) (.string t152)) (fun _ hk => hk.1.2) (.string t153)) (fun _ hk => hk.1.2) (.int .u64 t154)) (fun _ hk => hk.1.2) (.slice Ao9 t155.length co9)) (fun _ hk => hk.2) (.string t152)) (fun _ hk => hk.2) (.string t153)) (fun _ hk => hk.2) (.int .u64 t154)) (fun _ hk => hk.2) (.slice Ao9 t155.length co9)) (fun _ hk => ⟨hk.1.1.1,⟨hk.1.1.2.1,hk.1.1.2.2⟩⟩)⟩
              have n1_:Aside0 (((((((((w38.setCell ⟨gb162,0,none⟩ (.string t152)).setCell ⟨gb162,1,none⟩ (.string t153)).setCell ⟨gb162,2,none⟩ (.int .u64 t154)).setCell ⟨gb162,3,none⟩ (.slice Ao9 t155.length co9)).setCell ⟨gb163,0,none⟩ (.string t152)).setCell ⟨gb163,1,none⟩ (.string t153)).setCell ⟨gb163,2,none⟩ (.int .u64 t154)).setCell ⟨gb163,3,none⟩ (.slice Ao9 t155.length co9)).heap[gb151]? = some (.cells #[.string t152,.string t153,.int .u64 t154,.slice Ao9 t155.length co9] 41 (0,0))):=⟨by (with_reducible repeat (first|refine blk_drewN ?_ _|refine blk_drew ?_|refine blk_alloc ?_ _));refine blk_far ?_ NB151_163.out _;(with_reducible repeat (first|refine blk_drewN ?_ _|refine blk_drew ?_|refine blk_alloc ?_ _));refine blk_far ?_ NB151_163.out _;(with_reducible repeat (first|refine blk_drewN ?_ _|refine blk_drew ?_|refine blk_alloc ?_ _));refine blk_far ?_ NB151_163.out _;(with_reducible repeat (first|refine blk_drewN ?_ _|refine blk_drew ?_|refine blk_alloc ?_ _));refine blk_far ?_ NB151_163.out _;(with_reducible repeat (first|refine blk_drewN ?_ _|refine blk_drew ?_|refine blk_alloc ?_ _));refine blk_far ?_ NB151_162.out _;(with_reducible repeat (first|refine blk_drewN ?_ _|refine blk_drew ?_|refine blk_alloc ?_ _));refine blk_far ?_ NB151_162.out _;(with_reducible repeat (first|refine blk_drewN ?_ _|refine blk_drew ?_|refine blk_alloc ?_ _));refine blk_far ?_ NB151_162.out _;(with_reducible repeat (first|refine blk_drewN ?_ _|refine blk_drew ?_|refine blk_alloc ?_ _));refine blk_far ?_ NB151_162.out _;(with_reducible repeat (first|refine blk_drewN ?_ _|refine blk_drew ?_|refine blk_alloc ?_ _));exact BK151.out⟩
              have n2_:Aside0 (((((((((w38.setCell ⟨gb162,0,none⟩ (.string t152)).setCell ⟨gb162,1,none⟩ (.string t153)).setCell ⟨gb162,2,none⟩ (.int .u64 t154)).setCell ⟨gb162,3,none⟩ (.slice Ao9 t155.length co9)).setCell ⟨gb163,0,none⟩ (.string t152)).setCell ⟨gb163,1,none⟩ (.string t153)).setCell ⟨gb163,2,none⟩ (.int .u64 t154)).setCell ⟨gb163,3,none⟩ (.slice Ao9 t155.length co9)).heap[gb162]? = some (.cells #[.string t152,.string t153,.int .u64 t154,.slice Ao9 t155.length co9] 41 (0,0))):=⟨by (with_reducible repeat (first|refine blk_drewN ?_ _|refine blk_drew ?_|refine blk_alloc ?_ _));refine blk_far ?_ NB162_163.out _;(with_reducible repeat (first|refine blk_drewN ?_ _|refine blk_drew ?_|refine blk_alloc ?_ _));refine blk_far ?_ NB162_163.out _;(with_reducible repeat (first|refine blk_drewN ?_ _|refine blk_drew ?_|refine blk_alloc ?_ _));refine blk_far ?_ NB162_163.out _;(with_reducible repeat (first|refine blk_drewN ?_ _|refine blk_drew ?_|refine blk_alloc ?_ _));refine blk_far ?_ NB162_163.out _;(with_reducible repeat (first|refine blk_drewN ?_ _|refine blk_drew ?_|refine blk_alloc ?_ _));refine blk_put (cs:=#[.string t152,.string t153,.int .u64 t154,.slice none 0 0]) ?_ 3 _ rfl;(with_reducible repeat (first|refine blk_drewN ?_ _|refine blk_drew ?_|refine blk_alloc ?_ _));refine blk_put (cs:=#[.string t152,.string t153,.int .u64 0,.slice none 0 0]) ?_ 2 _ rfl;(with_reducible repeat (first|refine blk_drewN ?_ _|refine blk_drew ?_|refine blk_alloc ?_ _));refine blk_put (cs:=#[.string t152,.string ⟨#[]⟩,.int .u64 0,.slice none 0 0]) ?_ 1 _ rfl;(with_reducible repeat (first|refine blk_drewN ?_ _|refine blk_drew ?_|refine blk_alloc ?_ _));refine blk_put (cs:=#[.string ⟨#[]⟩,.string ⟨#[]⟩,.int .u64 0,.slice none 0 0]) ?_ 0 _ rfl;(with_reducible repeat (first|refine blk_drewN ?_ _|refine blk_drew ?_|refine blk_alloc ?_ _));exact BK162.out⟩
              have n3_:Aside0 (((((((((w38.setCell ⟨gb162,0,none⟩ (.string t152)).setCell ⟨gb162,1,none⟩ (.string t153)).setCell ⟨gb162,2,none⟩ (.int .u64 t154)).setCell ⟨gb162,3,none⟩ (.slice Ao9 t155.length co9)).setCell ⟨gb163,0,none⟩ (.string t152)).setCell ⟨gb163,1,none⟩ (.string t153)).setCell ⟨gb163,2,none⟩ (.int .u64 t154)).setCell ⟨gb163,3,none⟩ (.slice Ao9 t155.length co9)).heap[gb163]? = some (.cells #[.string t152,.string t153,.int .u64 t154,.slice Ao9 t155.length co9] 41 (0,0))):=⟨by (with_reducible repeat (first|refine blk_drewN ?_ _|refine blk_drew ?_|refine blk_alloc ?_ _));refine blk_put (cs:=#[.string t152,.string t153,.int .u64 t154,.slice none 0 0]) ?_ 3 _ rfl;(with_reducible repeat (first|refine blk_drewN ?_ _|refine blk_drew ?_|refine blk_alloc ?_ _));refine blk_put (cs:=#[.string t152,.string t153,.int .u64 0,.slice none 0 0]) ?_ 2 _ rfl;(with_reducible repeat (first|refine blk_drewN ?_ _|refine blk_drew ?_|refine blk_alloc ?_ _));refine blk_put (cs:=#[.string t152,.string ⟨#[]⟩,.int .u64 0,.slice none 0 0]) ?_ 1 _ rfl;(with_reducible repeat (first|refine blk_drewN ?_ _|refine blk_drew ?_|refine blk_alloc ?_ _));refine blk_put (cs:=#[.string ⟨#[]⟩,.string ⟨#[]⟩,.int .u64 0,.slice none 0 0]) ?_ 0 _ rfl;(with_reducible repeat (first|refine blk_drewN ?_ _|refine blk_drew ?_|refine blk_alloc ?_ _));refine blk_far ?_ NB163_162.out _;(with_reducible repeat (first|refine blk_drewN ?_ _|refine blk_drew ?_|refine blk_alloc ?_ _));refine blk_far ?_ NB163_162.out _;(with_reducible repeat (first|refine blk_drewN ?_ _|refine blk_drew ?_|refine blk_alloc ?_ _));refine blk_far ?_ NB163_162.out _;(with_reducible repeat (first|refine blk_drewN ?_ _|refine blk_drew ?_|refine blk_alloc ?_ _));refine blk_far ?_ NB163_162.out _;(with_reducible repeat (first|refine blk_drewN ?_ _|refine blk_drew ?_|refine blk_alloc ?_ _));exact BK163.out⟩
              have n4_:Aside0 (Below w.heap.size w ((((((((w38.setCell ⟨gb162,0,none⟩ (.string t152)).setCell ⟨gb162,1,none⟩ (.string t153)).setCell ⟨gb162,2,none⟩ (.int .u64 t154)).setCell ⟨gb162,3,none⟩ (.slice Ao9 t155.length co9)).setCell ⟨gb163,0,none⟩ (.string t152)).setCell ⟨gb163,1,none⟩ (.string t153)).setCell ⟨gb163,2,none⟩ (.int .u64 t154)).setCell ⟨gb163,3,none⟩ (.slice Ao9 t155.length co9))):=⟨by repeat (first|(with_reducible first|exact HB.out|apply below_alloc|apply pw_below_drewN|apply below_drew1|refine below_set ?_ GE151.out|refine below_set ?_ GE162.out|refine below_set ?_ GE163.out)|exact HB.out)⟩
              (try clear HO_152003)
              (try clear BK151)
              (try clear BK162)
              (try clear BK163)
              (try clear HB)
              generalize ((((((((w38.setCell ⟨gb162,0,none⟩ (.string t152)).setCell ⟨gb162,1,none⟩ (.string t153)).setCell ⟨gb162,2,none⟩ (.int .u64 t154)).setCell ⟨gb162,3,none⟩ (.slice Ao9 t155.length co9)).setCell ⟨gb163,0,none⟩ (.string t152)).setCell ⟨gb163,1,none⟩ (.string t153)).setCell ⟨gb163,2,none⟩ (.int .u64 t154)).setCell ⟨gb163,3,none⟩ (.slice Ao9 t155.length co9)) = w47 at n0_ n1_ n2_ n3_ n4_ ⊢
              have HO_152003 := n0_
              have BK151 := n1_
              have BK162 := n2_
              have BK163 := n3_
              have HB := n4_
              clear n0_ n1_ n2_ n3_ n4_
              have n0_ := Aside0.mk (Kd.V_drew HO_152003.out)
              have n1_ := Aside0.mk (blk_drew BK151.out)
              have n2_ := Aside0.mk (blk_drew BK162.out)
              have n3_ := Aside0.mk (blk_drew BK163.out)
              have n4_ := Aside0.mk (below_drew1 HB.out)
              clear HO_152003
              clear BK151
              clear BK162
              clear BK163
              clear HB
              have HO_152003 := n0_
              have BK151 := n1_
              have BK162 := n2_
              have BK163 := n3_
              have HB := n4_
              clear n0_ n1_ n2_ n3_ n4_
              have q49 : ((ji17) : Int) ≤ ((t155.length : Int) : Int) := of_decide_eq_true (by first | (with_reducible assumption) | assumption)
              obtain ⟨i049, hi049, _, hsz49, _⟩ := info_parts info81
              have hroom49 : t155.length ≤ co9 := (Kd.V_reads' HO_152003.out).2.1
              have hC49 : Kd.F k81 _ _ Ao9 t155.length t155 := (Kd.V_at (base := w.heap.size) HO_152003.out).2.2
              have hcut49 := cut_to (P := Tryd.prog) 39 81 .i64 Tryd.underlying39 hi049 Ao9 t155.length co9 (ji17) (of_decide_eq_true (by first | (with_reducible assumption) | assumption)) q49 hroom49
              have hr49 := Kd.F_take (m := ((ji17) : Int).toNat) hC49 (by omega)
              have hy49 : y164.length = ((ji17) : Int).toNat := (by rw [Ny164.out, List.length_take]; omega)
              rw [← Ny164.out] at hr49
              rw [← hy49] at hcut49
              have HO168 := Aside0.mk (show Kd.V k81 81 _ w.heap.size _ (.slice Ao9 y164.length co9) y164 from Kd.V_mk (by omega) hr49)
              have HC168 := Aside0.mk (show y164.length ≤ co9 from by omega)
              clear hr49 hC49 hroom49 hi049 hsz49
              have KY49 := Aside0.mk hy49
              clear hy49
              replace q49 := eq_true q49
              have q50 : ((ji17) : Int) ≤ ((t155.length : Int) : Int) := of_decide_eq_true (by first | (with_reducible assumption) | assumption)
              obtain ⟨i050, hi050, _, hsz50, _⟩ := info_parts info81
              have hroom50 : t155.length ≤ co9 := (Kd.V_reads' HO_152003.out).2.1
              have hC50 : Kd.F k81 _ _ Ao9 t155.length t155 := (Kd.V_at (base := w.heap.size) HO_152003.out).2.2
              have q050 : (0 : Int) ≤ ((ji17) : Int) := of_decide_eq_true (by first | (with_reducible assumption) | assumption)
              have hcut50 := cut_from (P := Tryd.prog) 39 81 .i64 Tryd.underlying39 hi050 9 hsz50 Ao9 t155.length co9 (ji17) q050 q50
              have hr50 := Kd.F_cut (m := ((ji17) : Int).toNat) (c := co9) hC50 (by omega) hroom50
              obtain ⟨A50, hA50⟩ : ∃ A1, A1 = (if co9 = ((ji17) : Int).toNat then Ao9 else (Ao9 : Option Addr).map (·.add (((ji17) : Int).toNat * 9))) := ⟨_, rfl⟩
              obtain ⟨c50, hc50⟩ : ∃ c1, c1 = co9 - ((ji17) : Int).toNat := ⟨_, rfl⟩
              have hy50 : y169.length = t155.length - ((ji17) : Int).toNat := (by rw [Ny169.out, List.length_drop] <;> omega)
              rw [show (t155).drop ((ji17) : Int).toNat = y169 from Ny169.out.symm] at hr50
              replace hr50 : Kd.F k81 _ _ A50 y169.length y169 := (by rw [hA50]; exact hr50)
              rw [← hy50, ← hA50, ← hc50] at hcut50
              have HO173 := Aside0.mk (show Kd.V k81 81 _ w.heap.size _ (.slice A50 y169.length c50) y169 from Kd.V_mk (by rw [hy50, hc50]; exact Nat.sub_le_sub_right hroom50 _) hr50)
              have HC173 := Aside0.mk (show y169.length ≤ c50 from by rw [hy50, hc50]; exact Nat.sub_le_sub_right hroom50 _)
              clear hr50 hC50 hroom50 hi050 hsz50 hc50
              have KY50 := Aside0.mk hy50
              have KA50 := Aside0.mk hA50
              clear hy50 hA50
              replace q50 := eq_true q50
              refine start_ (n:=14) (S:=fun w' => w'.cell? ⟨gb151,0,none⟩ = some (.string t152) ∧ w'.cell? ⟨gb151,1,none⟩ = some (.string t153) ∧ w'.cell? ⟨gb151,2,none⟩ = some (.int .u64 t154) ∧ w'.cell? ⟨gb151,3,none⟩ = some (.slice Ao9 t155.length co9)) (ds:=[]) #[false,false,false,false,false,false,false,false,false,false,false,false,false,false] (by kernel_rfl) rfl rfl ⟨(blk_cell BK151.out 0).trans rfl,(blk_cell BK151.out 1).trans rfl,(blk_cell BK151.out 2).trans rfl,(blk_cell BK151.out 3).trans rfl⟩ (fun hHeld => ?_);refine with_tabW doorwardlaw17_ShowRules.tab7 doorwardlaw17_ShowRules.bits7 (fun HT_ HW_ => ?_)
              generalize w47.drew = w48 at HO_152003 BK151 BK162 BK163 HB HO168 HO173 hHeld ⊢
              refine pure_ (i:=0) (N:=some 43) (v:=?_) (a':=?_) #[true,false,false,false,false,false,false,false,false,false,false,false,false,false] rfl rfl (any_of HT_.out (by kernel_rfl)) (fun _ _ _ h => h) (Or.inl ⟨by rfl,?_⟩) ?_ ?_
              rotate_left
              ·intro w'
               go_simp
               with_reducible rfl
              rotate_left
              ·simp only [Act.put, List.setIfInBounds_toArray, List.set_cons_zero, List.set_cons_succ, i64_w, i32_w]
               rfl
              refine pure_ (i:=2) (N:=some 45) (v:=?_) (a':=?_) #[true,false,true,false,false,false,false,false,false,false,false,false,false,false] rfl rfl (any_of HT_.out (by kernel_rfl)) (fun _ _ _ h => h) (Or.inl ⟨by rfl,?_⟩) ?_ ?_
              rotate_left
              ·intro w'
               go_simp
               with_reducible rfl
              rotate_left
              ·simp only [Act.put, List.setIfInBounds_toArray, List.set_cons_zero, List.set_cons_succ, i64_w, i32_w]
               rfl
              refine pure_ (i:=3) (N:=some 46) (v:=?_) (a':=?_) #[true,false,true,true,false,false,false,false,false,false,false,false,false,false] rfl rfl (any_of HT_.out (by kernel_rfl)) (fun _ _ _ h => h) (Or.inl ⟨by rfl,?_⟩) ?_ ?_
              rotate_left
              ·intro w'
               go_simp
               with_reducible rfl
              rotate_left
              ·simp only [Act.put, List.setIfInBounds_toArray, List.set_cons_zero, List.set_cons_succ, i64_w, i32_w]
               rfl
              refine pure_ (i:=5) (N:=some 48) (v:=?_) (a':=?_) #[true,false,true,true,false,true,false,false,false,false,false,false,false,false] rfl rfl (any_of HT_.out (by kernel_rfl)) (fun _ _ _ h => h) (Or.inl ⟨by rfl,?_⟩) ?_ ?_
              rotate_left
              ·intro w'
               go_simp
               with_reducible rfl
              rotate_left
              ·simp only [Act.put, List.setIfInBounds_toArray, List.set_cons_zero, List.set_cons_succ, i64_w, i32_w]
               rfl
              refine pure_ (i:=7) (N:=some 50) (v:=?_) (a':=?_) #[true,false,true,true,false,true,false,true,false,false,false,false,false,false] rfl rfl (any_of HT_.out (by kernel_rfl)) (fun _ _ _ h => h) (Or.inl ⟨by rfl,?_⟩) ?_ ?_
              rotate_left
              ·intro w'
               go_simp
               with_reducible rfl
              rotate_left
              ·simp only [Act.put, List.setIfInBounds_toArray, List.set_cons_zero, List.set_cons_succ, i64_w, i32_w]
               rfl
              refine pure_ (i:=8) (N:=some 51) (v:=?_) (a':=?_) #[true,false,true,true,false,true,false,true,true,false,false,false,false,false] rfl rfl (any_of HT_.out (by kernel_rfl)) (fun _ _ _ h => h) (Or.inl ⟨by rfl,?_⟩) ?_ ?_
              rotate_left
              ·intro w'
               go_simp
               with_reducible rfl
              rotate_left
              ·simp only [Act.put, List.setIfInBounds_toArray, List.set_cons_zero, List.set_cons_succ, i64_w, i32_w]
               rfl
              refine take_ (i:=1) (N:=some 44) (v:=?_) (a':=?_) #[true,true,true,true,false,true,false,true,true,false,false,false,false,false] rfl rfl (take_ofW HT_.out HW_.out (by kernel_rfl)) (fun _ _ _ h => h) (Or.inl ⟨by rfl,?_⟩) hHeld ?_ ?_
              rotate_left
              ·rintro w' ⟨s0, s1, s2, s3⟩
               go_simp
               with_reducible rfl
              rotate_left
              ·simp only [Act.put, List.setIfInBounds_toArray, List.set_cons_zero, List.set_cons_succ, i64_w, i32_w]
               rfl
              refine pure_ (i:=4) (N:=some 47) (v:=?_) (a':=?_) #[true,true,true,true,true,true,false,true,true,false,false,false,false,false] rfl rfl (any_of HT_.out (by kernel_rfl)) (fun _ _ _ h => h) (Or.inl ⟨by rfl,?_⟩) ?_ ?_
              rotate_left
              ·intro w'
               go_simp
               with_reducible rfl
              rotate_left
              ·simp only [Act.put, List.setIfInBounds_toArray, List.set_cons_zero, List.set_cons_succ, i64_w, i32_w]
               rfl
              refine pure_ (i:=10) (N:=some 53) (v:=?_) (a':=?_) #[true,true,true,true,true,true,false,true,true,false,true,false,false,false] rfl rfl (any_of HT_.out (by kernel_rfl)) (fun _ _ _ h => h) (Or.inl ⟨by rfl,?_⟩) ?_ ?_
              rotate_left
              ·intro w'
               go_simp
               with_reducible rfl
              rotate_left
              ·simp only [Act.put, List.setIfInBounds_toArray, List.set_cons_zero, List.set_cons_succ, i64_w, i32_w]
               rfl
              refine take_ (i:=6) (N:=some 49) (v:=?_) (a':=?_) #[true,true,true,true,true,true,true,true,true,false,true,false,false,false] rfl rfl (take_ofW HT_.out HW_.out (by kernel_rfl)) (fun _ _ _ h => h) (Or.inl ⟨by rfl,?_⟩) hHeld ?_ ?_
              rotate_left
              ·rintro w' ⟨s0, s1, s2, s3⟩
               go_simp
               with_reducible rfl
              rotate_left
              ·simp only [Act.put, List.setIfInBounds_toArray, List.set_cons_zero, List.set_cons_succ, i64_w, i32_w]
               rfl
              refine pure_ (i:=9) (N:=some 52) (v:=?_) (a':=?_) #[true,true,true,true,true,true,true,true,true,true,true,false,false,false] rfl rfl (any_of HT_.out (by kernel_rfl)) (fun _ _ _ h => h) (Or.inl ⟨by rfl,?_⟩) ?_ ?_
              rotate_left
              ·intro w'
               go_simp
               with_reducible rfl
              rotate_left
              ·simp only [Act.put, List.setIfInBounds_toArray, List.set_cons_zero, List.set_cons_succ, i64_w, i32_w]
               rfl
              refine one_ (i := 11) (N := none) #[true, true, true, true, true, true, true, true, true, true, true, true, false, false] rfl rfl (one_of HT_.out (by kernel_rfl)) (by decide) (fun K hK => ?_)
              have hs51 : w48.cell? ⟨gb162, 3, none⟩ = some (.slice Ao9 t155.length co9) := (blk_cell BK162.out 3).trans rfl
              have hfs51 := blk_frozen BK162.out 3
              have hns51_0 := NB151_162.out
              have hns51_2 := NB163_162.out
              have hms51_0 := NB162_151.out
              have hms51_2 := NB162_163.out
              refine skip_ (w1 := ?_) (by rfl) rfl ?_ ?_
              rotate_left
              ·go_simp
               rfl
              refine hK.out _ _ ⟨((cell_far (p:=⟨gb162,_,none⟩) NB151_162.out _).trans (hHeld.1)),((cell_far (p:=⟨gb162,_,none⟩) NB151_162.out _).trans (hHeld.2.1)),((cell_far (p:=⟨gb162,_,none⟩) NB151_162.out _).trans (hHeld.2.2.1)),((cell_far (p:=⟨gb162,_,none⟩) NB151_162.out _).trans (hHeld.2.2.2))⟩ (fun hHeld => ?_)
              clear hK K
              refine pure_ (i:=12) (N:=some 54) (v:=?_) (a':=?_) #[true,true,true,true,true,true,true,true,true,true,true,true,true,false] rfl rfl (any_of HT_.out (by kernel_rfl)) (fun _ _ _ h => h) (Or.inl ⟨by rfl,?_⟩) ?_ ?_
              rotate_left
              ·intro w'
               go_simp
               with_reducible rfl
              rotate_left
              ·simp only [Act.put, List.setIfInBounds_toArray, List.set_cons_zero, List.set_cons_succ, i64_w, i32_w]
               rfl
              refine one_ (i := 13) (N := none) #[true, true, true, true, true, true, true, true, true, true, true, true, true, true] rfl rfl (one_of HT_.out (by kernel_rfl)) (by decide) (fun K hK => ?_)
              have hs52 : w48.cell? ⟨gb163, 3, none⟩ = some (.slice Ao9 t155.length co9) := (blk_cell BK163.out 3).trans rfl
              have hfs52 := blk_frozen BK163.out 3
              have hns52_0 := NB151_163.out
              have hns52_1 := NB162_163.out
              have hms52_0 := NB163_151.out
              have hms52_1 := NB163_162.out
              refine skip_ (w1 := ?_) (by rfl) rfl ?_ ?_
              rotate_left
              ·go_simp
               rfl
              refine hK.out _ _ ⟨((cell_far (p:=⟨gb163,_,none⟩) NB151_163.out _).trans (hHeld.1)),((cell_far (p:=⟨gb163,_,none⟩) NB151_163.out _).trans (hHeld.2.1)),((cell_far (p:=⟨gb163,_,none⟩) NB151_163.out _).trans (hHeld.2.2.1)),((cell_far (p:=⟨gb163,_,none⟩) NB151_163.out _).trans (hHeld.2.2.2))⟩ (fun hHeld => ?_)
              clear hK K
              refine done_ (done_of HT_.out (by kernel_rfl)) ?_
              have hnb53 := NB162_151.out
              have hnc53 := NB151_162.out
              have hnb54 := NB162_163.out
              have hnc54 := NB163_162.out
              have hcz55_0 : w48.cell? ⟨gb162, 0, none⟩ = some (.string t152) := (blk_cell BK162.out 0).trans rfl
              have hcz55_1 : w48.cell? ⟨gb162, 1, none⟩ = some (.string t153) := (blk_cell BK162.out 1).trans rfl
              have hcz55_2 : w48.cell? ⟨gb162, 2, none⟩ = some (.int .u64 t154) := (blk_cell BK162.out 2).trans rfl
              have hcz55_3 : w48.cell? ⟨gb162, 3, none⟩ = some (.slice Ao9 t155.length co9) := (blk_cell BK162.out 3).trans rfl
              have hfz55_0 := blk_frozen BK162.out 0
              have hfz55_1 := blk_frozen BK162.out 1
              have hfz55_2 := blk_frozen BK162.out 2
              have hfz55_3 := blk_frozen BK162.out 3
              try go_wp2_with (first|((with_reducible refine gate_callee (f:=33) rfl ?_);refine goesL_ (some 57) rfl rfl Tryd.func33 (by kernel_rfl) rfl #[.agg #[.string t152,.string t153,.int .u64 t154,.slice Ao9 y164.length co9]] rfl (by (try simp only [List.map_toArray,List.map_cons,List.map_nil]);first|done|rfl|(simp only [List.length_drop,List.length_take];rfl)) ?_;(with_reducible refine (show_Print.calls t152 t153 t154 _ _ y164 t174 t175 _ ?side1 ?side2 ?side3 A22.out).mono ?_);(case side1 => refine (Kd.V_reads' (e:=81) (base:=w.heap.size) (ok:=fun k_ => (k_ ≠ gb151 ∧ (k_ ≠ gb162 ∧ k_ ≠ gb163))) (n:=y164.length) (c:=co9) ?_).2.2;exact (by (with_reducible repeat (first|apply Kd.V_alloc|apply Kd.V_drewN|apply Kd.V_drew));exact (Kd.V_mono (Kd.V_mono (Kd.V_far (p:=⟨gb163,3,none⟩) (Kd.V_far (p:=⟨gb162,3,none⟩) (Kd.V_mono (Kd.V_mono HO168.out (fun k_ hk => (⟨hk,hk.2.1⟩:_ ∧ k_ ≠ gb162))) (fun k_ hk => (⟨hk,hk.1.2.2⟩:_ ∧ k_ ≠ gb163))) (fun _ hk => hk.1.2) (.slice Ao9 y164.length co9)) (fun _ hk => hk.2) (.slice A50 y169.length c50)) (fun _ h_ => h_.1)) (fun _ h_ => h_.1))));(case side2 => exact (Kd.V_reads' HO168.out).2.1);(case side3 => exact LaidAt.of HLD.out (by repeat (first|(with_reducible first|exact HB.out|apply below_alloc|apply pw_below_drewN|apply below_drew1|refine below_set ?_ GE151.out|refine below_set ?_ GE162.out|refine below_set ?_ GE163.out)|exact HB.out)));rintro e w56 ⟨rfl,hb⟩;refine ⟨_,rfl,?_⟩;have n0_:=Aside0.mk (Kd.V_below (by (with_reducible repeat (first|apply Kd.V_alloc|apply Kd.V_drewN|apply Kd.V_drew));exact (Kd.V_mono (Kd.V_mono (Kd.V_far (p:=⟨gb163,3,none⟩) (Kd.V_far (p:=⟨gb162,3,none⟩) (Kd.V_mono (Kd.V_mono HO_152003.out (fun k_ hk => (⟨hk,hk.2.1⟩:_ ∧ k_ ≠ gb162))) (fun k_ hk => (⟨hk,hk.1.2.2⟩:_ ∧ k_ ≠ gb163))) (fun _ hk => hk.1.2) (.slice Ao9 y164.length co9)) (fun _ hk => hk.2) (.slice A50 y169.length c50)) (fun _ h_ => h_.1)) (fun _ h_ => h_.1))) hb);have n1_:=Aside0.mk (Kd.V_below (by (with_reducible repeat (first|apply Kd.V_alloc|apply Kd.V_drewN|apply Kd.V_drew));exact (Kd.V_mono (Kd.V_mono (Kd.V_far (p:=⟨gb163,3,none⟩) (Kd.V_far (p:=⟨gb162,3,none⟩) (Kd.V_mono (Kd.V_mono HO168.out (fun k_ hk => (⟨hk,hk.2.1⟩:_ ∧ k_ ≠ gb162))) (fun k_ hk => (⟨hk,hk.1.2.2⟩:_ ∧ k_ ≠ gb163))) (fun _ hk => hk.1.2) (.slice Ao9 y164.length co9)) (fun _ hk => hk.2) (.slice A50 y169.length c50)) (fun _ h_ => h_.1)) (fun _ h_ => h_.1))) hb);have n2_:=Aside0.mk (Kd.V_below (by (with_reducible repeat (first|apply Kd.V_alloc|apply Kd.V_drewN|apply Kd.V_drew));exact (Kd.V_mono (Kd.V_mono (Kd.V_far (p:=⟨gb163,3,none⟩) (Kd.V_far (p:=⟨gb162,3,none⟩) (Kd.V_mono (Kd.V_mono HO173.out (fun k_ hk => (⟨hk,hk.2.1⟩:_ ∧ k_ ≠ gb162))) (fun k_ hk => (⟨hk,hk.1.2.2⟩:_ ∧ k_ ≠ gb163))) (fun _ hk => hk.1.2) (.slice Ao9 y164.length co9)) (fun _ hk => hk.2) (.slice A50 y169.length c50)) (fun _ h_ => h_.1)) (fun _ h_ => h_.1))) hb);have n3_:=Aside0.mk (blk_below (g:=gb151) (o:=.cells #[.string t152,.string t153,.int .u64 t154,.slice Ao9 t155.length co9] 41 (0,0)) (by (with_reducible repeat (first|refine blk_drewN ?_ _|refine blk_drew ?_|refine blk_alloc ?_ _));refine blk_far ?_ NB151_163.out _;(with_reducible repeat (first|refine blk_drewN ?_ _|refine blk_drew ?_|refine blk_alloc ?_ _));refine blk_far ?_ NB151_162.out _;(with_reducible repeat (first|refine blk_drewN ?_ _|refine blk_drew ?_|refine blk_alloc ?_ _));exact BK151.out) hb);have n4_:=Aside0.mk (blk_below (g:=gb162) (o:=.cells #[.string t152,.string t153,.int .u64 t154,.slice Ao9 y164.length co9] 41 (0,0)) (by (with_reducible repeat (first|refine blk_drewN ?_ _|refine blk_drew ?_|refine blk_alloc ?_ _));refine blk_far ?_ NB162_163.out _;(with_reducible repeat (first|refine blk_drewN ?_ _|refine blk_drew ?_|refine blk_alloc ?_ _));refine blk_put (cs:=#[.string t152,.string t153,.int .u64 t154,.slice Ao9 t155.length co9]) ?_ 3 _ rfl;(with_reducible repeat (first|refine blk_drewN ?_ _|refine blk_drew ?_|refine blk_alloc ?_ _));exact BK162.out) hb);have n5_:=Aside0.mk (blk_below (g:=gb163) (o:=.cells #[.string t152,.string t153,.int .u64 t154,.slice A50 y169.length c50] 41 (0,0)) (by (with_reducible repeat (first|refine blk_drewN ?_ _|refine blk_drew ?_|refine blk_alloc ?_ _));refine blk_put (cs:=#[.string t152,.string t153,.int .u64 t154,.slice Ao9 t155.length co9]) ?_ 3 _ rfl;(with_reducible repeat (first|refine blk_drewN ?_ _|refine blk_drew ?_|refine blk_alloc ?_ _));refine blk_far ?_ NB163_162.out _;(with_reducible repeat (first|refine blk_drewN ?_ _|refine blk_drew ?_|refine blk_alloc ?_ _));exact BK163.out) hb);have n6_:=Aside0.mk (below_step (by repeat (first|(with_reducible first|exact HB.out|apply below_alloc|apply pw_below_drewN|apply below_drew1|refine below_set ?_ GE151.out|refine below_set ?_ GE162.out|refine below_set ?_ GE163.out)|exact HB.out)) hb);clear HO_152003;clear HO168;clear HO173;clear BK151;clear BK162;clear BK163;clear HB;have HO_152003:=n0_;have HO168:=n1_;have HO173:=n2_;have BK151:=n3_;have BK162:=n4_;have BK163:=n5_;have HB:=n6_;clear n0_ n1_ n2_ n3_ n4_ n5_ n6_;(try clear hb);(try clear hb2);(try clear hk);(try clear hi);have hnb57:=NB163_151.out;have hnc57:=NB151_163.out;have hcz58_0:w56.cell? ⟨gb163,0,none⟩ = some (.string t152):=(blk_cell BK163.out 0).trans rfl;have hcz58_1:w56.cell? ⟨gb163,1,none⟩ = some (.string t153):=(blk_cell BK163.out 1).trans rfl;have hcz58_2:w56.cell? ⟨gb163,2,none⟩ = some (.int .u64 t154):=(blk_cell BK163.out 2).trans rfl;have hcz58_3:w56.cell? ⟨gb163,3,none⟩ = some (.slice A50 y169.length c50):=(blk_cell BK163.out 3).trans rfl;have hfz58_0:=blk_frozen BK163.out 0;have hfz58_1:=blk_frozen BK163.out 1;have hfz58_2:=blk_frozen BK163.out 2;have hfz58_3:=blk_frozen BK163.out 3)|((with_reducible refine gate_callee (f:=33) rfl ?_);refine goesL_ (some 62) rfl rfl Tryd.func33 (by kernel_rfl) rfl #[.agg #[.string t152,.string t153,.int .u64 t154,.slice A50 y169.length c50]] rfl (by (try simp only [List.map_toArray,List.map_cons,List.map_nil]);first|done|rfl|(simp only [List.length_drop,List.length_take];rfl)) ?_;(with_reducible refine (show_Print.calls t152 t153 t154 _ _ y169 t176 t177 _ ?side1 ?side2 ?side3 A23.out).mono ?_);(case side1 => repeat (first|exact (Kd.V_reads' HO173.out).2.2|(with_reducible refine Kd.C_alloc ?_ _)|(with_reducible refine Kd.C_drewN ?_ _)|(with_reducible refine Kd.C_drew ?_)));(case side2 => exact (Kd.V_reads' HO173.out).2.1);(case side3 => exact LaidAt.of HLD.out (by repeat (first|(with_reducible first|exact HB.out|apply below_alloc|apply pw_below_drewN|apply below_drew1|refine below_set ?_ GE151.out|refine below_set ?_ GE162.out|refine below_set ?_ GE163.out)|exact HB.out)));rintro e w59 ⟨rfl,hb⟩;refine ⟨_,rfl,?_⟩;have n0_:=Aside0.mk (Kd.V_below (by (with_reducible repeat (first|apply Kd.V_alloc|apply Kd.V_drewN|apply Kd.V_drew));exact HO_152003.out) hb);have n1_:=Aside0.mk (Kd.V_below (by (with_reducible repeat (first|apply Kd.V_alloc|apply Kd.V_drewN|apply Kd.V_drew));exact HO168.out) hb);have n2_:=Aside0.mk (Kd.V_below (by (with_reducible repeat (first|apply Kd.V_alloc|apply Kd.V_drewN|apply Kd.V_drew));exact HO173.out) hb);have n3_:=Aside0.mk (blk_below (g:=gb151) (o:=.cells #[.string t152,.string t153,.int .u64 t154,.slice Ao9 t155.length co9] 41 (0,0)) (by (with_reducible repeat (first|refine blk_drewN ?_ _|refine blk_drew ?_|refine blk_alloc ?_ _));exact BK151.out) hb);have n4_:=Aside0.mk (blk_below (g:=gb162) (o:=.cells #[.string t152,.string t153,.int .u64 t154,.slice Ao9 y164.length co9] 41 (0,0)) (by (with_reducible repeat (first|refine blk_drewN ?_ _|refine blk_drew ?_|refine blk_alloc ?_ _));exact BK162.out) hb);have n5_:=Aside0.mk (blk_below (g:=gb163) (o:=.cells #[.string t152,.string t153,.int .u64 t154,.slice A50 y169.length c50] 41 (0,0)) (by (with_reducible repeat (first|refine blk_drewN ?_ _|refine blk_drew ?_|refine blk_alloc ?_ _));exact BK163.out) hb);have n6_:=Aside0.mk (below_step (by repeat (first|(with_reducible first|exact HB.out|apply below_alloc|apply pw_below_drewN|apply below_drew1|refine below_set ?_ GE151.out|refine below_set ?_ GE162.out|refine below_set ?_ GE163.out)|exact HB.out)) hb);clear HO_152003;clear HO168;clear HO173;clear BK151;clear BK162;clear BK163;clear HB;have HO_152003:=n0_;have HO168:=n1_;have HO173:=n2_;have BK151:=n3_;have BK162:=n4_;have BK163:=n5_;have HB:=n6_;clear n0_ n1_ n2_ n3_ n4_ n5_ n6_;(try clear hb);(try clear hb2);(try clear hk);(try clear hi);have hcz60_0:w59.cell? ⟨gb162,0,none⟩ = some (.string t152):=(blk_cell BK162.out 0).trans rfl;have hcz60_1:w59.cell? ⟨gb162,1,none⟩ = some (.string t153):=(blk_cell BK162.out 1).trans rfl;have hcz60_2:w59.cell? ⟨gb162,2,none⟩ = some (.int .u64 t154):=(blk_cell BK162.out 2).trans rfl;have hcz60_3:w59.cell? ⟨gb162,3,none⟩ = some (.slice Ao9 y164.length co9):=(blk_cell BK162.out 3).trans rfl;have hfz60_0:=blk_frozen BK162.out 0;have hfz60_1:=blk_frozen BK162.out 1;have hfz60_2:=blk_frozen BK162.out 2;have hfz60_3:=blk_frozen BK162.out 3)|((with_reducible refine gate_callee (f:=33) rfl ?_);refine goesL_ (some 68) rfl rfl Tryd.func33 (by kernel_rfl) rfl #[.agg #[.string t152,.string t153,.int .u64 t154,.slice none 0 0]] rfl (by (try simp only [List.map_toArray,List.map_cons,List.map_nil]);first|done|rfl|(simp only [List.length_drop,List.length_take];rfl)) ?_;(refine (show_Print.calls t152 t153 t154 _ _ ([]:List (S81)) t178 t179 _ ?side1 ?side2 ?side3 A24.out).mono ?_);(case side1 => exact Kd.C_nil _ _);(case side2 => exact Nat.le_refl _);(case side3 => exact LaidAt.of HLD.out (by repeat (first|(with_reducible first|exact HB.out|apply below_alloc|apply pw_below_drewN|apply below_drew1|refine below_set ?_ GE151.out|refine below_set ?_ GE162.out|refine below_set ?_ GE163.out)|exact HB.out)));rintro e w61 ⟨rfl,hb⟩;refine ⟨_,rfl,?_⟩;have n0_:=Aside0.mk (Kd.V_below (by (with_reducible repeat (first|apply Kd.V_alloc|apply Kd.V_drewN|apply Kd.V_drew));exact (Kd.V_mono (Kd.V_far (p:=⟨gb162,3,none⟩) (Kd.V_mono HO_152003.out (fun k_ hk => (⟨hk,hk.2.1⟩:_ ∧ k_ ≠ gb162))) (fun _ hk => hk.2) (.slice none 0 0)) (fun _ h_ => h_.1))) hb);have n1_:=Aside0.mk (Kd.V_below (by (with_reducible repeat (first|apply Kd.V_alloc|apply Kd.V_drewN|apply Kd.V_drew));exact (Kd.V_mono (Kd.V_far (p:=⟨gb162,3,none⟩) (Kd.V_mono HO168.out (fun k_ hk => (⟨hk,hk.2.1⟩:_ ∧ k_ ≠ gb162))) (fun _ hk => hk.2) (.slice none 0 0)) (fun _ h_ => h_.1))) hb);have n2_:=Aside0.mk (Kd.V_below (by (with_reducible repeat (first|apply Kd.V_alloc|apply Kd.V_drewN|apply Kd.V_drew));exact (Kd.V_mono (Kd.V_far (p:=⟨gb162,3,none⟩) (Kd.V_mono HO173.out (fun k_ hk => (⟨hk,hk.2.1⟩:_ ∧ k_ ≠ gb162))) (fun _ hk => hk.2) (.slice none 0 0)) (fun _ h_ => h_.1))) hb);have n3_:=Aside0.mk (blk_below (g:=gb151) (o:=.cells #[.string t152,.string t153,.int .u64 t154,.slice Ao9 t155.length co9] 41 (0,0)) (by (with_reducible repeat (first|refine blk_drewN ?_ _|refine blk_drew ?_|refine blk_alloc ?_ _));refine blk_far ?_ NB151_162.out _;(with_reducible repeat (first|refine blk_drewN ?_ _|refine blk_drew ?_|refine blk_alloc ?_ _));exact BK151.out) hb);have n4_:=Aside0.mk (blk_below (g:=gb162) (o:=.cells #[.string t152,.string t153,.int .u64 t154,.slice none 0 0] 41 (0,0)) (by (with_reducible repeat (first|refine blk_drewN ?_ _|refine blk_drew ?_|refine blk_alloc ?_ _));refine blk_put (cs:=#[.string t152,.string t153,.int .u64 t154,.slice Ao9 y164.length co9]) ?_ 3 _ rfl;(with_reducible repeat (first|refine blk_drewN ?_ _|refine blk_drew ?_|refine blk_alloc ?_ _));exact BK162.out) hb);have n5_:=Aside0.mk (blk_below (g:=gb163) (o:=.cells #[.string t152,.string t153,.int .u64 t154,.slice A50 y169.length c50] 41 (0,0)) (by (with_reducible repeat (first|refine blk_drewN ?_ _|refine blk_drew ?_|refine blk_alloc ?_ _));refine blk_far ?_ NB163_162.out _;(with_reducible repeat (first|refine blk_drewN ?_ _|refine blk_drew ?_|refine blk_alloc ?_ _));exact BK163.out) hb);have n6_:=Aside0.mk (below_step (by repeat (first|(with_reducible first|exact HB.out|apply below_alloc|apply pw_below_drewN|apply below_drew1|refine below_set ?_ GE151.out|refine below_set ?_ GE162.out|refine below_set ?_ GE163.out)|exact HB.out)) hb);clear HO_152003;clear HO168;clear HO173;clear BK151;clear BK162;clear BK163;clear HB;have HO_152003:=n0_;have HO168:=n1_;have HO173:=n2_;have BK151:=n3_;have BK162:=n4_;have BK163:=n5_;have HB:=n6_;clear n0_ n1_ n2_ n3_ n4_ n5_ n6_;(try clear hb);(try clear hb2);(try clear hk);(try clear hi))|((with_reducible refine gate_callee (f:=28) rfl ?_);refine goesL_ (some 71) rfl rfl Tryd.func28 (by kernel_rfl) rfl #[] rfl (by (try simp only [List.map_toArray,List.map_cons,List.map_nil]);first|done|rfl|(simp only [List.length_drop,List.length_take];rfl)) ?_;(with_reducible refine (doorwardlaw17_alive.calls  true _ ?side1 A25.out).mono ?_);(case side1 => exact LaidAt.of HLD.out (by repeat (first|(with_reducible first|exact HB.out|apply below_alloc|apply pw_below_drewN|apply below_drew1|refine below_set ?_ GE151.out|refine below_set ?_ GE162.out|refine below_set ?_ GE163.out)|exact HB.out)));rintro e w62 ⟨rfl,hb⟩;refine ⟨_,rfl,?_⟩;have n0_:=Aside0.mk (Kd.V_below (by (with_reducible repeat (first|apply Kd.V_alloc|apply Kd.V_drewN|apply Kd.V_drew));exact HO_152003.out) hb);have n1_:=Aside0.mk (Kd.V_below (by (with_reducible repeat (first|apply Kd.V_alloc|apply Kd.V_drewN|apply Kd.V_drew));exact HO168.out) hb);have n2_:=Aside0.mk (Kd.V_below (by (with_reducible repeat (first|apply Kd.V_alloc|apply Kd.V_drewN|apply Kd.V_drew));exact HO173.out) hb);have n3_:=Aside0.mk (blk_below (g:=gb151) (o:=.cells #[.string t152,.string t153,.int .u64 t154,.slice Ao9 t155.length co9] 41 (0,0)) (by (with_reducible repeat (first|refine blk_drewN ?_ _|refine blk_drew ?_|refine blk_alloc ?_ _));exact BK151.out) hb);have n4_:=Aside0.mk (blk_below (g:=gb162) (o:=.cells #[.string t152,.string t153,.int .u64 t154,.slice none 0 0] 41 (0,0)) (by (with_reducible repeat (first|refine blk_drewN ?_ _|refine blk_drew ?_|refine blk_alloc ?_ _));exact BK162.out) hb);have n5_:=Aside0.mk (blk_below (g:=gb163) (o:=.cells #[.string t152,.string t153,.int .u64 t154,.slice A50 y169.length c50] 41 (0,0)) (by (with_reducible repeat (first|refine blk_drewN ?_ _|refine blk_drew ?_|refine blk_alloc ?_ _));exact BK163.out) hb);have n6_:=Aside0.mk (below_step (by repeat (first|(with_reducible first|exact HB.out|apply below_alloc|apply pw_below_drewN|apply below_drew1|refine below_set ?_ GE151.out|refine below_set ?_ GE162.out|refine below_set ?_ GE163.out)|exact HB.out)) hb);clear HO_152003;clear HO168;clear HO173;clear BK151;clear BK162;clear BK163;clear HB;have HO_152003:=n0_;have HO168:=n1_;have HO173:=n2_;have BK151:=n3_;have BK162:=n4_;have BK163:=n5_;have HB:=n6_;clear n0_ n1_ n2_ n3_ n4_ n5_ n6_;(try clear hb);(try clear hb2);(try clear hk);(try clear hi)))
              go_ret
              exact ⟨by first|rfl|(simp [errW_none,errW_some] <;> rfl)|(simp only [← hji17];first|rfl|(simp [errW_none,errW_some] <;> rfl))|(simp [*,errW_none,errW_some] <;> rfl),by repeat (first|(with_reducible first|exact HB.out|apply below_alloc|apply pw_below_drewN|apply below_drew1|refine below_set ?_ GE151.out|refine below_set ?_ GE162.out|refine below_set ?_ GE163.out)|exact HB.out)⟩
             ·rw [if_neg c33] at H
              exact absurd H (by simp)
            ·rw [if_neg c32] at H
             exact absurd H (by simp)
           ·rw [if_neg c31] at H
            exact absurd H (by simp)
          ·rw [if_neg c30] at H
           exact absurd H (by simp)
         ·rw [if_neg c29] at H
          exact absurd H (by simp)
        ·rw [if_neg c28] at H
         exact absurd H (by simp)
       ·rw [if_neg c27] at H
        exact absurd H (by simp)
      ·rw [if_neg c26] at H
       exact absurd H (by simp)
     ·rw [if_neg c19] at H
      exact absurd H (by simp)
    ·rw [if_neg c18] at H
     exact absurd H (by simp)

end Go.Proofs.YtdfjjimmnbijmaaDoor.SR

/- A part of the proof, written by programs of this seat and by hand: P11. -/
import Derived.Test.YtfcjeoihfphphaaGreatDoorBkP0
import Derived.Test.YtfcjeoihfphphaaGreatDoorBkP1
import Derived.Test.YtfcjeoihfphphaaGreatDoorBkP2
import Derived.Test.YtfcjeoihfphphaaGreatDoorBkP4
import Derived.Test.YtfcjeoihfphphaaGreatDoorBkP5
import Derived.Test.YtfcjeoihfphphaaGreatDoorBkP7
section
namespace Go.Proofs.YtfcjeoihfphphaaGreatDoor.PFlow
open Go.RowKit Go.Proofs.YtfcjeoihfphphaaGreatDoorW.PrintWords Go.Proofs.YtfcjeoihfphphaaGreatDoorW.PrintLast Go.Proofs.YtfcjeoihfphphaaGreatDoorW.PrintMore
attribute [local go_sem] max2_int min2_int max_two min_two max_three min_three max_four min_four   -- for this text's walks alone
set_option linter.unusedVariables false
set_option linter.unusedSimpArgs false
mutual
def assessorlaw17_FlowBlocks.j0 : Nat → List (List Int) → List Bool → List (List Int) → Bool → List (S58) → Option (Bool)
 | 0, _, _, _, _, _ => none
 | k + 1, x3, x4, x5, x54, x341000 => if x54 = true then (some false) else (if 0 ≤ (x341000.length : Int) then (if ((x341000.length : Int) : Int).toNat ≤ 281474976710656 then (assessorlaw17_FlowBlocks.l0 k x4 x5 (List.replicate ((x341000.length : Int) : Int).toNat false) x3 (x3.length : Int) 0 x341000) else (none)) else (none))
def assessorlaw17_FlowBlocks.l0 : Nat → List Bool → List (List Int) → List Bool → List (List Int) → Int → Int → List (S58) → Option (Bool)
 | 0, _, _, _, _, _, _, _ => none
 | k + 1, x4, x5, x6, x59, x60, x61, x341000 => if x61 < x60 then (if 0 ≤ x61 then (if x61 < (x59.length : Int) then (assessorlaw17_FlowBlocks.l1 k x4 x5 x6 (rd_L1 x59 x61) x59 x60 x61 (rd_L1 x59 x61) ((rd_L1 x59 x61).length : Int) 0 x341000) else (none)) else (none)) else ((sEq.f k x6 x4).bind fun t356 => (some t356))
def assessorlaw17_FlowBlocks.l1 : Nat → List Bool → List (List Int) → List Bool → List Int → List (List Int) → Int → Int → List Int → Int → Int → List (S58) → Option (Bool)
 | 0, _, _, _, _, _, _, _, _, _, _, _ => none
 | k + 1, x4, x5, x6, x8, x59, x60, x61, x65, x66, x67, x341000 => if x67 < x66 then (if 0 ≤ x67 then (if x67 < (x65.length : Int) then (if (rd x65 x67) < 0 then (assessorlaw17_FlowBlocks.j3 k x4 x5 x6 x8 x67 (rd x65 x67) x59 x60 x61 x65 x66 x67 true x341000) else (if (rd x65 x67) ≥ (x341000.length : Int) then (assessorlaw17_FlowBlocks.j3 k x4 x5 x6 x8 x67 (rd x65 x67) x59 x60 x61 x65 x66 x67 true x341000) else (if 0 ≤ (rd x65 x67) then (if (rd x65 x67) < (x6.length : Int) then (if rdOf false x6 (rd x65 x67) = true then (assessorlaw17_FlowBlocks.j3 k x4 x5 x6 x8 x67 (rd x65 x67) x59 x60 x61 x65 x66 x67 true x341000) else (if (rd x65 x67) < (x4.length : Int) then (assessorlaw17_FlowBlocks.j3 k x4 x5 x6 x8 x67 (rd x65 x67) x59 x60 x61 x65 x66 x67 (!(rdOf false x4 (rd x65 x67))) x341000) else (none))) else (none)) else (none)))) else (none)) else (none)) else (assessorlaw17_FlowBlocks.l0 k x4 x5 x6 x59 x60 (wrap64 (x61 + 1)) x341000)
def assessorlaw17_FlowBlocks.j3 : Nat → List Bool → List (List Int) → List Bool → List Int → Int → Int → List (List Int) → Int → Int → List Int → Int → Int → Bool → List (S58) → Option (Bool)
 | 0, _, _, _, _, _, _, _, _, _, _, _, _, _, _ => none
 | k + 1, x4, x5, x6, x8, x9, x10, x59, x60, x61, x65, x66, x67, x93, x341000 => if x93 = true then (some false) else (if 0 ≤ x10 then (if x10 < (x6.length : Int) then ((some (x6.set (x10 : Int).toNat true : List Bool)).bind fun y361 => (if x9 = 0 then (assessorlaw17_FlowBlocks.l1 k x4 x5 y361 x8 x59 x60 x61 x65 x66 (wrap64 (x67 + 1)) x341000) else (if 0 ≤ (wrap64 (x9 - 1)) then (if (wrap64 (x9 - 1)) < (x8.length : Int) then (if 0 ≤ (rd x8 (wrap64 (x9 - 1))) then (if (rd x8 (wrap64 (x9 - 1))) < (x341000.length : Int) then (if (((rd_T58 x341000 (rd x8 (wrap64 (x9 - 1)))).f2).length : Int) = 1 then (if 0 < (((rd_T58 x341000 (rd x8 (wrap64 (x9 - 1)))).f2).length : Int) then (assessorlaw17_FlowBlocks.j4 k x4 x5 y361 x8 x9 x10 x59 x60 x61 x65 x66 x67 ((rd ((rd_T58 x341000 (rd x8 (wrap64 (x9 - 1)))).f2) 0) != x10) x341000) else (none)) else (assessorlaw17_FlowBlocks.j4 k x4 x5 y361 x8 x9 x10 x59 x60 x61 x65 x66 x67 true x341000)) else (none)) else (none)) else (none)) else (none)))) else (none)) else (none))
def assessorlaw17_FlowBlocks.j4 : Nat → List Bool → List (List Int) → List Bool → List Int → Int → Int → List (List Int) → Int → Int → List Int → Int → Int → Bool → List (S58) → Option (Bool)
 | 0, _, _, _, _, _, _, _, _, _, _, _, _, _, _ => none
 | k + 1, x4, x5, x6, x8, x9, x10, x59, x60, x61, x65, x66, x67, x118, x341000 => if x118 = true then (some false) else (if 0 ≤ x10 then (if x10 < (x5.length : Int) then (assessorlaw17_FlowBlocks.l2 k x4 x5 x6 x8 x9 x59 x60 x61 x65 x66 x67 (rd_L1 x5 x10) ((rd_L1 x5 x10).length : Int) 0 x341000) else (none)) else (none))
def assessorlaw17_FlowBlocks.l2 : Nat → List Bool → List (List Int) → List Bool → List Int → Int → List (List Int) → Int → Int → List Int → Int → Int → List Int → Int → Int → List (S58) → Option (Bool)
 | 0, _, _, _, _, _, _, _, _, _, _, _, _, _, _, _ => none
 | k + 1, x4, x5, x6, x8, x9, x59, x60, x61, x65, x66, x67, x122, x123, x124, x341000 => if x124 < x123 then (if 0 ≤ x124 then (if x124 < (x122.length : Int) then (if 0 ≤ (rd x122 x124) then (if (rd x122 x124) < (x4.length : Int) then (if rdOf false x4 (rd x122 x124) = true then (if 0 ≤ (wrap64 (x9 - 1)) then (if (wrap64 (x9 - 1)) < (x8.length : Int) then (if (rd x122 x124) = (rd x8 (wrap64 (x9 - 1))) then (assessorlaw17_FlowBlocks.l2 k x4 x5 x6 x8 x9 x59 x60 x61 x65 x66 x67 x122 x123 (wrap64 (x124 + 1)) x341000) else (some false)) else (none)) else (none)) else (assessorlaw17_FlowBlocks.l2 k x4 x5 x6 x8 x9 x59 x60 x61 x65 x66 x67 x122 x123 (wrap64 (x124 + 1)) x341000)) else (none)) else (none)) else (none)) else (none)) else (assessorlaw17_FlowBlocks.l1 k x4 x5 x6 x8 x59 x60 x61 x65 x66 (wrap64 (x67 + 1)) x341000)
end
def assessorlaw17_FlowBlocks.f (k : Nat) (l0_0 : List (S58)) : Option (Bool) := (assessorlaw17_awake.f).bind fun t341 => (if t341 = true then ((q_Small.f k l0_0 30).bind fun t342 => (if t342 = true then ((flow_Blocks.f k l0_0).bind fun t343 => ((flow_Reachable.f k l0_0).bind fun t346 => ((flow_Before.f k l0_0).bind fun t349 => ((q_Valid.f k l0_0).bind fun t352 => (if t352 = true then (if (t346.length : Int) = (l0_0.length : Int) then (assessorlaw17_FlowBlocks.j0 k t343 t346 t349 ((t349.length : Int) != (l0_0.length : Int)) l0_0) else (assessorlaw17_FlowBlocks.j0 k t343 t346 t349 true l0_0)) else (if (t343.length : Int) = 0 then (if (t346.length : Int) = 0 then (some ((t349.length : Int) == 0)) else (some false)) else (some false))))))) else (some true))) else (some false))
def assessorlaw17_FlowBlocks.T5 : Bool × List (List Nat × List Nat) := (true, [([], []), ([0], [0]), ([], []), ([2, 1], [2]), ([], []), ([4, 3], [4]), ([1, 5, 0, 1], [1]), ([3, 6, 0, 1, 2, 3, 6], [3]), ([5, 7, 0, 1, 2, 3, 4, 5, 6, 7], [5])])
def assessorlaw17_FlowBlocks.B5 : List Nat := [0, 1, 0, 7, 0, 31, 63, 127, 255]
theorem assessorlaw17_FlowBlocks.tab5 : rtab .any (opsOf Tryz.f6 5) = assessorlaw17_FlowBlocks.T5 := by kernel_rfl
theorem assessorlaw17_FlowBlocks.bits5 : waitsOk assessorlaw17_FlowBlocks.T5.2 assessorlaw17_FlowBlocks.B5 = true := by kernel_rfl
def assessorlaw17_FlowBlocks.T21 : Bool × List (List Nat × List Nat) := (true, [([], []), ([0], [0]), ([], []), ([], []), ([3], [3]), ([2, 4], [2, 4]), ([5], [5]), ([1, 6], [1, 6]), ([7], [7]), ([8], [8]), ([9, 0, 1, 2, 3, 4, 5, 6, 7, 8, 9], [9])])
def assessorlaw17_FlowBlocks.B21 : List Nat := [0, 1, 0, 0, 8, 28, 60, 127, 255, 511, 1023]
theorem assessorlaw17_FlowBlocks.tab21 : rtab .any (opsOf Tryz.f6 21) = assessorlaw17_FlowBlocks.T21 := by kernel_rfl
theorem assessorlaw17_FlowBlocks.bits21 : waitsOk assessorlaw17_FlowBlocks.T21.2 assessorlaw17_FlowBlocks.B21 = true := by kernel_rfl
set_option maxHeartbeats 8000000 in
set_option maxRecDepth 100000 in
theorem assessorlaw17_FlowBlocks.calls (k : Nat) (A0_0 : Option Addr) (c0_0 : Nat) (l0_0 : List (S58)) (r : Bool) (w : World) (hr0_0 : Kd.C k58 w A0_0 l0_0.length l0_0) (hc0_0 : l0_0.length ≤ c0_0) (h : assessorlaw17_FlowBlocks.f k l0_0 = some r) :
 Calls Tryz.prog 6 #[.agg #[.slice A0_0 l0_0.length c0_0]] w fun e w' => e = .returned (.bool r) ∧ Below w.heap.size w w' := by
 have hu36 := Tryz.underlying36
 have HR0_0 := am hr0_0
 have HC0_0 := am hc0_0
 clear hr0_0 hc0_0
 have HB := am (Below.refl w.heap.size w)
 have H : ((assessorlaw17_awake.f).bind fun t341 => (if t341 = true then ((q_Small.f k l0_0 30).bind fun t342 => (if t342 = true then ((flow_Blocks.f k l0_0).bind fun t343 => ((flow_Reachable.f k l0_0).bind fun t346 => ((flow_Before.f k l0_0).bind fun t349 => ((q_Valid.f k l0_0).bind fun t352 => (if t352 = true then (if (t346.length : Int) = (l0_0.length : Int) then (assessorlaw17_FlowBlocks.j0 k t343 t346 t349 ((t349.length : Int) != (l0_0.length : Int)) l0_0) else (assessorlaw17_FlowBlocks.j0 k t343 t346 t349 true l0_0)) else (if (t343.length : Int) = 0 then (if (t346.length : Int) = 0 then (some ((t349.length : Int) == 0)) else (some false)) else (some false))))))) else (some true))) else (some false))) = some r := h
 clear h
 replace H := Option.bind_eq_some_iff.mp H
 obtain ⟨t341, A20, H⟩ := H
 replace H : (if t341 = true then ((q_Small.f k l0_0 30).bind fun t342 => (if t342 = true then ((flow_Blocks.f k l0_0).bind fun t343 => ((flow_Reachable.f k l0_0).bind fun t346 => ((flow_Before.f k l0_0).bind fun t349 => ((q_Valid.f k l0_0).bind fun t352 => (if t352 = true then (if (t346.length : Int) = (l0_0.length : Int) then (assessorlaw17_FlowBlocks.j0 k t343 t346 t349 ((t349.length : Int) != (l0_0.length : Int)) l0_0) else (assessorlaw17_FlowBlocks.j0 k t343 t346 t349 true l0_0)) else (if (t343.length : Int) = 0 then (if (t346.length : Int) = 0 then (some ((t349.length : Int) == 0)) else (some false)) else (some false))))))) else (some true))) else (some false)) = some r := H
 have A2 := am A20
 clear A20
 by_cases c3 : t341 = true
 rotate_left
 ·replace c3 := Bool.eq_false_iff.mpr c3
  subst c3
  rw [if_neg (show ¬ (false = true) by decide)] at H
  obtain rfl := Option.some.inj H
  go_enter Tryz.func6, Tryz.ntmps6
  go_wp2_with (first | ((with_reducible refine gate_dst (N := 1) rfl ?_); (try (refine gate_guard (by rfl) ?_; dsimp only)); refine box_event ?hg (N := 1) ?hd (cs := #[.slice A0_0 l0_0.length c0_0]) (t := 36) ?hr ?_; (case hd => rfl); (case hg => rfl); (case hr => first | (go_simp; done) | (go_simp; rfl)); intro gb340 hg w136 hbox hb; have n0_ := am (below_step (HB.out) hb); have n1_ := am (hbox); have n2_ := am ((by rw [hg]; exact (below_size (HB.out)) : w.heap.size ≤ gb340)); have n3_ := am ((by rw [hg]; exact (below_size (HB.out)) : w.heap.size ≤ gb340)); clear HB; have HB := n0_; have BK340 := n1_; have GW340 := n2_; have GE340 := n3_; clear n0_ n1_ n2_ n3_; clear hb hbox hg) | ((with_reducible refine gate_callee (f := 7) rfl ?_); refine goesL_ (some 14) rfl rfl Tryz.func7 (by kernel_rfl) rfl #[] rfl (by (try simp only [List.map_toArray, List.map_cons, List.map_nil]); first | done | rfl | (simp only [List.length_drop, List.length_take]; rfl)) ?_; (with_reducible refine (assessorlaw17_awake.calls  false _ A2.out).mono ?_); rintro e w137 ⟨rfl, hb⟩; refine ⟨_, rfl, ?_⟩; have n0_ := am (blk_below (g := gb340) (o := .cells #[.slice A0_0 l0_0.length c0_0] 36 (0, 0)) (BK340.out) hb); have n1_ := am (below_step (HB.out) hb); clear BK340; clear HB; have BK340 := n0_; have HB := n1_; clear n0_ n1_; (try clear hb); (try clear hb2); (try clear hk); (try clear hi)))
  go_ret
  exact ⟨rfl, HB.out⟩
 subst c3
 rw [if_pos rfl] at H
 replace H := Option.bind_eq_some_iff.mp H
 obtain ⟨t342, A40, H⟩ := H
 replace H : (if t342 = true then ((flow_Blocks.f k l0_0).bind fun t343 => ((flow_Reachable.f k l0_0).bind fun t346 => ((flow_Before.f k l0_0).bind fun t349 => ((q_Valid.f k l0_0).bind fun t352 => (if t352 = true then (if (t346.length : Int) = (l0_0.length : Int) then (assessorlaw17_FlowBlocks.j0 k t343 t346 t349 ((t349.length : Int) != (l0_0.length : Int)) l0_0) else (assessorlaw17_FlowBlocks.j0 k t343 t346 t349 true l0_0)) else (if (t343.length : Int) = 0 then (if (t346.length : Int) = 0 then (some ((t349.length : Int) == 0)) else (some false)) else (some false))))))) else (some true)) = some r := H
 have A4 := am A40
 clear A40
 by_cases c5 : t342 = true
 rotate_left
 ·replace c5 := Bool.eq_false_iff.mpr c5
  subst c5
  rw [if_neg (show ¬ (false = true) by decide)] at H
  obtain rfl := Option.some.inj H
  go_enter Tryz.func6, Tryz.ntmps6
  go_wp2_with (first | ((with_reducible refine gate_dst (N := 1) rfl ?_); (try (refine gate_guard (by rfl) ?_; dsimp only)); refine box_event ?hg (N := 1) ?hd (cs := #[.slice A0_0 l0_0.length c0_0]) (t := 36) ?hr ?_; (case hd => rfl); (case hg => rfl); (case hr => first | (go_simp; done) | (go_simp; rfl)); intro gb340 hg w132 hbox hb; have n0_ := am (below_step (HB.out) hb); have n1_ := am (hbox); have n2_ := am ((by rw [hg]; exact (below_size (HB.out)) : w.heap.size ≤ gb340)); have n3_ := am ((by rw [hg]; exact (below_size (HB.out)) : w.heap.size ≤ gb340)); clear HB; have HB := n0_; have BK340 := n1_; have GW340 := n2_; have GE340 := n3_; clear n0_ n1_ n2_ n3_; clear hb hbox hg) | ((with_reducible refine gate_callee (f := 7) rfl ?_); refine goesL_ (some 14) rfl rfl Tryz.func7 (by kernel_rfl) rfl #[] rfl (by (try simp only [List.map_toArray, List.map_cons, List.map_nil]); first | done | rfl | (simp only [List.length_drop, List.length_take]; rfl)) ?_; (with_reducible refine (assessorlaw17_awake.calls  true _ A2.out).mono ?_); rintro e w133 ⟨rfl, hb⟩; refine ⟨_, rfl, ?_⟩; have n0_ := am (blk_below (g := gb340) (o := .cells #[.slice A0_0 l0_0.length c0_0] 36 (0, 0)) (BK340.out) hb); have n1_ := am (below_step (HB.out) hb); clear BK340; clear HB; have BK340 := n0_; have HB := n1_; clear n0_ n1_; (try clear hb); (try clear hb2); (try clear hk); (try clear hi); have hcz134_0 : w133.cell? ⟨gb340, 0, none⟩ = some (.slice A0_0 l0_0.length c0_0) := (blk_cell BK340.out 0).trans rfl; have hfz134_0 := blk_frozen BK340.out 0) | ((with_reducible refine gate_callee (f := 12) rfl ?_); refine goesL_ (some 17) rfl rfl Tryz.func12 (by kernel_rfl) rfl #[.agg #[.slice A0_0 l0_0.length c0_0], .int .i64 30] rfl (by (try simp only [List.map_toArray, List.map_cons, List.map_nil]); first | done | rfl | (simp only [List.length_drop, List.length_take]; rfl)) ?_; (with_reducible refine (q_Small.calls k _ _ l0_0 30 false _ ?side1 ?side2 A4.out).mono ?_); (case side1 => repeat (first | exact (Kd.C_below HR0_0.out HB.out) | (with_reducible refine Kd.C_alloc ?_ _) | (with_reducible refine Kd.C_drewN ?_ _) | (with_reducible refine Kd.C_drew ?_))); (case side2 => exact HC0_0.out); rintro e w135 ⟨rfl, hb⟩; refine ⟨_, rfl, ?_⟩; have n0_ := am (blk_below (g := gb340) (o := .cells #[.slice A0_0 l0_0.length c0_0] 36 (0, 0)) (BK340.out) hb); have n1_ := am (below_step (HB.out) hb); clear BK340; clear HB; have BK340 := n0_; have HB := n1_; clear n0_ n1_; (try clear hb); (try clear hb2); (try clear hk); (try clear hi)))
  go_ret
  exact ⟨rfl, HB.out⟩
 subst c5
 rw [if_pos rfl] at H
 replace H := Option.bind_eq_some_iff.mp H
 obtain ⟨t343, A60, H⟩ := H
 replace H : ((flow_Reachable.f k l0_0).bind fun t346 => ((flow_Before.f k l0_0).bind fun t349 => ((q_Valid.f k l0_0).bind fun t352 => (if t352 = true then (if (t346.length : Int) = (l0_0.length : Int) then (assessorlaw17_FlowBlocks.j0 k t343 t346 t349 ((t349.length : Int) != (l0_0.length : Int)) l0_0) else (assessorlaw17_FlowBlocks.j0 k t343 t346 t349 true l0_0)) else (if (t343.length : Int) = 0 then (if (t346.length : Int) = 0 then (some ((t349.length : Int) == 0)) else (some false)) else (some false)))))) = some r := H
 have A6 := am A60
 clear A60
 replace H := Option.bind_eq_some_iff.mp H
 obtain ⟨t346, A70, H⟩ := H
 replace H : ((flow_Before.f k l0_0).bind fun t349 => ((q_Valid.f k l0_0).bind fun t352 => (if t352 = true then (if (t346.length : Int) = (l0_0.length : Int) then (assessorlaw17_FlowBlocks.j0 k t343 t346 t349 ((t349.length : Int) != (l0_0.length : Int)) l0_0) else (assessorlaw17_FlowBlocks.j0 k t343 t346 t349 true l0_0)) else (if (t343.length : Int) = 0 then (if (t346.length : Int) = 0 then (some ((t349.length : Int) == 0)) else (some false)) else (some false))))) = some r := H
 have A7 := am A70
 clear A70
 replace H := Option.bind_eq_some_iff.mp H
 obtain ⟨t349, A80, H⟩ := H
 replace H : ((q_Valid.f k l0_0).bind fun t352 => (if t352 = true then (if (t346.length : Int) = (l0_0.length : Int) then (assessorlaw17_FlowBlocks.j0 k t343 t346 t349 ((t349.length : Int) != (l0_0.length : Int)) l0_0) else (assessorlaw17_FlowBlocks.j0 k t343 t346 t349 true l0_0)) else (if (t343.length : Int) = 0 then (if (t346.length : Int) = 0 then (some ((t349.length : Int) == 0)) else (some false)) else (some false)))) = some r := H
 have A8 := am A80
 clear A80
 replace H := Option.bind_eq_some_iff.mp H
 obtain ⟨t352, A90, H⟩ := H
 replace H : (if t352 = true then (if (t346.length : Int) = (l0_0.length : Int) then (assessorlaw17_FlowBlocks.j0 k t343 t346 t349 ((t349.length : Int) != (l0_0.length : Int)) l0_0) else (assessorlaw17_FlowBlocks.j0 k t343 t346 t349 true l0_0)) else (if (t343.length : Int) = 0 then (if (t346.length : Int) = 0 then (some ((t349.length : Int) == 0)) else (some false)) else (some false))) = some r := H
 have A9 := am A90
 clear A90
 by_cases c10 : t352 = true
 rotate_left
 ·replace c10 := Bool.eq_false_iff.mpr c10
  subst c10
  rw [if_neg (show ¬ (false = true) by decide)] at H
  by_cases c94 : (t343.length : Int) = 0
  rotate_left
  ·rw [if_neg c94] at H
   have c94b0 : ((t343.length : Int) == 0) = false := beq_eq_false_iff_ne.mpr c94
   have c94b1 : ((t343.length : Int) != 0) = true := bne_iff_ne.mpr c94
   have c94b2 : ¬ (t343 = []) := fun h_ => c94 (by rw [h_]; rfl)
   obtain rfl := Option.some.inj H
   go_enter Tryz.func6, Tryz.ntmps6
   try go_wp2_with (first | ((with_reducible refine gate_dst (N := 1) rfl ?_); (try (refine gate_guard (by rfl) ?_; dsimp only)); refine box_event ?hg (N := 1) ?hd (cs := #[.slice A0_0 l0_0.length c0_0]) (t := 36) ?hr ?_; (case hd => rfl); (case hg => rfl); (case hr => first | (go_simp; done) | (go_simp; rfl)); intro gb340 hg w121 hbox hb; have n0_ := am (below_step (HB.out) hb); have n1_ := am (hbox); have n2_ := am ((by rw [hg]; exact (below_size (HB.out)) : w.heap.size ≤ gb340)); have n3_ := am ((by rw [hg]; exact (below_size (HB.out)) : w.heap.size ≤ gb340)); clear HB; have HB := n0_; have BK340 := n1_; have GW340 := n2_; have GE340 := n3_; clear n0_ n1_ n2_ n3_; clear hb hbox hg) | ((with_reducible refine gate_callee (f := 7) rfl ?_); refine goesL_ (some 14) rfl rfl Tryz.func7 (by kernel_rfl) rfl #[] rfl (by (try simp only [List.map_toArray, List.map_cons, List.map_nil]); first | done | rfl | (simp only [List.length_drop, List.length_take]; rfl)) ?_; (with_reducible refine (assessorlaw17_awake.calls  true _ A2.out).mono ?_); rintro e w122 ⟨rfl, hb⟩; refine ⟨_, rfl, ?_⟩; have n0_ := am (blk_below (g := gb340) (o := .cells #[.slice A0_0 l0_0.length c0_0] 36 (0, 0)) (BK340.out) hb); have n1_ := am (below_step (HB.out) hb); clear BK340; clear HB; have BK340 := n0_; have HB := n1_; clear n0_ n1_; (try clear hb); (try clear hb2); (try clear hk); (try clear hi); have hcz123_0 : w122.cell? ⟨gb340, 0, none⟩ = some (.slice A0_0 l0_0.length c0_0) := (blk_cell BK340.out 0).trans rfl; have hfz123_0 := blk_frozen BK340.out 0) | ((with_reducible refine gate_callee (f := 12) rfl ?_); refine goesL_ (some 17) rfl rfl Tryz.func12 (by kernel_rfl) rfl #[.agg #[.slice A0_0 l0_0.length c0_0], .int .i64 30] rfl (by (try simp only [List.map_toArray, List.map_cons, List.map_nil]); first | done | rfl | (simp only [List.length_drop, List.length_take]; rfl)) ?_; (with_reducible refine (q_Small.calls k _ _ l0_0 30 true _ ?side1 ?side2 A4.out).mono ?_); (case side1 => repeat (first | exact (Kd.C_below HR0_0.out HB.out) | (with_reducible refine Kd.C_alloc ?_ _) | (with_reducible refine Kd.C_drewN ?_ _) | (with_reducible refine Kd.C_drew ?_))); (case side2 => exact HC0_0.out); rintro e w124 ⟨rfl, hb⟩; refine ⟨_, rfl, ?_⟩; have n0_ := am (blk_below (g := gb340) (o := .cells #[.slice A0_0 l0_0.length c0_0] 36 (0, 0)) (BK340.out) hb); have n1_ := am (below_step (HB.out) hb); clear BK340; clear HB; have BK340 := n0_; have HB := n1_; clear n0_ n1_; (try clear hb); (try clear hb2); (try clear hk); (try clear hi)))
   have n0_ := am (blk_drew BK340.out)
   have n1_ := am (below_drew1 HB.out)
   clear BK340 HB
   have BK340 := n0_
   have HB := n1_
   clear n0_ n1_
   refine start_ (n := 9) (S := fun w' => w'.cell? ⟨gb340, 0, none⟩ = some (.slice A0_0 l0_0.length c0_0)) (ds := []) #[false, false, false, false, false, false, false, false, false] (by kernel_rfl) rfl rfl ((blk_cell BK340.out 0).trans rfl) (fun hHeld => ?_); refine with_tabW assessorlaw17_FlowBlocks.tab5 assessorlaw17_FlowBlocks.bits5 (fun HT_ HW_ => ?_)
   generalize w124.drew = w125 at BK340 HB hHeld ⊢
   refine take_ (i := 0) (N := some 19) (v := ?_) (a' := ?_) #[true, false, false, false, false, false, false, false, false] rfl rfl (take_ofW HT_.out HW_.out (by kernel_rfl)) (fun _ _ _ h => h) (Or.inl ⟨by rfl, ?_⟩) hHeld ?_ ?_
   rotate_left
   ·intro w' s0
    go_simp
    with_reducible rfl
   rotate_left
   ·simp only [Act.put, List.setIfInBounds_toArray, List.set_cons_zero, List.set_cons_succ, i64_w, i32_w]
    rfl
   refine take_ (i := 2) (N := some 21) (v := ?_) (a' := ?_) #[true, false, true, false, false, false, false, false, false] rfl rfl (take_ofW HT_.out HW_.out (by kernel_rfl)) (fun _ _ _ h => h) (Or.inl ⟨by rfl, ?_⟩) hHeld ?_ ?_
   rotate_left
   ·intro w' s0
    go_simp
    with_reducible rfl
   rotate_left
   ·simp only [Act.put, List.setIfInBounds_toArray, List.set_cons_zero, List.set_cons_succ, i64_w, i32_w]
    rfl
   refine take_ (i := 4) (N := some 23) (v := ?_) (a' := ?_) #[true, false, true, false, true, false, false, false, false] rfl rfl (take_ofW HT_.out HW_.out (by kernel_rfl)) (fun _ _ _ h => h) (Or.inl ⟨by rfl, ?_⟩) hHeld ?_ ?_
   rotate_left
   ·intro w' s0
    go_simp
    with_reducible rfl
   rotate_left
   ·simp only [Act.put, List.setIfInBounds_toArray, List.set_cons_zero, List.set_cons_succ, i64_w, i32_w]
    rfl
   refine one_ (i := 1) (N := some 20) #[true, true, true, false, true, false, false, false, false] rfl rfl (one_of HT_.out (by kernel_rfl)) (by decide) (fun K hK => ?_)
   refine goes_ Tryz.func22 (by kernel_rfl) rfl #[.agg #[.slice A0_0 l0_0.length c0_0]] (by rfl) rfl rfl (by (try simp only [List.map_toArray, List.map_cons, List.map_nil]); first | done | rfl | (simp only [List.length_drop, List.length_take]; rfl)) ?_
   with_reducible refine (flow_Blocks.calls k _ _ l0_0 t343 _ ?side1 ?side2 A6.out).mono ?_
   (case side1 => repeat (first | exact (Kd.C_below HR0_0.out HB.out) | (with_reducible refine Kd.C_alloc ?_ _) | (with_reducible refine Kd.C_drewN ?_ _) | (with_reducible refine Kd.C_drew ?_)))
   (case side2 => exact HC0_0.out)
   rintro e w126 ⟨v344, rfl, ho0, hb⟩
   refine ⟨_, rfl, ?_⟩
   have n0_ := am (Kd.S_lower ho0 (below_size (HB.out)))
   have n1_ := am (blk_below (g := gb340) (o := .cells #[.slice A0_0 l0_0.length c0_0] 36 (0, 0)) (BK340.out) hb)
   have n2_ := am (below_step (HB.out) hb)
   clear BK340 HB
   have HO345 := n0_
   have BK340 := n1_
   have HB := n2_
   clear n0_ n1_ n2_
   (try clear hb)
   (try clear hb2)
   (try clear hk)
   (try clear hi)
   (try clear ho0)
   refine hK.out _ _ ((blk_cell BK340.out 0).trans rfl) (fun hHeld => ?_)
   clear hK K
   refine norm_ (a' := ?_) ?_ ?_
   rotate_left
   ·show Act.put _ (some 20) _ = _
    simp only [Act.put, List.setIfInBounds_toArray, List.set_cons_zero, List.set_cons_succ, i64_w, i32_w]
    rfl
   refine one_ (i := 3) (N := some 22) #[true, true, true, true, true, false, false, false, false] rfl rfl (one_of HT_.out (by kernel_rfl)) (by decide) (fun K hK => ?_)
   refine goes_ Tryz.func20 (by kernel_rfl) rfl #[.agg #[.slice A0_0 l0_0.length c0_0]] (by rfl) rfl rfl (by (try simp only [List.map_toArray, List.map_cons, List.map_nil]); first | done | rfl | (simp only [List.length_drop, List.length_take]; rfl)) ?_
   with_reducible refine (flow_Reachable.calls k _ _ l0_0 t346 _ ?side1 ?side2 A7.out).mono ?_
   (case side1 => repeat (first | exact (Kd.C_below HR0_0.out HB.out) | (with_reducible refine Kd.C_alloc ?_ _) | (with_reducible refine Kd.C_drewN ?_ _) | (with_reducible refine Kd.C_drew ?_)))
   (case side2 => exact HC0_0.out)
   rintro e w127 ⟨v347, rfl, ho0, hb⟩
   refine ⟨_, rfl, ?_⟩
   have n0_ := am (Kd.S_below (HO345.out) hb)
   have n1_ := am (Kd.R_lower ho0 (below_size (HB.out)))
   have n2_ := am (blk_below (g := gb340) (o := .cells #[.slice A0_0 l0_0.length c0_0] 36 (0, 0)) (BK340.out) hb)
   have n3_ := am (below_step (HB.out) hb)
   clear HO345 BK340 HB
   have HO345 := n0_
   have HO348 := n1_
   have BK340 := n2_
   have HB := n3_
   clear n0_ n1_ n2_ n3_
   (try clear hb)
   (try clear hb2)
   (try clear hk)
   (try clear hi)
   (try clear ho0)
   refine hK.out _ _ ((blk_cell BK340.out 0).trans rfl) (fun hHeld => ?_)
   clear hK K
   refine norm_ (a' := ?_) ?_ ?_
   rotate_left
   ·show Act.put _ (some 22) _ = _
    simp only [Act.put, List.setIfInBounds_toArray, List.set_cons_zero, List.set_cons_succ, i64_w, i32_w]
    rfl
   refine one_ (i := 5) (N := some 24) #[true, true, true, true, true, true, false, false, false] rfl rfl (one_of HT_.out (by kernel_rfl)) (by decide) (fun K hK => ?_)
   refine goes_ Tryz.func17 (by kernel_rfl) rfl #[.agg #[.slice A0_0 l0_0.length c0_0]] (by rfl) rfl rfl (by (try simp only [List.map_toArray, List.map_cons, List.map_nil]); first | done | rfl | (simp only [List.length_drop, List.length_take]; rfl)) ?_
   with_reducible refine (flow_Before.calls k _ _ l0_0 t349 _ ?side1 ?side2 A8.out).mono ?_
   (case side1 => repeat (first | exact (Kd.C_below HR0_0.out HB.out) | (with_reducible refine Kd.C_alloc ?_ _) | (with_reducible refine Kd.C_drewN ?_ _) | (with_reducible refine Kd.C_drew ?_)))
   (case side2 => exact HC0_0.out)
   rintro e w128 ⟨v350, rfl, ho0, hb⟩
   refine ⟨_, rfl, ?_⟩
   have n0_ := am (Kd.S_elder' (HO345.out) (Kd.S_base ho0) hb)
   have n1_ := am (Kd.R_below (HO348.out) hb)
   have n2_ := am (Kd.S_lower (Kd.S_new' ho0 (Kd.S_lt (HO345.out))) (below_size (HB.out)))
   have n3_ := am (blk_below (g := gb340) (o := .cells #[.slice A0_0 l0_0.length c0_0] 36 (0, 0)) (BK340.out) hb)
   have n4_ := am (below_step (HB.out) hb)
   clear HO345 HO348 BK340 HB
   have HO345 := n0_
   have HO348 := n1_
   have HO351 := n2_
   have BK340 := n3_
   have HB := n4_
   clear n0_ n1_ n2_ n3_ n4_
   (try clear hb)
   (try clear hb2)
   (try clear hk)
   (try clear hi)
   (try clear ho0)
   refine hK.out _ _ ((blk_cell BK340.out 0).trans rfl) (fun hHeld => ?_)
   clear hK K
   refine norm_ (a' := ?_) ?_ ?_
   rotate_left
   ·show Act.put _ (some 24) _ = _
    simp only [Act.put, List.setIfInBounds_toArray, List.set_cons_zero, List.set_cons_succ, i64_w, i32_w]
    rfl
   refine pure_ (i := 6) (N := some 3) (v := ?_) (a' := ?_) #[true, true, true, true, true, true, true, false, false] rfl rfl (any_of HT_.out (by kernel_rfl)) (fun _ _ _ h => h) (Or.inl ⟨by rfl, ?_⟩) ?_ ?_
   rotate_left
   ·intro w'
    go_simp
    with_reducible rfl
   rotate_left
   ·simp only [Act.put, List.setIfInBounds_toArray, List.set_cons_zero, List.set_cons_succ, i64_w, i32_w]
    rfl
   refine pure_ (i := 7) (N := some 4) (v := ?_) (a' := ?_) #[true, true, true, true, true, true, true, true, false] rfl rfl (any_of HT_.out (by kernel_rfl)) (fun _ _ _ h => h) (Or.inl ⟨by rfl, ?_⟩) ?_ ?_
   rotate_left
   ·intro w'
    go_simp
    with_reducible rfl
   rotate_left
   ·simp only [Act.put, List.setIfInBounds_toArray, List.set_cons_zero, List.set_cons_succ, i64_w, i32_w]
    rfl
   refine pure_ (i := 8) (N := some 5) (v := ?_) (a' := ?_) #[true, true, true, true, true, true, true, true, true] rfl rfl (any_of HT_.out (by kernel_rfl)) (fun _ _ _ h => h) (Or.inl ⟨by rfl, ?_⟩) ?_ ?_
   rotate_left
   ·intro w'
    go_simp
    with_reducible rfl
   rotate_left
   ·simp only [Act.put, List.setIfInBounds_toArray, List.set_cons_zero, List.set_cons_succ, i64_w, i32_w]
    rfl
   refine done_ (done_of HT_.out (by kernel_rfl)) ?_
   have hcz129_0 : w128.cell? ⟨gb340, 0, none⟩ = some (.slice A0_0 l0_0.length c0_0) := (blk_cell BK340.out 0).trans rfl
   have hfz129_0 := blk_frozen BK340.out 0
   try go_wp2_with (first | ((with_reducible refine gate_callee (f := 24) rfl ?_); refine goesL_ (some 26) rfl rfl Tryz.func24 (by kernel_rfl) rfl #[.agg #[.slice A0_0 l0_0.length c0_0]] rfl (by (try simp only [List.map_toArray, List.map_cons, List.map_nil]); first | done | rfl | (simp only [List.length_drop, List.length_take]; rfl)) ?_; (with_reducible refine (q_Valid.calls k _ _ l0_0 false _ ?side1 ?side2 A9.out).mono ?_); (case side1 => repeat (first | exact (Kd.C_below HR0_0.out HB.out) | (with_reducible refine Kd.C_alloc ?_ _) | (with_reducible refine Kd.C_drewN ?_ _) | (with_reducible refine Kd.C_drew ?_))); (case side2 => exact HC0_0.out); rintro e w130 ⟨rfl, hb⟩; refine ⟨_, rfl, ?_⟩; have n0_ := am (Kd.S_below (HO345.out) hb); have n1_ := am (Kd.R_below (HO348.out) hb); have n2_ := am (Kd.S_below (HO351.out) hb); have n3_ := am (blk_below (g := gb340) (o := .cells #[.slice A0_0 l0_0.length c0_0] 36 (0, 0)) (BK340.out) hb); have n4_ := am (below_step (HB.out) hb); clear HO345; clear HO348; clear HO351; clear BK340; clear HB; have HO345 := n0_; have HO348 := n1_; have HO351 := n2_; have BK340 := n3_; have HB := n4_; clear n0_ n1_ n2_ n3_ n4_; (try clear hb); (try clear hb2); (try clear hk); (try clear hi); obtain ⟨Ao131, co131, eo131⟩ := Kd.S_slice HO345.out; subst eo131))
   go_ret
   exact ⟨rfl, HB.out⟩
  rw [if_pos c94] at H
  have c94b0 : ((t343.length : Int) == 0) = true := beq_iff_eq.mpr c94
  have c94b1 : ((t343.length : Int) != 0) = false := bne_eq_false_iff_eq.mpr c94
  clear c94
  by_cases c95 : (t346.length : Int) = 0
  rotate_left
  ·rw [if_neg c95] at H
   have c95b0 : ((t346.length : Int) == 0) = false := beq_eq_false_iff_ne.mpr c95
   have c95b1 : ((t346.length : Int) != 0) = true := bne_iff_ne.mpr c95
   have c95b2 : ¬ (t346 = []) := fun h_ => c95 (by rw [h_]; rfl)
   obtain rfl := Option.some.inj H
   go_enter Tryz.func6, Tryz.ntmps6
   try go_wp2_with (first | ((with_reducible refine gate_dst (N := 1) rfl ?_); (try (refine gate_guard (by rfl) ?_; dsimp only)); refine box_event ?hg (N := 1) ?hd (cs := #[.slice A0_0 l0_0.length c0_0]) (t := 36) ?hr ?_; (case hd => rfl); (case hg => rfl); (case hr => first | (go_simp; done) | (go_simp; rfl)); intro gb340 hg w109 hbox hb; have n0_ := am (below_step (HB.out) hb); have n1_ := am (hbox); have n2_ := am ((by rw [hg]; exact (below_size (HB.out)) : w.heap.size ≤ gb340)); have n3_ := am ((by rw [hg]; exact (below_size (HB.out)) : w.heap.size ≤ gb340)); clear HB; have HB := n0_; have BK340 := n1_; have GW340 := n2_; have GE340 := n3_; clear n0_ n1_ n2_ n3_; clear hb hbox hg) | ((with_reducible refine gate_callee (f := 7) rfl ?_); refine goesL_ (some 14) rfl rfl Tryz.func7 (by kernel_rfl) rfl #[] rfl (by (try simp only [List.map_toArray, List.map_cons, List.map_nil]); first | done | rfl | (simp only [List.length_drop, List.length_take]; rfl)) ?_; (with_reducible refine (assessorlaw17_awake.calls  true _ A2.out).mono ?_); rintro e w110 ⟨rfl, hb⟩; refine ⟨_, rfl, ?_⟩; have n0_ := am (blk_below (g := gb340) (o := .cells #[.slice A0_0 l0_0.length c0_0] 36 (0, 0)) (BK340.out) hb); have n1_ := am (below_step (HB.out) hb); clear BK340; clear HB; have BK340 := n0_; have HB := n1_; clear n0_ n1_; (try clear hb); (try clear hb2); (try clear hk); (try clear hi); have hcz111_0 : w110.cell? ⟨gb340, 0, none⟩ = some (.slice A0_0 l0_0.length c0_0) := (blk_cell BK340.out 0).trans rfl; have hfz111_0 := blk_frozen BK340.out 0) | ((with_reducible refine gate_callee (f := 12) rfl ?_); refine goesL_ (some 17) rfl rfl Tryz.func12 (by kernel_rfl) rfl #[.agg #[.slice A0_0 l0_0.length c0_0], .int .i64 30] rfl (by (try simp only [List.map_toArray, List.map_cons, List.map_nil]); first | done | rfl | (simp only [List.length_drop, List.length_take]; rfl)) ?_; (with_reducible refine (q_Small.calls k _ _ l0_0 30 true _ ?side1 ?side2 A4.out).mono ?_); (case side1 => repeat (first | exact (Kd.C_below HR0_0.out HB.out) | (with_reducible refine Kd.C_alloc ?_ _) | (with_reducible refine Kd.C_drewN ?_ _) | (with_reducible refine Kd.C_drew ?_))); (case side2 => exact HC0_0.out); rintro e w112 ⟨rfl, hb⟩; refine ⟨_, rfl, ?_⟩; have n0_ := am (blk_below (g := gb340) (o := .cells #[.slice A0_0 l0_0.length c0_0] 36 (0, 0)) (BK340.out) hb); have n1_ := am (below_step (HB.out) hb); clear BK340; clear HB; have BK340 := n0_; have HB := n1_; clear n0_ n1_; (try clear hb); (try clear hb2); (try clear hk); (try clear hi)))
   have n0_ := am (blk_drew BK340.out)
   have n1_ := am (below_drew1 HB.out)
   clear BK340 HB
   have BK340 := n0_
   have HB := n1_
   clear n0_ n1_
   refine start_ (n := 9) (S := fun w' => w'.cell? ⟨gb340, 0, none⟩ = some (.slice A0_0 l0_0.length c0_0)) (ds := []) #[false, false, false, false, false, false, false, false, false] (by kernel_rfl) rfl rfl ((blk_cell BK340.out 0).trans rfl) (fun hHeld => ?_); refine with_tabW assessorlaw17_FlowBlocks.tab5 assessorlaw17_FlowBlocks.bits5 (fun HT_ HW_ => ?_)
   generalize w112.drew = w113 at BK340 HB hHeld ⊢
   refine take_ (i := 0) (N := some 19) (v := ?_) (a' := ?_) #[true, false, false, false, false, false, false, false, false] rfl rfl (take_ofW HT_.out HW_.out (by kernel_rfl)) (fun _ _ _ h => h) (Or.inl ⟨by rfl, ?_⟩) hHeld ?_ ?_
   rotate_left
   ·intro w' s0
    go_simp
    with_reducible rfl
   rotate_left
   ·simp only [Act.put, List.setIfInBounds_toArray, List.set_cons_zero, List.set_cons_succ, i64_w, i32_w]
    rfl
   refine take_ (i := 2) (N := some 21) (v := ?_) (a' := ?_) #[true, false, true, false, false, false, false, false, false] rfl rfl (take_ofW HT_.out HW_.out (by kernel_rfl)) (fun _ _ _ h => h) (Or.inl ⟨by rfl, ?_⟩) hHeld ?_ ?_
   rotate_left
   ·intro w' s0
    go_simp
    with_reducible rfl
   rotate_left
   ·simp only [Act.put, List.setIfInBounds_toArray, List.set_cons_zero, List.set_cons_succ, i64_w, i32_w]
    rfl
   refine take_ (i := 4) (N := some 23) (v := ?_) (a' := ?_) #[true, false, true, false, true, false, false, false, false] rfl rfl (take_ofW HT_.out HW_.out (by kernel_rfl)) (fun _ _ _ h => h) (Or.inl ⟨by rfl, ?_⟩) hHeld ?_ ?_
   rotate_left
   ·intro w' s0
    go_simp
    with_reducible rfl
   rotate_left
   ·simp only [Act.put, List.setIfInBounds_toArray, List.set_cons_zero, List.set_cons_succ, i64_w, i32_w]
    rfl
   refine one_ (i := 1) (N := some 20) #[true, true, true, false, true, false, false, false, false] rfl rfl (one_of HT_.out (by kernel_rfl)) (by decide) (fun K hK => ?_)
   refine goes_ Tryz.func22 (by kernel_rfl) rfl #[.agg #[.slice A0_0 l0_0.length c0_0]] (by rfl) rfl rfl (by (try simp only [List.map_toArray, List.map_cons, List.map_nil]); first | done | rfl | (simp only [List.length_drop, List.length_take]; rfl)) ?_
   with_reducible refine (flow_Blocks.calls k _ _ l0_0 t343 _ ?side1 ?side2 A6.out).mono ?_
   (case side1 => repeat (first | exact (Kd.C_below HR0_0.out HB.out) | (with_reducible refine Kd.C_alloc ?_ _) | (with_reducible refine Kd.C_drewN ?_ _) | (with_reducible refine Kd.C_drew ?_)))
   (case side2 => exact HC0_0.out)
   rintro e w114 ⟨v344, rfl, ho0, hb⟩
   refine ⟨_, rfl, ?_⟩
   have n0_ := am (Kd.S_lower ho0 (below_size (HB.out)))
   have n1_ := am (blk_below (g := gb340) (o := .cells #[.slice A0_0 l0_0.length c0_0] 36 (0, 0)) (BK340.out) hb)
   have n2_ := am (below_step (HB.out) hb)
   clear BK340 HB
   have HO345 := n0_
   have BK340 := n1_
   have HB := n2_
   clear n0_ n1_ n2_
   (try clear hb)
   (try clear hb2)
   (try clear hk)
   (try clear hi)
   (try clear ho0)
   refine hK.out _ _ ((blk_cell BK340.out 0).trans rfl) (fun hHeld => ?_)
   clear hK K
   refine norm_ (a' := ?_) ?_ ?_
   rotate_left
   ·show Act.put _ (some 20) _ = _
    simp only [Act.put, List.setIfInBounds_toArray, List.set_cons_zero, List.set_cons_succ, i64_w, i32_w]
    rfl
   refine one_ (i := 3) (N := some 22) #[true, true, true, true, true, false, false, false, false] rfl rfl (one_of HT_.out (by kernel_rfl)) (by decide) (fun K hK => ?_)
   refine goes_ Tryz.func20 (by kernel_rfl) rfl #[.agg #[.slice A0_0 l0_0.length c0_0]] (by rfl) rfl rfl (by (try simp only [List.map_toArray, List.map_cons, List.map_nil]); first | done | rfl | (simp only [List.length_drop, List.length_take]; rfl)) ?_
   with_reducible refine (flow_Reachable.calls k _ _ l0_0 t346 _ ?side1 ?side2 A7.out).mono ?_
   (case side1 => repeat (first | exact (Kd.C_below HR0_0.out HB.out) | (with_reducible refine Kd.C_alloc ?_ _) | (with_reducible refine Kd.C_drewN ?_ _) | (with_reducible refine Kd.C_drew ?_)))
   (case side2 => exact HC0_0.out)
   rintro e w115 ⟨v347, rfl, ho0, hb⟩
   refine ⟨_, rfl, ?_⟩
   have n0_ := am (Kd.S_below (HO345.out) hb)
   have n1_ := am (Kd.R_lower ho0 (below_size (HB.out)))
   have n2_ := am (blk_below (g := gb340) (o := .cells #[.slice A0_0 l0_0.length c0_0] 36 (0, 0)) (BK340.out) hb)
   have n3_ := am (below_step (HB.out) hb)
   clear HO345 BK340 HB
   have HO345 := n0_
   have HO348 := n1_
   have BK340 := n2_
   have HB := n3_
   clear n0_ n1_ n2_ n3_
   (try clear hb)
   (try clear hb2)
   (try clear hk)
   (try clear hi)
   (try clear ho0)
   refine hK.out _ _ ((blk_cell BK340.out 0).trans rfl) (fun hHeld => ?_)
   clear hK K
   refine norm_ (a' := ?_) ?_ ?_
   rotate_left
   ·show Act.put _ (some 22) _ = _
    simp only [Act.put, List.setIfInBounds_toArray, List.set_cons_zero, List.set_cons_succ, i64_w, i32_w]
    rfl
   refine one_ (i := 5) (N := some 24) #[true, true, true, true, true, true, false, false, false] rfl rfl (one_of HT_.out (by kernel_rfl)) (by decide) (fun K hK => ?_)
   refine goes_ Tryz.func17 (by kernel_rfl) rfl #[.agg #[.slice A0_0 l0_0.length c0_0]] (by rfl) rfl rfl (by (try simp only [List.map_toArray, List.map_cons, List.map_nil]); first | done | rfl | (simp only [List.length_drop, List.length_take]; rfl)) ?_
   with_reducible refine (flow_Before.calls k _ _ l0_0 t349 _ ?side1 ?side2 A8.out).mono ?_
   (case side1 => repeat (first | exact (Kd.C_below HR0_0.out HB.out) | (with_reducible refine Kd.C_alloc ?_ _) | (with_reducible refine Kd.C_drewN ?_ _) | (with_reducible refine Kd.C_drew ?_)))
   (case side2 => exact HC0_0.out)
   rintro e w116 ⟨v350, rfl, ho0, hb⟩
   refine ⟨_, rfl, ?_⟩
   have n0_ := am (Kd.S_elder' (HO345.out) (Kd.S_base ho0) hb)
   have n1_ := am (Kd.R_below (HO348.out) hb)
   have n2_ := am (Kd.S_lower (Kd.S_new' ho0 (Kd.S_lt (HO345.out))) (below_size (HB.out)))
   have n3_ := am (blk_below (g := gb340) (o := .cells #[.slice A0_0 l0_0.length c0_0] 36 (0, 0)) (BK340.out) hb)
   have n4_ := am (below_step (HB.out) hb)
   clear HO345 HO348 BK340 HB
   have HO345 := n0_
   have HO348 := n1_
   have HO351 := n2_
   have BK340 := n3_
   have HB := n4_
   clear n0_ n1_ n2_ n3_ n4_
   (try clear hb)
   (try clear hb2)
   (try clear hk)
   (try clear hi)
   (try clear ho0)
   refine hK.out _ _ ((blk_cell BK340.out 0).trans rfl) (fun hHeld => ?_)
   clear hK K
   refine norm_ (a' := ?_) ?_ ?_
   rotate_left
   ·show Act.put _ (some 24) _ = _
    simp only [Act.put, List.setIfInBounds_toArray, List.set_cons_zero, List.set_cons_succ, i64_w, i32_w]
    rfl
   refine pure_ (i := 6) (N := some 3) (v := ?_) (a' := ?_) #[true, true, true, true, true, true, true, false, false] rfl rfl (any_of HT_.out (by kernel_rfl)) (fun _ _ _ h => h) (Or.inl ⟨by rfl, ?_⟩) ?_ ?_
   rotate_left
   ·intro w'
    go_simp
    with_reducible rfl
   rotate_left
   ·simp only [Act.put, List.setIfInBounds_toArray, List.set_cons_zero, List.set_cons_succ, i64_w, i32_w]
    rfl
   refine pure_ (i := 7) (N := some 4) (v := ?_) (a' := ?_) #[true, true, true, true, true, true, true, true, false] rfl rfl (any_of HT_.out (by kernel_rfl)) (fun _ _ _ h => h) (Or.inl ⟨by rfl, ?_⟩) ?_ ?_
   rotate_left
   ·intro w'
    go_simp
    with_reducible rfl
   rotate_left
   ·simp only [Act.put, List.setIfInBounds_toArray, List.set_cons_zero, List.set_cons_succ, i64_w, i32_w]
    rfl
   refine pure_ (i := 8) (N := some 5) (v := ?_) (a' := ?_) #[true, true, true, true, true, true, true, true, true] rfl rfl (any_of HT_.out (by kernel_rfl)) (fun _ _ _ h => h) (Or.inl ⟨by rfl, ?_⟩) ?_ ?_
   rotate_left
   ·intro w'
    go_simp
    with_reducible rfl
   rotate_left
   ·simp only [Act.put, List.setIfInBounds_toArray, List.set_cons_zero, List.set_cons_succ, i64_w, i32_w]
    rfl
   refine done_ (done_of HT_.out (by kernel_rfl)) ?_
   have hcz117_0 : w116.cell? ⟨gb340, 0, none⟩ = some (.slice A0_0 l0_0.length c0_0) := (blk_cell BK340.out 0).trans rfl
   have hfz117_0 := blk_frozen BK340.out 0
   try go_wp2_with (first | ((with_reducible refine gate_callee (f := 24) rfl ?_); refine goesL_ (some 26) rfl rfl Tryz.func24 (by kernel_rfl) rfl #[.agg #[.slice A0_0 l0_0.length c0_0]] rfl (by (try simp only [List.map_toArray, List.map_cons, List.map_nil]); first | done | rfl | (simp only [List.length_drop, List.length_take]; rfl)) ?_; (with_reducible refine (q_Valid.calls k _ _ l0_0 false _ ?side1 ?side2 A9.out).mono ?_); (case side1 => repeat (first | exact (Kd.C_below HR0_0.out HB.out) | (with_reducible refine Kd.C_alloc ?_ _) | (with_reducible refine Kd.C_drewN ?_ _) | (with_reducible refine Kd.C_drew ?_))); (case side2 => exact HC0_0.out); rintro e w118 ⟨rfl, hb⟩; refine ⟨_, rfl, ?_⟩; have n0_ := am (Kd.S_below (HO345.out) hb); have n1_ := am (Kd.R_below (HO348.out) hb); have n2_ := am (Kd.S_below (HO351.out) hb); have n3_ := am (blk_below (g := gb340) (o := .cells #[.slice A0_0 l0_0.length c0_0] 36 (0, 0)) (BK340.out) hb); have n4_ := am (below_step (HB.out) hb); clear HO345; clear HO348; clear HO351; clear BK340; clear HB; have HO345 := n0_; have HO348 := n1_; have HO351 := n2_; have BK340 := n3_; have HB := n4_; clear n0_ n1_ n2_ n3_ n4_; (try clear hb); (try clear hb2); (try clear hk); (try clear hi); obtain ⟨Ao119, co119, eo119⟩ := Kd.S_slice HO345.out; subst eo119; obtain ⟨Ao120, co120, eo120⟩ := Kd.R_slice HO348.out; subst eo120))
   go_ret
   exact ⟨rfl, HB.out⟩
  rw [if_pos c95] at H
  have c95b0 : ((t346.length : Int) == 0) = true := beq_iff_eq.mpr c95
  have c95b1 : ((t346.length : Int) != 0) = false := bne_eq_false_iff_eq.mpr c95
  clear c95
  obtain rfl := Option.some.inj H
  go_enter Tryz.func6, Tryz.ntmps6
  try go_wp2_with (first | ((with_reducible refine gate_dst (N := 1) rfl ?_); (try (refine gate_guard (by rfl) ?_; dsimp only)); refine box_event ?hg (N := 1) ?hd (cs := #[.slice A0_0 l0_0.length c0_0]) (t := 36) ?hr ?_; (case hd => rfl); (case hg => rfl); (case hr => first | (go_simp; done) | (go_simp; rfl)); intro gb340 hg w96 hbox hb; have n0_ := am (below_step (HB.out) hb); have n1_ := am (hbox); have n2_ := am ((by rw [hg]; exact (below_size (HB.out)) : w.heap.size ≤ gb340)); have n3_ := am ((by rw [hg]; exact (below_size (HB.out)) : w.heap.size ≤ gb340)); clear HB; have HB := n0_; have BK340 := n1_; have GW340 := n2_; have GE340 := n3_; clear n0_ n1_ n2_ n3_; clear hb hbox hg) | ((with_reducible refine gate_callee (f := 7) rfl ?_); refine goesL_ (some 14) rfl rfl Tryz.func7 (by kernel_rfl) rfl #[] rfl (by (try simp only [List.map_toArray, List.map_cons, List.map_nil]); first | done | rfl | (simp only [List.length_drop, List.length_take]; rfl)) ?_; (with_reducible refine (assessorlaw17_awake.calls  true _ A2.out).mono ?_); rintro e w97 ⟨rfl, hb⟩; refine ⟨_, rfl, ?_⟩; have n0_ := am (blk_below (g := gb340) (o := .cells #[.slice A0_0 l0_0.length c0_0] 36 (0, 0)) (BK340.out) hb); have n1_ := am (below_step (HB.out) hb); clear BK340; clear HB; have BK340 := n0_; have HB := n1_; clear n0_ n1_; (try clear hb); (try clear hb2); (try clear hk); (try clear hi); have hcz98_0 : w97.cell? ⟨gb340, 0, none⟩ = some (.slice A0_0 l0_0.length c0_0) := (blk_cell BK340.out 0).trans rfl; have hfz98_0 := blk_frozen BK340.out 0) | ((with_reducible refine gate_callee (f := 12) rfl ?_); refine goesL_ (some 17) rfl rfl Tryz.func12 (by kernel_rfl) rfl #[.agg #[.slice A0_0 l0_0.length c0_0], .int .i64 30] rfl (by (try simp only [List.map_toArray, List.map_cons, List.map_nil]); first | done | rfl | (simp only [List.length_drop, List.length_take]; rfl)) ?_; (with_reducible refine (q_Small.calls k _ _ l0_0 30 true _ ?side1 ?side2 A4.out).mono ?_); (case side1 => repeat (first | exact (Kd.C_below HR0_0.out HB.out) | (with_reducible refine Kd.C_alloc ?_ _) | (with_reducible refine Kd.C_drewN ?_ _) | (with_reducible refine Kd.C_drew ?_))); (case side2 => exact HC0_0.out); rintro e w99 ⟨rfl, hb⟩; refine ⟨_, rfl, ?_⟩; have n0_ := am (blk_below (g := gb340) (o := .cells #[.slice A0_0 l0_0.length c0_0] 36 (0, 0)) (BK340.out) hb); have n1_ := am (below_step (HB.out) hb); clear BK340; clear HB; have BK340 := n0_; have HB := n1_; clear n0_ n1_; (try clear hb); (try clear hb2); (try clear hk); (try clear hi)))
  have n0_ := am (blk_drew BK340.out)
  have n1_ := am (below_drew1 HB.out)
  clear BK340 HB
  have BK340 := n0_
  have HB := n1_
  clear n0_ n1_
  refine start_ (n := 9) (S := fun w' => w'.cell? ⟨gb340, 0, none⟩ = some (.slice A0_0 l0_0.length c0_0)) (ds := []) #[false, false, false, false, false, false, false, false, false] (by kernel_rfl) rfl rfl ((blk_cell BK340.out 0).trans rfl) (fun hHeld => ?_); refine with_tabW assessorlaw17_FlowBlocks.tab5 assessorlaw17_FlowBlocks.bits5 (fun HT_ HW_ => ?_)
  generalize w99.drew = w100 at BK340 HB hHeld ⊢
  refine take_ (i := 0) (N := some 19) (v := ?_) (a' := ?_) #[true, false, false, false, false, false, false, false, false] rfl rfl (take_ofW HT_.out HW_.out (by kernel_rfl)) (fun _ _ _ h => h) (Or.inl ⟨by rfl, ?_⟩) hHeld ?_ ?_
  rotate_left
  ·intro w' s0
   go_simp
   with_reducible rfl
  rotate_left
  ·simp only [Act.put, List.setIfInBounds_toArray, List.set_cons_zero, List.set_cons_succ, i64_w, i32_w]
   rfl
  refine take_ (i := 2) (N := some 21) (v := ?_) (a' := ?_) #[true, false, true, false, false, false, false, false, false] rfl rfl (take_ofW HT_.out HW_.out (by kernel_rfl)) (fun _ _ _ h => h) (Or.inl ⟨by rfl, ?_⟩) hHeld ?_ ?_
  rotate_left
  ·intro w' s0
   go_simp
   with_reducible rfl
  rotate_left
  ·simp only [Act.put, List.setIfInBounds_toArray, List.set_cons_zero, List.set_cons_succ, i64_w, i32_w]
   rfl
  refine take_ (i := 4) (N := some 23) (v := ?_) (a' := ?_) #[true, false, true, false, true, false, false, false, false] rfl rfl (take_ofW HT_.out HW_.out (by kernel_rfl)) (fun _ _ _ h => h) (Or.inl ⟨by rfl, ?_⟩) hHeld ?_ ?_
  rotate_left
  ·intro w' s0
   go_simp
   with_reducible rfl
  rotate_left
  ·simp only [Act.put, List.setIfInBounds_toArray, List.set_cons_zero, List.set_cons_succ, i64_w, i32_w]
   rfl
  refine one_ (i := 1) (N := some 20) #[true, true, true, false, true, false, false, false, false] rfl rfl (one_of HT_.out (by kernel_rfl)) (by decide) (fun K hK => ?_)
  refine goes_ Tryz.func22 (by kernel_rfl) rfl #[.agg #[.slice A0_0 l0_0.length c0_0]] (by rfl) rfl rfl (by (try simp only [List.map_toArray, List.map_cons, List.map_nil]); first | done | rfl | (simp only [List.length_drop, List.length_take]; rfl)) ?_
  with_reducible refine (flow_Blocks.calls k _ _ l0_0 t343 _ ?side1 ?side2 A6.out).mono ?_
  (case side1 => repeat (first | exact (Kd.C_below HR0_0.out HB.out) | (with_reducible refine Kd.C_alloc ?_ _) | (with_reducible refine Kd.C_drewN ?_ _) | (with_reducible refine Kd.C_drew ?_)))
  (case side2 => exact HC0_0.out)
  rintro e w101 ⟨v344, rfl, ho0, hb⟩
  refine ⟨_, rfl, ?_⟩
  have n0_ := am (Kd.S_lower ho0 (below_size (HB.out)))
  have n1_ := am (blk_below (g := gb340) (o := .cells #[.slice A0_0 l0_0.length c0_0] 36 (0, 0)) (BK340.out) hb)
  have n2_ := am (below_step (HB.out) hb)
  clear BK340 HB
  have HO345 := n0_
  have BK340 := n1_
  have HB := n2_
  clear n0_ n1_ n2_
  (try clear hb)
  (try clear hb2)
  (try clear hk)
  (try clear hi)
  (try clear ho0)
  refine hK.out _ _ ((blk_cell BK340.out 0).trans rfl) (fun hHeld => ?_)
  clear hK K
  refine norm_ (a' := ?_) ?_ ?_
  rotate_left
  ·show Act.put _ (some 20) _ = _
   simp only [Act.put, List.setIfInBounds_toArray, List.set_cons_zero, List.set_cons_succ, i64_w, i32_w]
   rfl
  refine one_ (i := 3) (N := some 22) #[true, true, true, true, true, false, false, false, false] rfl rfl (one_of HT_.out (by kernel_rfl)) (by decide) (fun K hK => ?_)
  refine goes_ Tryz.func20 (by kernel_rfl) rfl #[.agg #[.slice A0_0 l0_0.length c0_0]] (by rfl) rfl rfl (by (try simp only [List.map_toArray, List.map_cons, List.map_nil]); first | done | rfl | (simp only [List.length_drop, List.length_take]; rfl)) ?_
  with_reducible refine (flow_Reachable.calls k _ _ l0_0 t346 _ ?side1 ?side2 A7.out).mono ?_
  (case side1 => repeat (first | exact (Kd.C_below HR0_0.out HB.out) | (with_reducible refine Kd.C_alloc ?_ _) | (with_reducible refine Kd.C_drewN ?_ _) | (with_reducible refine Kd.C_drew ?_)))
  (case side2 => exact HC0_0.out)
  rintro e w102 ⟨v347, rfl, ho0, hb⟩
  refine ⟨_, rfl, ?_⟩
  have n0_ := am (Kd.S_below (HO345.out) hb)
  have n1_ := am (Kd.R_lower ho0 (below_size (HB.out)))
  have n2_ := am (blk_below (g := gb340) (o := .cells #[.slice A0_0 l0_0.length c0_0] 36 (0, 0)) (BK340.out) hb)
  have n3_ := am (below_step (HB.out) hb)
  clear HO345 BK340 HB
  have HO345 := n0_
  have HO348 := n1_
  have BK340 := n2_
  have HB := n3_
  clear n0_ n1_ n2_ n3_
  (try clear hb)
  (try clear hb2)
  (try clear hk)
  (try clear hi)
  (try clear ho0)
  refine hK.out _ _ ((blk_cell BK340.out 0).trans rfl) (fun hHeld => ?_)
  clear hK K
  refine norm_ (a' := ?_) ?_ ?_
  rotate_left
  ·show Act.put _ (some 22) _ = _
   simp only [Act.put, List.setIfInBounds_toArray, List.set_cons_zero, List.set_cons_succ, i64_w, i32_w]
   rfl
  refine one_ (i := 5) (N := some 24) #[true, true, true, true, true, true, false, false, false] rfl rfl (one_of HT_.out (by kernel_rfl)) (by decide) (fun K hK => ?_)
  refine goes_ Tryz.func17 (by kernel_rfl) rfl #[.agg #[.slice A0_0 l0_0.length c0_0]] (by rfl) rfl rfl (by (try simp only [List.map_toArray, List.map_cons, List.map_nil]); first | done | rfl | (simp only [List.length_drop, List.length_take]; rfl)) ?_
  with_reducible refine (flow_Before.calls k _ _ l0_0 t349 _ ?side1 ?side2 A8.out).mono ?_
  (case side1 => repeat (first | exact (Kd.C_below HR0_0.out HB.out) | (with_reducible refine Kd.C_alloc ?_ _) | (with_reducible refine Kd.C_drewN ?_ _) | (with_reducible refine Kd.C_drew ?_)))
  (case side2 => exact HC0_0.out)
  rintro e w103 ⟨v350, rfl, ho0, hb⟩
  refine ⟨_, rfl, ?_⟩
  have n0_ := am (Kd.S_elder' (HO345.out) (Kd.S_base ho0) hb)
  have n1_ := am (Kd.R_below (HO348.out) hb)
  have n2_ := am (Kd.S_lower (Kd.S_new' ho0 (Kd.S_lt (HO345.out))) (below_size (HB.out)))
  have n3_ := am (blk_below (g := gb340) (o := .cells #[.slice A0_0 l0_0.length c0_0] 36 (0, 0)) (BK340.out) hb)
  have n4_ := am (below_step (HB.out) hb)
  clear HO345 HO348 BK340 HB
  have HO345 := n0_
  have HO348 := n1_
  have HO351 := n2_
  have BK340 := n3_
  have HB := n4_
  clear n0_ n1_ n2_ n3_ n4_
  (try clear hb)
  (try clear hb2)
  (try clear hk)
  (try clear hi)
  (try clear ho0)
  refine hK.out _ _ ((blk_cell BK340.out 0).trans rfl) (fun hHeld => ?_)
  clear hK K
  refine norm_ (a' := ?_) ?_ ?_
  rotate_left
  ·show Act.put _ (some 24) _ = _
   simp only [Act.put, List.setIfInBounds_toArray, List.set_cons_zero, List.set_cons_succ, i64_w, i32_w]
   rfl
  refine pure_ (i := 6) (N := some 3) (v := ?_) (a' := ?_) #[true, true, true, true, true, true, true, false, false] rfl rfl (any_of HT_.out (by kernel_rfl)) (fun _ _ _ h => h) (Or.inl ⟨by rfl, ?_⟩) ?_ ?_
  rotate_left
  ·intro w'
   go_simp
   with_reducible rfl
  rotate_left
  ·simp only [Act.put, List.setIfInBounds_toArray, List.set_cons_zero, List.set_cons_succ, i64_w, i32_w]
   rfl
  refine pure_ (i := 7) (N := some 4) (v := ?_) (a' := ?_) #[true, true, true, true, true, true, true, true, false] rfl rfl (any_of HT_.out (by kernel_rfl)) (fun _ _ _ h => h) (Or.inl ⟨by rfl, ?_⟩) ?_ ?_
  rotate_left
  ·intro w'
   go_simp
   with_reducible rfl
  rotate_left
  ·simp only [Act.put, List.setIfInBounds_toArray, List.set_cons_zero, List.set_cons_succ, i64_w, i32_w]
   rfl
  refine pure_ (i := 8) (N := some 5) (v := ?_) (a' := ?_) #[true, true, true, true, true, true, true, true, true] rfl rfl (any_of HT_.out (by kernel_rfl)) (fun _ _ _ h => h) (Or.inl ⟨by rfl, ?_⟩) ?_ ?_
  rotate_left
  ·intro w'
   go_simp
   with_reducible rfl
  rotate_left
  ·simp only [Act.put, List.setIfInBounds_toArray, List.set_cons_zero, List.set_cons_succ, i64_w, i32_w]
   rfl
  refine done_ (done_of HT_.out (by kernel_rfl)) ?_
  have hcz104_0 : w103.cell? ⟨gb340, 0, none⟩ = some (.slice A0_0 l0_0.length c0_0) := (blk_cell BK340.out 0).trans rfl
  have hfz104_0 := blk_frozen BK340.out 0
  try go_wp2_with (first | ((with_reducible refine gate_callee (f := 24) rfl ?_); refine goesL_ (some 26) rfl rfl Tryz.func24 (by kernel_rfl) rfl #[.agg #[.slice A0_0 l0_0.length c0_0]] rfl (by (try simp only [List.map_toArray, List.map_cons, List.map_nil]); first | done | rfl | (simp only [List.length_drop, List.length_take]; rfl)) ?_; (with_reducible refine (q_Valid.calls k _ _ l0_0 false _ ?side1 ?side2 A9.out).mono ?_); (case side1 => repeat (first | exact (Kd.C_below HR0_0.out HB.out) | (with_reducible refine Kd.C_alloc ?_ _) | (with_reducible refine Kd.C_drewN ?_ _) | (with_reducible refine Kd.C_drew ?_))); (case side2 => exact HC0_0.out); rintro e w105 ⟨rfl, hb⟩; refine ⟨_, rfl, ?_⟩; have n0_ := am (Kd.S_below (HO345.out) hb); have n1_ := am (Kd.R_below (HO348.out) hb); have n2_ := am (Kd.S_below (HO351.out) hb); have n3_ := am (blk_below (g := gb340) (o := .cells #[.slice A0_0 l0_0.length c0_0] 36 (0, 0)) (BK340.out) hb); have n4_ := am (below_step (HB.out) hb); clear HO345; clear HO348; clear HO351; clear BK340; clear HB; have HO345 := n0_; have HO348 := n1_; have HO351 := n2_; have BK340 := n3_; have HB := n4_; clear n0_ n1_ n2_ n3_ n4_; (try clear hb); (try clear hb2); (try clear hk); (try clear hi); obtain ⟨Ao106, co106, eo106⟩ := Kd.S_slice HO345.out; subst eo106; obtain ⟨Ao107, co107, eo107⟩ := Kd.R_slice HO348.out; subst eo107; obtain ⟨Ao108, co108, eo108⟩ := Kd.S_slice HO351.out; subst eo108))
  go_ret
  exact ⟨rfl, HB.out⟩
 subst c10
 rw [if_pos rfl] at H
 have HC11 := am H
 clear H
 go_enter Tryz.func6, Tryz.ntmps6
 try go_wp2_with (first | ((with_reducible refine gate_dst (N := 1) rfl ?_); (try (refine gate_guard (by rfl) ?_; dsimp only)); refine box_event ?hg (N := 1) ?hd (cs := #[.slice A0_0 l0_0.length c0_0]) (t := 36) ?hr ?_; (case hd => rfl); (case hg => rfl); (case hr => first | (go_simp; done) | (go_simp; rfl)); intro gb340 hg w12 hbox hb; have n0_ := am (below_step (HB.out) hb); have n1_ := am (hbox); have n2_ := am ((by rw [hg]; exact (below_size (HB.out)) : w.heap.size ≤ gb340)); have n3_ := am ((by rw [hg]; exact (below_size (HB.out)) : w.heap.size ≤ gb340)); clear HB; have HB := n0_; have BK340 := n1_; have GW340 := n2_; have GE340 := n3_; clear n0_ n1_ n2_ n3_; clear hb hbox hg) | ((with_reducible refine gate_callee (f := 7) rfl ?_); refine goesL_ (some 14) rfl rfl Tryz.func7 (by kernel_rfl) rfl #[] rfl (by (try simp only [List.map_toArray, List.map_cons, List.map_nil]); first | done | rfl | (simp only [List.length_drop, List.length_take]; rfl)) ?_; (with_reducible refine (assessorlaw17_awake.calls  true _ A2.out).mono ?_); rintro e w13 ⟨rfl, hb⟩; refine ⟨_, rfl, ?_⟩; have n0_ := am (blk_below (g := gb340) (o := .cells #[.slice A0_0 l0_0.length c0_0] 36 (0, 0)) (BK340.out) hb); have n1_ := am (below_step (HB.out) hb); clear BK340; clear HB; have BK340 := n0_; have HB := n1_; clear n0_ n1_; (try clear hb); (try clear hb2); (try clear hk); (try clear hi); have hcz14_0 : w13.cell? ⟨gb340, 0, none⟩ = some (.slice A0_0 l0_0.length c0_0) := (blk_cell BK340.out 0).trans rfl; have hfz14_0 := blk_frozen BK340.out 0) | ((with_reducible refine gate_callee (f := 12) rfl ?_); refine goesL_ (some 17) rfl rfl Tryz.func12 (by kernel_rfl) rfl #[.agg #[.slice A0_0 l0_0.length c0_0], .int .i64 30] rfl (by (try simp only [List.map_toArray, List.map_cons, List.map_nil]); first | done | rfl | (simp only [List.length_drop, List.length_take]; rfl)) ?_; (with_reducible refine (q_Small.calls k _ _ l0_0 30 true _ ?side1 ?side2 A4.out).mono ?_); (case side1 => repeat (first | exact (Kd.C_below HR0_0.out HB.out) | (with_reducible refine Kd.C_alloc ?_ _) | (with_reducible refine Kd.C_drewN ?_ _) | (with_reducible refine Kd.C_drew ?_))); (case side2 => exact HC0_0.out); rintro e w15 ⟨rfl, hb⟩; refine ⟨_, rfl, ?_⟩; have n0_ := am (blk_below (g := gb340) (o := .cells #[.slice A0_0 l0_0.length c0_0] 36 (0, 0)) (BK340.out) hb); have n1_ := am (below_step (HB.out) hb); clear BK340; clear HB; have BK340 := n0_; have HB := n1_; clear n0_ n1_; (try clear hb); (try clear hb2); (try clear hk); (try clear hi)))
 have n0_ := am (blk_drew BK340.out)
 have n1_ := am (below_drew1 HB.out)
 clear BK340 HB
 have BK340 := n0_
 have HB := n1_
 clear n0_ n1_
 refine start_ (n := 9) (S := fun w' => w'.cell? ⟨gb340, 0, none⟩ = some (.slice A0_0 l0_0.length c0_0)) (ds := []) #[false, false, false, false, false, false, false, false, false] (by kernel_rfl) rfl rfl ((blk_cell BK340.out 0).trans rfl) (fun hHeld => ?_); refine with_tabW assessorlaw17_FlowBlocks.tab5 assessorlaw17_FlowBlocks.bits5 (fun HT_ HW_ => ?_)
 generalize w15.drew = w16 at BK340 HB hHeld ⊢
 refine take_ (i := 0) (N := some 19) (v := ?_) (a' := ?_) #[true, false, false, false, false, false, false, false, false] rfl rfl (take_ofW HT_.out HW_.out (by kernel_rfl)) (fun _ _ _ h => h) (Or.inl ⟨by rfl, ?_⟩) hHeld ?_ ?_
 rotate_left
 ·intro w' s0
  go_simp
  with_reducible rfl
 rotate_left
 ·simp only [Act.put, List.setIfInBounds_toArray, List.set_cons_zero, List.set_cons_succ, i64_w, i32_w]
  rfl
 refine take_ (i := 2) (N := some 21) (v := ?_) (a' := ?_) #[true, false, true, false, false, false, false, false, false] rfl rfl (take_ofW HT_.out HW_.out (by kernel_rfl)) (fun _ _ _ h => h) (Or.inl ⟨by rfl, ?_⟩) hHeld ?_ ?_
 rotate_left
 ·intro w' s0
  go_simp
  with_reducible rfl
 rotate_left
 ·simp only [Act.put, List.setIfInBounds_toArray, List.set_cons_zero, List.set_cons_succ, i64_w, i32_w]
  rfl
 refine take_ (i := 4) (N := some 23) (v := ?_) (a' := ?_) #[true, false, true, false, true, false, false, false, false] rfl rfl (take_ofW HT_.out HW_.out (by kernel_rfl)) (fun _ _ _ h => h) (Or.inl ⟨by rfl, ?_⟩) hHeld ?_ ?_
 rotate_left
 ·intro w' s0
  go_simp
  with_reducible rfl
 rotate_left
 ·simp only [Act.put, List.setIfInBounds_toArray, List.set_cons_zero, List.set_cons_succ, i64_w, i32_w]
  rfl
 refine one_ (i := 1) (N := some 20) #[true, true, true, false, true, false, false, false, false] rfl rfl (one_of HT_.out (by kernel_rfl)) (by decide) (fun K hK => ?_)
 refine goes_ Tryz.func22 (by kernel_rfl) rfl #[.agg #[.slice A0_0 l0_0.length c0_0]] (by rfl) rfl rfl (by (try simp only [List.map_toArray, List.map_cons, List.map_nil]); first | done | rfl | (simp only [List.length_drop, List.length_take]; rfl)) ?_
 with_reducible refine (flow_Blocks.calls k _ _ l0_0 t343 _ ?side1 ?side2 A6.out).mono ?_
 (case side1 => repeat (first | exact (Kd.C_below HR0_0.out HB.out) | (with_reducible refine Kd.C_alloc ?_ _) | (with_reducible refine Kd.C_drewN ?_ _) | (with_reducible refine Kd.C_drew ?_)))
 (case side2 => exact HC0_0.out)
 rintro e w17 ⟨v344, rfl, ho0, hb⟩
 refine ⟨_, rfl, ?_⟩
 have n0_ := am (Kd.S_lower ho0 (below_size (HB.out)))
 have n1_ := am (blk_below (g := gb340) (o := .cells #[.slice A0_0 l0_0.length c0_0] 36 (0, 0)) (BK340.out) hb)
 have n2_ := am (below_step (HB.out) hb)
 clear BK340 HB
 have HO345 := n0_
 have BK340 := n1_
 have HB := n2_
 clear n0_ n1_ n2_
 (try clear hb)
 (try clear hb2)
 (try clear hk)
 (try clear hi)
 (try clear ho0)
 refine hK.out _ _ ((blk_cell BK340.out 0).trans rfl) (fun hHeld => ?_)
 clear hK K
 refine norm_ (a' := ?_) ?_ ?_
 rotate_left
 ·show Act.put _ (some 20) _ = _
  simp only [Act.put, List.setIfInBounds_toArray, List.set_cons_zero, List.set_cons_succ, i64_w, i32_w]
  rfl
 refine one_ (i := 3) (N := some 22) #[true, true, true, true, true, false, false, false, false] rfl rfl (one_of HT_.out (by kernel_rfl)) (by decide) (fun K hK => ?_)
 refine goes_ Tryz.func20 (by kernel_rfl) rfl #[.agg #[.slice A0_0 l0_0.length c0_0]] (by rfl) rfl rfl (by (try simp only [List.map_toArray, List.map_cons, List.map_nil]); first | done | rfl | (simp only [List.length_drop, List.length_take]; rfl)) ?_
 with_reducible refine (flow_Reachable.calls k _ _ l0_0 t346 _ ?side1 ?side2 A7.out).mono ?_
 (case side1 => repeat (first | exact (Kd.C_below HR0_0.out HB.out) | (with_reducible refine Kd.C_alloc ?_ _) | (with_reducible refine Kd.C_drewN ?_ _) | (with_reducible refine Kd.C_drew ?_)))
 (case side2 => exact HC0_0.out)
 rintro e w18 ⟨v347, rfl, ho0, hb⟩
 refine ⟨_, rfl, ?_⟩
 have n0_ := am (Kd.S_below (HO345.out) hb)
 have n1_ := am (Kd.R_lower ho0 (below_size (HB.out)))
 have n2_ := am (blk_below (g := gb340) (o := .cells #[.slice A0_0 l0_0.length c0_0] 36 (0, 0)) (BK340.out) hb)
 have n3_ := am (below_step (HB.out) hb)
 clear HO345 BK340 HB
 have HO345 := n0_
 have HO348 := n1_
 have BK340 := n2_
 have HB := n3_
 clear n0_ n1_ n2_ n3_
 (try clear hb)
 (try clear hb2)
 (try clear hk)
 (try clear hi)
 (try clear ho0)
 refine hK.out _ _ ((blk_cell BK340.out 0).trans rfl) (fun hHeld => ?_)
 clear hK K
 refine norm_ (a' := ?_) ?_ ?_
 rotate_left
 ·show Act.put _ (some 22) _ = _
  simp only [Act.put, List.setIfInBounds_toArray, List.set_cons_zero, List.set_cons_succ, i64_w, i32_w]
  rfl
 refine one_ (i := 5) (N := some 24) #[true, true, true, true, true, true, false, false, false] rfl rfl (one_of HT_.out (by kernel_rfl)) (by decide) (fun K hK => ?_)
 refine goes_ Tryz.func17 (by kernel_rfl) rfl #[.agg #[.slice A0_0 l0_0.length c0_0]] (by rfl) rfl rfl (by (try simp only [List.map_toArray, List.map_cons, List.map_nil]); first | done | rfl | (simp only [List.length_drop, List.length_take]; rfl)) ?_
 with_reducible refine (flow_Before.calls k _ _ l0_0 t349 _ ?side1 ?side2 A8.out).mono ?_
 (case side1 => repeat (first | exact (Kd.C_below HR0_0.out HB.out) | (with_reducible refine Kd.C_alloc ?_ _) | (with_reducible refine Kd.C_drewN ?_ _) | (with_reducible refine Kd.C_drew ?_)))
 (case side2 => exact HC0_0.out)
 rintro e w19 ⟨v350, rfl, ho0, hb⟩
 refine ⟨_, rfl, ?_⟩
 have n0_ := am (Kd.S_elder' (HO345.out) (Kd.S_base ho0) hb)
 have n1_ := am (Kd.R_below (HO348.out) hb)
 have n2_ := am (Kd.S_lower (Kd.S_new' ho0 (Kd.S_lt (HO345.out))) (below_size (HB.out)))
 have n3_ := am (blk_below (g := gb340) (o := .cells #[.slice A0_0 l0_0.length c0_0] 36 (0, 0)) (BK340.out) hb)
 have n4_ := am (below_step (HB.out) hb)
 clear HO345 HO348 BK340 HB
 have HO345 := n0_
 have HO348 := n1_
 have HO351 := n2_
 have BK340 := n3_
 have HB := n4_
 clear n0_ n1_ n2_ n3_ n4_
 (try clear hb)
 (try clear hb2)
 (try clear hk)
 (try clear hi)
 (try clear ho0)
 refine hK.out _ _ ((blk_cell BK340.out 0).trans rfl) (fun hHeld => ?_)
 clear hK K
 refine norm_ (a' := ?_) ?_ ?_
 rotate_left
 ·show Act.put _ (some 24) _ = _
  simp only [Act.put, List.setIfInBounds_toArray, List.set_cons_zero, List.set_cons_succ, i64_w, i32_w]
  rfl
 refine pure_ (i := 6) (N := some 3) (v := ?_) (a' := ?_) #[true, true, true, true, true, true, true, false, false] rfl rfl (any_of HT_.out (by kernel_rfl)) (fun _ _ _ h => h) (Or.inl ⟨by rfl, ?_⟩) ?_ ?_
 rotate_left
 ·intro w'
  go_simp
  with_reducible rfl
 rotate_left
 ·simp only [Act.put, List.setIfInBounds_toArray, List.set_cons_zero, List.set_cons_succ, i64_w, i32_w]
  rfl
 refine pure_ (i := 7) (N := some 4) (v := ?_) (a' := ?_) #[true, true, true, true, true, true, true, true, false] rfl rfl (any_of HT_.out (by kernel_rfl)) (fun _ _ _ h => h) (Or.inl ⟨by rfl, ?_⟩) ?_ ?_
 rotate_left
 ·intro w'
  go_simp
  with_reducible rfl
 rotate_left
 ·simp only [Act.put, List.setIfInBounds_toArray, List.set_cons_zero, List.set_cons_succ, i64_w, i32_w]
  rfl
 refine pure_ (i := 8) (N := some 5) (v := ?_) (a' := ?_) #[true, true, true, true, true, true, true, true, true] rfl rfl (any_of HT_.out (by kernel_rfl)) (fun _ _ _ h => h) (Or.inl ⟨by rfl, ?_⟩) ?_ ?_
 rotate_left
 ·intro w'
  go_simp
  with_reducible rfl
 rotate_left
 ·simp only [Act.put, List.setIfInBounds_toArray, List.set_cons_zero, List.set_cons_succ, i64_w, i32_w]
  rfl
 refine done_ (done_of HT_.out (by kernel_rfl)) ?_
 have hcz20_0 : w19.cell? ⟨gb340, 0, none⟩ = some (.slice A0_0 l0_0.length c0_0) := (blk_cell BK340.out 0).trans rfl
 have hfz20_0 := blk_frozen BK340.out 0
 go_upto_region 8 with (first | ((with_reducible refine gate_callee (f := 24) rfl ?_); refine goesL_ (some 26) rfl rfl Tryz.func24 (by kernel_rfl) rfl #[.agg #[.slice A0_0 l0_0.length c0_0]] rfl (by (try simp only [List.map_toArray, List.map_cons, List.map_nil]); first | done | rfl | (simp only [List.length_drop, List.length_take]; rfl)) ?_; (with_reducible refine (q_Valid.calls k _ _ l0_0 true _ ?side1 ?side2 A9.out).mono ?_); (case side1 => repeat (first | exact (Kd.C_below HR0_0.out HB.out) | (with_reducible refine Kd.C_alloc ?_ _) | (with_reducible refine Kd.C_drewN ?_ _) | (with_reducible refine Kd.C_drew ?_))); (case side2 => exact HC0_0.out); rintro e w21 ⟨rfl, hb⟩; refine ⟨_, rfl, ?_⟩; have n0_ := am (Kd.S_below (HO345.out) hb); have n1_ := am (Kd.R_below (HO348.out) hb); have n2_ := am (Kd.S_below (HO351.out) hb); have n3_ := am (blk_below (g := gb340) (o := .cells #[.slice A0_0 l0_0.length c0_0] 36 (0, 0)) (BK340.out) hb); have n4_ := am (below_step (HB.out) hb); clear HO345; clear HO348; clear HO351; clear BK340; clear HB; have HO345 := n0_; have HO348 := n1_; have HO351 := n2_; have BK340 := n3_; have HB := n4_; clear n0_ n1_ n2_ n3_ n4_; (try clear hb); (try clear hb2); (try clear hk); (try clear hi)))
 (try simp only [Act.put, List.setIfInBounds_toArray, List.set_cons_zero, List.set_cons_succ])
 go_cut [54] (fun v54 wc => ∃ (kq : Nat) (x54_10 : Bool), v54 = .bool x54_10 ∧ Aside0 (assessorlaw17_FlowBlocks.j0 kq t343 t346 t349 x54_10 l0_0 = some r) ∧ Aside0 (kq ≤ k) ∧ Aside0 (Kd.S (Kd.slice 3 (Kd.int .i64)) 27 wc w.heap.size (fun k_ => some k_ ≠ (v350 : Value).ownBlock) v344 t343) ∧ Aside0 (Kd.R Kd.bool 4 wc w.heap.size (fun _ => True) v347 t346) ∧ Aside0 (Kd.S (Kd.slice 3 (Kd.int .i64)) 27 wc w.heap.size (fun k_ => some k_ ≠ (v344 : Value).ownBlock) v350 t349) ∧ Aside0 (wc.heap[gb340]? = some (.cells #[(.slice A0_0 l0_0.length c0_0)] 36 (0, 0))) ∧ Aside0 (Below w.heap.size w wc))
 case first =>
  have H := HC11.out
  clear HC11
  by_cases c22 : (t346.length : Int) = (l0_0.length : Int)
  rotate_left
  ·rw [if_neg c22] at H
   have c22b0 : ((t346.length : Int) == (l0_0.length : Int)) = false := beq_eq_false_iff_ne.mpr c22
   have c22b1 : ((t346.length : Int) != (l0_0.length : Int)) = true := bne_iff_ne.mpr c22
   have c22b2 : (t346.length == l0_0.length) = false := by first | simpa using c22 | (simp at c22 ⊢; omega)
   (first | rw [c22b0] | (simp only [i64_w, i32_w]; rw [c22b0]) | skip)
   have H' := am H
   clear H
   obtain ⟨Ao26, co26, eo26⟩ := Kd.R_slice HO348.out
   subst eo26
   have hcz27_0 : w21.cell? ⟨gb340, 0, none⟩ = some (.slice A0_0 l0_0.length c0_0) := (blk_cell BK340.out 0).trans rfl
   have hfz27_0 := blk_frozen BK340.out 0
   go_wp2
   go_meet
   case rel => exact ⟨_, (true), (rfl), H', ⟨by first | omega | exact Nat.le_refl _⟩, ⟨Kd.S_mono HO345.out (fun _ hk => hk.2)⟩, ⟨HO348.out⟩, ⟨Kd.S_mono HO351.out (fun _ hk => hk.2)⟩, ⟨BK340.out⟩, ⟨HB.out⟩⟩
  rw [if_pos c22] at H
  have c22b0 : ((t346.length : Int) == (l0_0.length : Int)) = true := beq_iff_eq.mpr c22
  have c22b1 : ((t346.length : Int) != (l0_0.length : Int)) = false := bne_eq_false_iff_eq.mpr c22
  have c22b2 : (t346.length == l0_0.length) = true := by first | simpa using c22 | (simp at c22 ⊢; omega)
  clear c22
  (first | rw [c22b0] | (simp only [i64_w, i32_w]; rw [c22b0]) | skip)
  have H' := am H
  clear H
  obtain ⟨Ao23, co23, eo23⟩ := Kd.R_slice HO348.out
  subst eo23
  have hcz24_0 : w21.cell? ⟨gb340, 0, none⟩ = some (.slice A0_0 l0_0.length c0_0) := (blk_cell BK340.out 0).trans rfl
  have hfz24_0 := blk_frozen BK340.out 0
  obtain ⟨Ao25, co25, eo25⟩ := Kd.S_slice HO351.out
  subst eo25
  go_wp2
  go_meet
  case rel => exact ⟨_, (((t349.length : Int) != (l0_0.length : Int))), (rfl), H', ⟨by first | omega | exact Nat.le_refl _⟩, ⟨Kd.S_mono HO345.out (fun _ hk => hk.2)⟩, ⟨HO348.out⟩, ⟨Kd.S_mono HO351.out (fun _ hk => hk.2)⟩, ⟨BK340.out⟩, ⟨HB.out⟩⟩
 case rest =>
  clear HC11 hcz14_0 hcz20_0 hfz14_0 hfz20_0
  obtain ⟨kq, x54_10, rfl, HA, HJ10, HO_3, HO_4, HO_5, BK340, HB⟩ := hcut
  cases kq with
  | zero => exact absurd HA.out (by simp [assessorlaw17_FlowBlocks.j0])
  | succ kj10 =>
   have H := HA.out
   clear HA
   simp only [assessorlaw17_FlowBlocks.j0] at H
   by_cases c28 : x54_10 = true
   ·subst c28
    rw [if_pos rfl] at H
    obtain rfl := Option.some.inj H
    go_wp2
    go_ret
    exact ⟨rfl, HB.out⟩
   replace c28 := Bool.eq_false_iff.mpr c28
   subst c28
   rw [if_neg (show ¬ (false = true) by decide)] at H
   by_cases c29 : 0 ≤ (l0_0.length : Int)
   rotate_left
   ·rw [if_neg c29] at H
    exact absurd H (by simp)
   rw [if_pos c29] at H
   have c29b0 := eq_true c29
   have c29b1 : decide (0 ≤ (l0_0.length : Int)) = true := decide_eq_true c29
   clear c29
   by_cases c30 : ((l0_0.length : Int) : Int).toNat ≤ 281474976710656
   rotate_left
   ·rw [if_neg c30] at H
    exact absurd H (by simp)
   rw [if_pos c30] at H
   have c30b0 := eq_true c30
   have c30b1 : decide (((l0_0.length : Int) : Int).toNat ≤ 281474976710656) = true := decide_eq_true c30
   clear c30
   obtain ⟨y353, hy353⟩ : ∃ y_ : List Bool, y_ = (List.replicate ((l0_0.length : Int) : Int).toNat false) := ⟨_, rfl⟩
   replace H : (assessorlaw17_FlowBlocks.l0 kj10 t346 t349 y353 t343 (t343.length : Int) 0 l0_0) = some r := by first | (rw [hy353]; with_reducible exact H) | (have H2_ := (Option.bind_some _ _).symm.trans H; rw [hy353]; with_reducible exact H2_) | (have H2_ := (Option.bind_some _ _).symm.trans H; with_reducible exact H2_) | with_reducible exact H | (rw [hy353]; exact H) | exact H
   have Ny353 := am hy353
   clear hy353
   have H' := am H
   clear H
   have hcz31_0 : wc.cell? ⟨gb340, 0, none⟩ = some (.slice A0_0 l0_0.length c0_0) := (blk_cell BK340.out 0).trans rfl
   have hfz31_0 := blk_frozen BK340.out 0
   go_wp2_with (first | ((with_reducible refine gate_dst (N := 58) rfl ?_); (try (refine gate_guard (by rfl) ?_; dsimp only)); refine Kd.R_make Kd.bool _ 4 rfl (N := 58) rfl 49 _ _ rfl (l0_0.length : Int) rfl rfl Tryz.underlying49 (.bool false) 1 info4 rfl (by decide) (by omega) false (ok := fun _ => True) (okp := fun _ => True) rfl (fun _ hk => hk) trivial (odt ‹_›) (Nat.le_trans (Nat.mul_le_mul_right _ (odt ‹_› : (l0_0.length : Int).toNat ≤ 281474976710656)) (by omega)) (Below.refl _ _) (Nat.le_refl _) ?_; intro v354 w32 ho33 hb hg_ hnew_; clear hg_ hnew_; (first | rw [← Ny353.out] at ho33 | (simp only [Int.reduceToNat] at ho33; rw [← Ny353.out] at ho33)); have n0_ := am (Kd.S_below (HO_3.out) hb); have n1_ := am (Kd.R_elder' (HO_4.out) (Kd.R_base ho33) hb); have n2_ := am (Kd.S_below (HO_5.out) hb); have n3_ := am (Kd.R_lower (Kd.R_new' ho33 (Kd.R_lt (HO_4.out))) (below_size (HB.out))); have n4_ := am (blk_below (g := gb340) (o := .cells #[.slice A0_0 l0_0.length c0_0] 36 (0, 0)) (BK340.out) hb); have n5_ := am (below_step (HB.out) hb); clear HO_3; clear HO_4; clear HO_5; clear BK340; clear HB; have HO_3 := n0_; have HO_4 := n1_; have HO_5 := n2_; have HO355 := n3_; have BK340 := n4_; have HB := n5_; clear n0_ n1_ n2_ n3_ n4_ n5_; clear hb ho33; obtain ⟨Ao34, co34, eo34⟩ := Kd.S_slice HO_3.out; subst eo34))
   go_loopg [61] kj10 (fun kq v61 w' => ∃ (x6_2 : List Bool) (x61_2 : Int), v61 = .int .i64 x61_2 ∧ Aside0 (assessorlaw17_FlowBlocks.l0 kq t346 t349 x6_2 t343 (t343.length : Int) x61_2 l0_0 = some r) ∧ Aside0 (kq ≤ kj10) ∧ Aside0 (Kd.R Kd.bool 4 w' w.heap.size (fun k_ => some k_ ≠ (v354 : Value).ownBlock) v347 t346) ∧ Aside0 (Kd.S (Kd.slice 3 (Kd.int .i64)) 27 w' w.heap.size (fun k_ => some k_ ≠ ((.slice Ao34 t343.length co34) : Value).ownBlock) v350 t349) ∧ Aside0 (Kd.R Kd.bool 4 w' w.heap.size (fun k_ => some k_ ≠ (v347 : Value).ownBlock) v354 x6_2) ∧ Aside0 (Kd.S (Kd.slice 3 (Kd.int .i64)) 27 w' w.heap.size (fun k_ => some k_ ≠ (v350 : Value).ownBlock) (.slice Ao34 t343.length co34) t343) ∧ Aside0 (w'.heap[gb340]? = some (.cells #[(.slice A0_0 l0_0.length c0_0)] 36 (0, 0))) ∧ Aside0 (Below w.heap.size w w'))
   case atStart => exact ⟨(y353), (0), (rfl), H', ⟨Nat.le_refl _⟩, ⟨Kd.R_mono HO_4.out (fun _ hk => hk.2)⟩, ⟨HO_5.out⟩, ⟨Kd.R_mono HO355.out (fun _ hk => hk.2)⟩, ⟨HO_3.out⟩, ⟨BK340.out⟩, ⟨HB.out⟩⟩
   case round =>
    clear H'
    clear c29b0 c29b1 c30b0 c30b1 hcz31_0 hfz31_0
    obtain ⟨x6_2, x61_2, rfl, HA, HK2, HO_4, HO_5, HO_6, HO_59, BK340, HB⟩ := hrel
    cases gk with
    | zero => exact absurd HA.out (by simp [assessorlaw17_FlowBlocks.l0])
    | succ k2 =>
     have H := HA.out
     clear HA
     simp only [assessorlaw17_FlowBlocks.l0] at H
     by_cases c35 : x61_2 < (t343.length : Int)
     rotate_left
     ·rw [if_neg c35] at H
      have c35b0 : decide (x61_2 < (t343.length : Int)) = false := decide_eq_false c35
      clear c35
      replace H := Option.bind_eq_some_iff.mp H
      obtain ⟨t356, A910, H⟩ := H
      replace H : (some t356) = some r := H
      have A91 := am A910
      clear A910
      obtain rfl := Option.some.inj H
      obtain ⟨Ao92, co92, eo92⟩ := Kd.R_slice HO_6.out
      subst eo92
      obtain ⟨Ao93, co93, eo93⟩ := Kd.R_slice HO_4.out
      subst eo93
      go_wp2_with (first | ((with_reducible refine gate_callee (f := 19) rfl ?_); refine goesL_ (some 146) rfl rfl Tryz.func19 (by kernel_rfl) rfl #[.slice Ao92 x6_2.length co92, .slice Ao93 t346.length co93] rfl (by (try simp only [List.map_toArray, List.map_cons, List.map_nil]); first | done | rfl | (simp only [List.length_drop, List.length_take]; rfl)) ?_; (with_reducible refine (sEq.calls k2 _ _ x6_2 _ _ t346 t356 _ ?side1 ?side2 ?side3 ?side4 A91.out).mono ?_); (case side1 => repeat (first | exact (Kd.R_reads' HO_6.out).2.2 | (with_reducible refine Kd.C_alloc ?_ _) | (with_reducible refine Kd.C_drewN ?_ _) | (with_reducible refine Kd.C_drew ?_))); (case side2 => exact (Kd.R_reads' HO_6.out).2.1); (case side3 => repeat (first | exact (Kd.R_reads' HO_4.out).2.2 | (with_reducible refine Kd.C_alloc ?_ _) | (with_reducible refine Kd.C_drewN ?_ _) | (with_reducible refine Kd.C_drew ?_))); (case side4 => exact (Kd.R_reads' HO_4.out).2.1); rintro e w' ⟨rfl, ⟨nd, rfl⟩⟩; refine ⟨_, rfl, ?_⟩))
      go_ret
      exact ⟨rfl, by repeat (first | (with_reducible first | exact HB.out | apply below_alloc | apply pw_below_drewN | apply below_drew1 | refine below_set ?_ GE340.out) | exact HB.out)⟩
     rw [if_pos c35] at H
     have c35b0 : decide (x61_2 < (t343.length : Int)) = true := decide_eq_true c35
     clear c35
     by_cases c36 : 0 ≤ x61_2
     rotate_left
     ·rw [if_neg c36] at H
      exact absurd H (by simp)
     rw [if_pos c36] at H
     have c36b0 : decide (0 ≤ x61_2) = true := decide_eq_true c36
     clear c36
     by_cases c37 : x61_2 < (t343.length : Int)
     rotate_left
     ·rw [if_neg c37] at H
      exact absurd H (by simp)
     rw [if_pos c37] at H
     have c37b0 : decide (x61_2 < (t343.length : Int)) = true := decide_eq_true c37
     clear c37
     have H' := am H
     clear H
     have p357 : 0 ≤ (x61_2 : Int) := odt ‹_›
     have q357 : x61_2 < (t343.length : Int) := odt ‹_›
     obtain ⟨ad357, A357_0, c357_0, e357, hx357_0, hl357_0, hi357_0⟩ := at_L1 (Kd.S_reads' HO_59.out).2.2 x61_2 p357 q357
     cases e357
     obtain ⟨ce357, hce357, hMe357, hcc357⟩ := Kd.S_get HO_59.out [] x61_2 p357 (by first | exact q357 | exact odt ‹_› | (have e_ := (Kd.S_reads' HO_59.out).1; omega))
     obtain ⟨ve357_0, rfl, ge357_0⟩ := hMe357
     have hv357_0 := hcc357 0 _ rfl
     rw [Nat.add_zero, show ((Kd.slice 3 (Kd.int .i64))).sz = 1 from rfl, Nat.mul_one] at hv357_0
     replace hv357_0 := Option.some.inj (hv357_0.symm.trans hx357_0)
     rw [hv357_0] at ge357_0
     have HL357_0 := am (show Kd.R (Kd.int .i64) 3 _ _ _ _ (rd_L1 t343 x61_2) from ge357_0)
     clear hv357_0 ge357_0 hcc357 hce357
     have HR357_0 := am hi357_0
     have HC357_0 := am hl357_0
     clear hi357_0 hl357_0
     replace p357 := eq_true p357
     replace q357 := eq_true q357
     go_wp2
     go_loopg [67] k2 (fun kq v67 w' => ∃ (x6_3 : List Bool) (x67_3 : Int), v67 = .int .i64 x67_3 ∧ Aside0 (assessorlaw17_FlowBlocks.l1 kq t346 t349 x6_3 (rd_L1 t343 x61_2) t343 (t343.length : Int) x61_2 (rd_L1 t343 x61_2) ((rd_L1 t343 x61_2).length : Int) x67_3 l0_0 = some r) ∧ Aside0 (kq ≤ k2) ∧ Aside0 (Kd.R Kd.bool 4 w' w.heap.size (fun k_ => some k_ ≠ (v354 : Value).ownBlock) v347 t346) ∧ Aside0 (Kd.S (Kd.slice 3 (Kd.int .i64)) 27 w' w.heap.size (fun k_ => some k_ ≠ ((.slice (some ad357) t343.length co34) : Value).ownBlock) v350 t349) ∧ Aside0 (Kd.R Kd.bool 4 w' w.heap.size (fun k_ => some k_ ≠ (v347 : Value).ownBlock) v354 x6_3) ∧ Aside0 (Kd.S (Kd.slice 3 (Kd.int .i64)) 27 w' w.heap.size (fun k_ => some k_ ≠ (v350 : Value).ownBlock) (.slice (some ad357) t343.length co34) t343) ∧ Aside0 (Kd.R (Kd.int .i64) 3 w' w.heap.size (fun _ => True) (.slice A357_0 (rd_L1 t343 x61_2).length c357_0) (rd_L1 t343 x61_2)) ∧ Aside0 (w'.heap[gb340]? = some (.cells #[(.slice A0_0 l0_0.length c0_0)] 36 (0, 0))) ∧ Aside0 (Below w.heap.size w w'))
     case atStart => exact ⟨(x6_2), (0), (rfl), H', ⟨Nat.le_refl _⟩, ⟨HO_4.out⟩, ⟨HO_5.out⟩, ⟨HO_6.out⟩, ⟨HO_59.out⟩, ⟨Kd.R_mono HL357_0.out (fun _ _ => trivial)⟩, ⟨BK340.out⟩, ⟨HB.out⟩⟩
     case round =>
      clear H'
      clear c35b0 c36b0 c37b0 hx357_0 p357 q357
      obtain ⟨x6_3, x67_3, rfl, HA, HK3, HO_4, HO_5, HO_6, HO_59, HLr_, BK340, HB⟩ := hrel
      cases gk with
      | zero => exact absurd HA.out (by simp [assessorlaw17_FlowBlocks.l1])
      | succ k3 =>
       have H := HA.out
       clear HA
       simp only [assessorlaw17_FlowBlocks.l1] at H
       by_cases c38 : x67_3 < ((rd_L1 t343 x61_2).length : Int)
       rotate_left
       ·rw [if_neg c38] at H
        have c38b0 : decide (x67_3 < ((rd_L1 t343 x61_2).length : Int)) = false := decide_eq_false c38
        clear c38
        have H' := am H
        clear H
        go_wp2
        go_roundg k3
        case measure => have := HJ10.out; have := HK2.out; have := HK3.out; omega
        case rel => exact ⟨(x6_3), (wrap64 (x61_2 + 1)), (rfl), H', ⟨by have := HJ10.out; have := HK2.out; have := HK3.out; omega⟩, ⟨HO_4.out⟩, ⟨HO_5.out⟩, ⟨HO_6.out⟩, ⟨HO_59.out⟩, ⟨BK340.out⟩, ⟨HB.out⟩⟩
       rw [if_pos c38] at H
       have c38b0 : decide (x67_3 < ((rd_L1 t343 x61_2).length : Int)) = true := decide_eq_true c38
       clear c38
       by_cases c39 : 0 ≤ x67_3
       rotate_left
       ·rw [if_neg c39] at H
        exact absurd H (by simp)
       rw [if_pos c39] at H
       have c39b0 : decide (0 ≤ x67_3) = true := decide_eq_true c39
       clear c39
       by_cases c40 : x67_3 < ((rd_L1 t343 x61_2).length : Int)
       rotate_left
       ·rw [if_neg c40] at H
        exact absurd H (by simp)
       rw [if_pos c40] at H
       have c40b0 : decide (x67_3 < ((rd_L1 t343 x61_2).length : Int)) = true := decide_eq_true c40
       clear c40
       have HC41 := am H
       clear H
       have p358 : 0 ≤ (x67_3 : Int) := odt ‹_›
       have q358 : x67_3 < ((rd_L1 t343 x61_2).length : Int) := odt ‹_›
       obtain ⟨ad358, e358, hx358_0⟩ := Kd.at_int (Kd.R_reads' HLr_.out).2.2 x67_3 p358 q358
       cases e358
       skip
       replace p358 := eq_true p358
       replace q358 := eq_true q358
       go_upto_region 17 with (fail)
       go_cut [93] (fun v93 wc => ∃ (kq : Nat) (x93_40 : Bool), v93 = .bool x93_40 ∧ Aside0 (assessorlaw17_FlowBlocks.j3 kq t346 t349 x6_3 (rd_L1 t343 x61_2) x67_3 (rd (rd_L1 t343 x61_2) x67_3) t343 (t343.length : Int) x61_2 (rd_L1 t343 x61_2) ((rd_L1 t343 x61_2).length : Int) x67_3 x93_40 l0_0 = some r) ∧ Aside0 (kq ≤ k3) ∧ Aside0 (Kd.R Kd.bool 4 wc w.heap.size (fun k_ => some k_ ≠ (v354 : Value).ownBlock) v347 t346) ∧ Aside0 (Kd.S (Kd.slice 3 (Kd.int .i64)) 27 wc w.heap.size (fun k_ => some k_ ≠ ((.slice (some ad357) t343.length co34) : Value).ownBlock) v350 t349) ∧ Aside0 (Kd.R Kd.bool 4 wc w.heap.size (fun k_ => some k_ ≠ (v347 : Value).ownBlock) v354 x6_3) ∧ Aside0 (Kd.S (Kd.slice 3 (Kd.int .i64)) 27 wc w.heap.size (fun k_ => some k_ ≠ (v350 : Value).ownBlock) (.slice (some ad357) t343.length co34) t343) ∧ Aside0 (Kd.R (Kd.int .i64) 3 wc w.heap.size (fun _ => True) (.slice (some ad358) (rd_L1 t343 x61_2).length c357_0) (rd_L1 t343 x61_2)) ∧ Aside0 (wc.heap[gb340]? = some (.cells #[(.slice A0_0 l0_0.length c0_0)] 36 (0, 0))) ∧ Aside0 (Below w.heap.size w wc))
       case first =>
        have H := HC41.out
        clear HC41
        by_cases c42 : (rd (rd_L1 t343 x61_2) x67_3) < 0
        ·rw [if_pos c42] at H
         have c42b0 : decide ((rd (rd_L1 t343 x61_2) x67_3) < 0) = true := decide_eq_true c42
         clear c42
         (first | rw [c42b0] | (simp only [i64_w, i32_w]; rw [c42b0]) | skip)
         have H' := am H
         clear H
         go_wp2
         go_meet
         case rel => exact ⟨_, (true), (rfl), H', ⟨by have := HJ10.out; have := HK2.out; have := HK3.out; first | omega | exact Nat.le_refl _⟩, ⟨HO_4.out⟩, ⟨HO_5.out⟩, ⟨HO_6.out⟩, ⟨HO_59.out⟩, ⟨HLr_.out⟩, ⟨BK340.out⟩, ⟨HB.out⟩⟩
        rw [if_neg c42] at H
        have c42b0 : decide ((rd (rd_L1 t343 x61_2) x67_3) < 0) = false := decide_eq_false c42
        clear c42
        (first | rw [c42b0] | (simp only [i64_w, i32_w]; rw [c42b0]) | skip)
        by_cases c43 : (rd (rd_L1 t343 x61_2) x67_3) ≥ (l0_0.length : Int)
        ·rw [if_pos c43] at H
         have c43b0 : decide ((l0_0.length : Int) ≤ (rd (rd_L1 t343 x61_2) x67_3)) = true := decide_eq_true c43
         clear c43
         have H' := am H
         clear H
         have hcz44_0 : wr.cell? ⟨gb340, 0, none⟩ = some (.slice A0_0 l0_0.length c0_0) := (blk_cell BK340.out 0).trans rfl
         have hfz44_0 := blk_frozen BK340.out 0
         go_wp2
         go_meet
         case rel => exact ⟨_, (true), (rfl), H', ⟨by have := HJ10.out; have := HK2.out; have := HK3.out; first | omega | exact Nat.le_refl _⟩, ⟨HO_4.out⟩, ⟨HO_5.out⟩, ⟨HO_6.out⟩, ⟨HO_59.out⟩, ⟨HLr_.out⟩, ⟨BK340.out⟩, ⟨HB.out⟩⟩
        rw [if_neg c43] at H
        have c43b0 : decide ((l0_0.length : Int) ≤ (rd (rd_L1 t343 x61_2) x67_3)) = false := decide_eq_false c43
        clear c43
        by_cases c45 : 0 ≤ (rd (rd_L1 t343 x61_2) x67_3)
        rotate_left
        ·rw [if_neg c45] at H
         exact absurd H (by simp)
        rw [if_pos c45] at H
        have c45b0 : decide (0 ≤ (rd (rd_L1 t343 x61_2) x67_3)) = true := decide_eq_true c45
        clear c45
        by_cases c46 : (rd (rd_L1 t343 x61_2) x67_3) < (x6_3.length : Int)
        rotate_left
        ·rw [if_neg c46] at H
         exact absurd H (by simp)
        rw [if_pos c46] at H
        have c46b0 : decide ((rd (rd_L1 t343 x61_2) x67_3) < (x6_3.length : Int)) = true := decide_eq_true c46
        clear c46
        obtain ⟨bq47, hbq47⟩ : ∃ b_ : Bool, b_ = (rdOf false x6_3 (rd (rd_L1 t343 x61_2) x67_3)) := ⟨_, rfl⟩
        replace H : (if bq47 = true then (assessorlaw17_FlowBlocks.j3 k3 t346 t349 x6_3 (rd_L1 t343 x61_2) x67_3 (rd (rd_L1 t343 x61_2) x67_3) t343 (t343.length : Int) x61_2 (rd_L1 t343 x61_2) ((rd_L1 t343 x61_2).length : Int) x67_3 true l0_0) else (if (rd (rd_L1 t343 x61_2) x67_3) < (t346.length : Int) then (assessorlaw17_FlowBlocks.j3 k3 t346 t349 x6_3 (rd_L1 t343 x61_2) x67_3 (rd (rd_L1 t343 x61_2) x67_3) t343 (t343.length : Int) x61_2 (rd_L1 t343 x61_2) ((rd_L1 t343 x61_2).length : Int) x67_3 (!(rdOf false t346 (rd (rd_L1 t343 x61_2) x67_3))) l0_0) else (none))) = some r := by rw [← hbq47] at H; exact H
        have Nbq47 := am hbq47
        clear hbq47
        by_cases c48 : bq47 = true
        ·subst c48
         rw [if_pos rfl] at H
         have H' := am H
         clear H
         have hcz49_0 : wr.cell? ⟨gb340, 0, none⟩ = some (.slice A0_0 l0_0.length c0_0) := (blk_cell BK340.out 0).trans rfl
         have hfz49_0 := blk_frozen BK340.out 0
         obtain ⟨Ao50, co50, eo50⟩ := Kd.R_slice HO_6.out
         subst eo50
         have p359 : 0 ≤ ((rd (rd_L1 t343 x61_2) x67_3) : Int) := odt ‹_›
         have q359 : (rd (rd_L1 t343 x61_2) x67_3) < (x6_3.length : Int) := odt ‹_›
         obtain ⟨ad359, e359, hx359_0⟩ := Kd.at_bool (Kd.R_reads' HO_6.out).2.2 (rd (rd_L1 t343 x61_2) x67_3) p359 q359
         (try rw [← Nbq47.out] at hx359_0)
         cases e359
         replace p359 := eq_true p359
         replace q359 := eq_true q359
         go_wp2
         go_meet
         case rel => exact ⟨_, (true), (rfl), H', ⟨by have := HJ10.out; have := HK2.out; have := HK3.out; first | omega | exact Nat.le_refl _⟩, ⟨HO_4.out⟩, ⟨HO_5.out⟩, ⟨HO_6.out⟩, ⟨HO_59.out⟩, ⟨HLr_.out⟩, ⟨BK340.out⟩, ⟨HB.out⟩⟩
        replace c48 := Bool.eq_false_iff.mpr c48
        subst c48
        rw [if_neg (show ¬ (false = true) by decide)] at H
        by_cases c51 : (rd (rd_L1 t343 x61_2) x67_3) < (t346.length : Int)
        rotate_left
        ·rw [if_neg c51] at H
         exact absurd H (by simp)
        rw [if_pos c51] at H
        have c51b0 : decide ((rd (rd_L1 t343 x61_2) x67_3) < (t346.length : Int)) = true := decide_eq_true c51
        clear c51
        have H' := am H
        clear H
        have hcz52_0 : wr.cell? ⟨gb340, 0, none⟩ = some (.slice A0_0 l0_0.length c0_0) := (blk_cell BK340.out 0).trans rfl
        have hfz52_0 := blk_frozen BK340.out 0
        obtain ⟨Ao53, co53, eo53⟩ := Kd.R_slice HO_6.out
        subst eo53
        have p359 : 0 ≤ ((rd (rd_L1 t343 x61_2) x67_3) : Int) := odt ‹_›
        have q359 : (rd (rd_L1 t343 x61_2) x67_3) < (x6_3.length : Int) := odt ‹_›
        obtain ⟨ad359, e359, hx359_0⟩ := Kd.at_bool (Kd.R_reads' HO_6.out).2.2 (rd (rd_L1 t343 x61_2) x67_3) p359 q359
        (try rw [← Nbq47.out] at hx359_0)
        cases e359
        replace p359 := eq_true p359
        replace q359 := eq_true q359
        obtain ⟨Ao54, co54, eo54⟩ := Kd.R_slice HO_4.out
        subst eo54
        have p360 : 0 ≤ ((rd (rd_L1 t343 x61_2) x67_3) : Int) := odt ‹_›
        have q360 : (rd (rd_L1 t343 x61_2) x67_3) < (t346.length : Int) := odt ‹_›
        obtain ⟨ad360, e360, hx360_0⟩ := Kd.at_bool (Kd.R_reads' HO_4.out).2.2 (rd (rd_L1 t343 x61_2) x67_3) p360 q360
        (try rw [← Nbq47.out] at hx360_0)
        cases e360
        replace p360 := eq_true p360
        replace q360 := eq_true q360
        go_wp2
        go_meet
        case rel => exact ⟨_, (!(rdOf false t346 (rd (rd_L1 t343 x61_2) x67_3))), (rfl), H', ⟨by have := HJ10.out; have := HK2.out; have := HK3.out; first | omega | exact Nat.le_refl _⟩, ⟨HO_4.out⟩, ⟨HO_5.out⟩, ⟨HO_6.out⟩, ⟨HO_59.out⟩, ⟨HLr_.out⟩, ⟨BK340.out⟩, ⟨HB.out⟩⟩
       case rest =>
        clear HC41 c38b0 c39b0 c40b0 hx358_0 p358 q358
        obtain ⟨kq, x93_40, rfl, HA, HJ40, HO_4, HO_5, HO_6, HO_59, HLr_, BK340, HB⟩ := hcut
        cases kq with
        | zero => exact absurd HA.out (by simp [assessorlaw17_FlowBlocks.j3])
        | succ kj40 =>
         have H := HA.out
         clear HA
         simp only [assessorlaw17_FlowBlocks.j3] at H
         by_cases c55 : x93_40 = true
         ·subst c55
          rw [if_pos rfl] at H
          obtain rfl := Option.some.inj H
          go_wp2
          go_ret
          exact ⟨rfl, HB.out⟩
         replace c55 := Bool.eq_false_iff.mpr c55
         subst c55
         rw [if_neg (show ¬ (false = true) by decide)] at H
         by_cases c56 : 0 ≤ (rd (rd_L1 t343 x61_2) x67_3)
         rotate_left
         ·rw [if_neg c56] at H
          exact absurd H (by simp)
         rw [if_pos c56] at H
         have c56b0 : decide (0 ≤ (rd (rd_L1 t343 x61_2) x67_3)) = true := decide_eq_true c56
         clear c56
         by_cases c57 : (rd (rd_L1 t343 x61_2) x67_3) < (x6_3.length : Int)
         rotate_left
         ·rw [if_neg c57] at H
          exact absurd H (by simp)
         rw [if_pos c57] at H
         have c57b0 : decide ((rd (rd_L1 t343 x61_2) x67_3) < (x6_3.length : Int)) = true := decide_eq_true c57
         clear c57
         obtain ⟨y361, hy361⟩ : ∃ y_ : List Bool, y_ = (x6_3.set ((rd (rd_L1 t343 x61_2) x67_3) : Int).toNat true) := ⟨_, rfl⟩
         replace H : (if x67_3 = 0 then (assessorlaw17_FlowBlocks.l1 kj40 t346 t349 y361 (rd_L1 t343 x61_2) t343 (t343.length : Int) x61_2 (rd_L1 t343 x61_2) ((rd_L1 t343 x61_2).length : Int) (wrap64 (x67_3 + 1)) l0_0) else (if 0 ≤ (wrap64 (x67_3 - 1)) then (if (wrap64 (x67_3 - 1)) < ((rd_L1 t343 x61_2).length : Int) then (if 0 ≤ (rd (rd_L1 t343 x61_2) (wrap64 (x67_3 - 1))) then (if (rd (rd_L1 t343 x61_2) (wrap64 (x67_3 - 1))) < (l0_0.length : Int) then (if (((rd_T58 l0_0 (rd (rd_L1 t343 x61_2) (wrap64 (x67_3 - 1)))).f2).length : Int) = 1 then (if 0 < (((rd_T58 l0_0 (rd (rd_L1 t343 x61_2) (wrap64 (x67_3 - 1)))).f2).length : Int) then (assessorlaw17_FlowBlocks.j4 kj40 t346 t349 y361 (rd_L1 t343 x61_2) x67_3 (rd (rd_L1 t343 x61_2) x67_3) t343 (t343.length : Int) x61_2 (rd_L1 t343 x61_2) ((rd_L1 t343 x61_2).length : Int) x67_3 ((rd ((rd_T58 l0_0 (rd (rd_L1 t343 x61_2) (wrap64 (x67_3 - 1)))).f2) 0) != (rd (rd_L1 t343 x61_2) x67_3)) l0_0) else (none)) else (assessorlaw17_FlowBlocks.j4 kj40 t346 t349 y361 (rd_L1 t343 x61_2) x67_3 (rd (rd_L1 t343 x61_2) x67_3) t343 (t343.length : Int) x61_2 (rd_L1 t343 x61_2) ((rd_L1 t343 x61_2).length : Int) x67_3 true l0_0)) else (none)) else (none)) else (none)) else (none))) = some r := by first | (rw [hy361]; with_reducible exact H) | (have H2_ := (Option.bind_some _ _).symm.trans H; rw [hy361]; with_reducible exact H2_) | (have H2_ := (Option.bind_some _ _).symm.trans H; with_reducible exact H2_) | with_reducible exact H | (rw [hy361]; exact H) | exact H
         have Ny361 := am hy361
         clear hy361
         by_cases c59 : x67_3 = 0
         ·rw [if_pos c59] at H
          have c59b0 : (x67_3 == 0) = true := beq_iff_eq.mpr c59
          have c59b1 : (x67_3 != 0) = false := bne_eq_false_iff_eq.mpr c59
          clear c59
          have H' := am H
          clear H
          have p58 : 0 ≤ ((rd (rd_L1 t343 x61_2) x67_3) : Int) := odt ‹_›
          have q58 : ((rd (rd_L1 t343 x61_2) x67_3) : Int) < ((x6_3.length : Int) : Int) := odt ‹_›
          obtain ⟨go58, co58, eo58, gb58, gl58, cl58, HG58⟩ := Kd.R_form HO_6.out (by omega)
          (first | cases eo58 | (injection eo58 with ea_ en_ ec_; (first | subst ea_ | (injection ea_ with ea_; subst ea_)); subst ec_; clear en_))
          have GB58 := am gb58
          have GG58 := am HG58
          clear gb58 gl58 HG58
          obtain ⟨hx58_0, hf58_0⟩ := Kd.R_celln false HO_6.out ((rd (rd_L1 t343 x61_2) x67_3) : Int) p58 q58
          replace p58 := eq_true p58
          replace q58 := eq_true q58
          have HP60 := Kd.R_putg HO_6.out ((rd (rd_L1 t343 x61_2) x67_3) : Int) true
          go_wp2_with (first | ((with_reducible refine gate_store (t := 4) (p := 96) rfl ?_); refine store_event (t := 4) (p := 96) (v := ?vo_w61) (w1 := (wc.setCell ⟨go58, ((rd (rd_L1 t343 x61_2) x67_3) : Int).toNat, none⟩ (.bool true))) ?hg ?ho ?hn ?hr ?_; (case ho => rfl); (case hg => rfl); (case hn => rfl); (case hr => first | (go_simp; done) | (go_simp; rfl)); intro w61 hw; have hg : wc.grownBy w61 (some go58) := (by rw [hw]; exact HP60.2); have hp_ : Kd.R Kd.bool 4 w61 w.heap.size (fun k_ => some k_ ≠ (v347 : Value).ownBlock) (.slice (some ⟨go58, 0, none⟩) x6_3.length co58) y361 := (by rw [hw, Ny361.out]; exact HP60.1); clear HP60; have n0_ := am (Kd.R_after (v := (.slice (some ⟨go58, 0, none⟩) x6_3.length co58)) (v1 := (.slice (some ⟨go58, 0, none⟩) x6_3.length co58)) (ok := (fun _ => True)) (Kd.R_mono HO_4.out (fun _ hk => ⟨trivial, hk⟩)) hg (.inl rfl)); have n1_ := am (Kd.S_over' (v := (.slice (some ⟨go58, 0, none⟩) x6_3.length co58)) (HO_5.out) (Kd.R_typed HO_6.out) (by decide) hg); have n2_ := am (hp_); have n3_ := am (Kd.S_over' (v := (.slice (some ⟨go58, 0, none⟩) x6_3.length co58)) (HO_59.out) (Kd.R_typed HO_6.out) (by decide) hg); have nL_ := am (Kd.R_over' (v := (.slice (some ⟨go58, 0, none⟩) x6_3.length co58)) (HLr_.out) (Kd.R_typed HO_6.out) (by decide) hg); clear HLr_; have HLr_ := nL_; clear nL_; have n4_ := am (blk_grown (g := gb340) (o := .cells #[.slice A0_0 l0_0.length c0_0] 36 (0, 0)) (BK340.out) hg (Kd.R_ne HO_6.out BK340.out (by decide))); have n5_ := am ((by rw [hw]; exact below_set (HB.out) GB58.out : Below w.heap.size w w61)); clear HO_4; clear HO_5; clear HO_6; clear HO_59; clear BK340; clear HB; have HO_4 := n0_; have HO_5 := n1_; have HO_6 := n2_; have HO_59 := n3_; have BK340 := n4_; have HB := n5_; clear n0_ n1_ n2_ n3_ n4_ n5_; clear hg hw hp_))
          go_roundg kj40
          case measure => have := HJ10.out; have := HK2.out; have := HK3.out; have := HJ40.out; omega
          case rel => exact ⟨(y361), (wrap64 (x67_3 + 1)), (rfl), H', ⟨by have := HJ10.out; have := HK2.out; have := HK3.out; have := HJ40.out; omega⟩, ⟨Kd.R_mono HO_4.out (fun _ hk => hk.2)⟩, ⟨HO_5.out⟩, ⟨HO_6.out⟩, ⟨HO_59.out⟩, ⟨HLr_.out⟩, ⟨BK340.out⟩, ⟨HB.out⟩⟩
         rw [if_neg c59] at H
         have c59b0 : (x67_3 == 0) = false := beq_eq_false_iff_ne.mpr c59
         have c59b1 : (x67_3 != 0) = true := bne_iff_ne.mpr c59
         obtain ⟨ji62, hji62⟩ : ∃ j_ : Int, (wrap64 (x67_3 - 1)) = j_ := ⟨_, rfl⟩
         replace H : (if 0 ≤ (ji62) then (if (ji62) < ((rd_L1 t343 x61_2).length : Int) then (if 0 ≤ (rd (rd_L1 t343 x61_2) (ji62)) then (if (rd (rd_L1 t343 x61_2) (ji62)) < (l0_0.length : Int) then (if (((rd_T58 l0_0 (rd (rd_L1 t343 x61_2) (ji62))).f2).length : Int) = 1 then (if 0 < (((rd_T58 l0_0 (rd (rd_L1 t343 x61_2) (ji62))).f2).length : Int) then (assessorlaw17_FlowBlocks.j4 kj40 t346 t349 y361 (rd_L1 t343 x61_2) x67_3 (rd (rd_L1 t343 x61_2) x67_3) t343 (t343.length : Int) x61_2 (rd_L1 t343 x61_2) ((rd_L1 t343 x61_2).length : Int) x67_3 ((rd ((rd_T58 l0_0 (rd (rd_L1 t343 x61_2) (ji62))).f2) 0) != (rd (rd_L1 t343 x61_2) x67_3)) l0_0) else (none)) else (assessorlaw17_FlowBlocks.j4 kj40 t346 t349 y361 (rd_L1 t343 x61_2) x67_3 (rd (rd_L1 t343 x61_2) x67_3) t343 (t343.length : Int) x61_2 (rd_L1 t343 x61_2) ((rd_L1 t343 x61_2).length : Int) x67_3 true l0_0)) else (none)) else (none)) else (none)) else (none)) = some r := by first | (rw [hji62] at H; exact H) | (simp only [hji62] at H ⊢; exact H)
         have hji62w : (IntKind.i64.wrap (x67_3 - 1)) = ji62 := (i64_w _).trans hji62
         by_cases c63 : 0 ≤ (ji62)
         rotate_left
         ·rw [if_neg c63] at H
          exact absurd H (by simp)
         rw [if_pos c63] at H
         have c63b0 : decide (0 ≤ (ji62)) = true := decide_eq_true c63
         clear c63
         by_cases c64 : (ji62) < ((rd_L1 t343 x61_2).length : Int)
         rotate_left
         ·rw [if_neg c64] at H
          exact absurd H (by simp)
         rw [if_pos c64] at H
         have c64b0 : decide ((ji62) < ((rd_L1 t343 x61_2).length : Int)) = true := decide_eq_true c64
         clear c64
         by_cases c65 : 0 ≤ (rd (rd_L1 t343 x61_2) (ji62))
         rotate_left
         ·rw [if_neg c65] at H
          exact absurd H (by simp)
         rw [if_pos c65] at H
         have c65b0 : decide (0 ≤ (rd (rd_L1 t343 x61_2) (ji62))) = true := decide_eq_true c65
         clear c65
         by_cases c66 : (rd (rd_L1 t343 x61_2) (ji62)) < (l0_0.length : Int)
         rotate_left
         ·rw [if_neg c66] at H
          exact absurd H (by simp)
         rw [if_pos c66] at H
         have c66b0 : decide ((rd (rd_L1 t343 x61_2) (ji62)) < (l0_0.length : Int)) = true := decide_eq_true c66
         clear c66
         have HC67 := am H
         clear H
         have p58 : 0 ≤ ((rd (rd_L1 t343 x61_2) x67_3) : Int) := odt ‹_›
         have q58 : ((rd (rd_L1 t343 x61_2) x67_3) : Int) < ((x6_3.length : Int) : Int) := odt ‹_›
         obtain ⟨go58, co58, eo58, gb58, gl58, cl58, HG58⟩ := Kd.R_form HO_6.out (by omega)
         (first | cases eo58 | (injection eo58 with ea_ en_ ec_; (first | subst ea_ | (injection ea_ with ea_; subst ea_)); subst ec_; clear en_))
         have GB58 := am gb58
         have GG58 := am HG58
         clear gb58 gl58 HG58
         obtain ⟨hx58_0, hf58_0⟩ := Kd.R_celln false HO_6.out ((rd (rd_L1 t343 x61_2) x67_3) : Int) p58 q58
         replace p58 := eq_true p58
         replace q58 := eq_true q58
         have HP68 := Kd.R_putg HO_6.out ((rd (rd_L1 t343 x61_2) x67_3) : Int) true
         try go_wp2_with (first | ((with_reducible refine gate_store (t := 4) (p := 96) rfl ?_); refine store_event (t := 4) (p := 96) (v := ?vo_w69) (w1 := (wc.setCell ⟨go58, ((rd (rd_L1 t343 x61_2) x67_3) : Int).toNat, none⟩ (.bool true))) ?hg ?ho ?hn ?hr ?_; (case ho => rfl); (case hg => rfl); (case hn => rfl); (case hr => first | (go_simp; done) | (go_simp; rfl)); intro w69 hw; have hg : wc.grownBy w69 (some go58) := (by rw [hw]; exact HP68.2); have hp_ : Kd.R Kd.bool 4 w69 w.heap.size (fun k_ => some k_ ≠ (v347 : Value).ownBlock) (.slice (some ⟨go58, 0, none⟩) x6_3.length co58) y361 := (by rw [hw, Ny361.out]; exact HP68.1); clear HP68; have n0_ := am (Kd.R_after (v := (.slice (some ⟨go58, 0, none⟩) x6_3.length co58)) (v1 := (.slice (some ⟨go58, 0, none⟩) x6_3.length co58)) (ok := (fun _ => True)) (Kd.R_mono HO_4.out (fun _ hk => ⟨trivial, hk⟩)) hg (.inl rfl)); have n1_ := am (Kd.S_over' (v := (.slice (some ⟨go58, 0, none⟩) x6_3.length co58)) (HO_5.out) (Kd.R_typed HO_6.out) (by decide) hg); have n2_ := am (hp_); have n3_ := am (Kd.S_over' (v := (.slice (some ⟨go58, 0, none⟩) x6_3.length co58)) (HO_59.out) (Kd.R_typed HO_6.out) (by decide) hg); have nL_ := am (Kd.R_over' (v := (.slice (some ⟨go58, 0, none⟩) x6_3.length co58)) (HLr_.out) (Kd.R_typed HO_6.out) (by decide) hg); clear HLr_; have HLr_ := nL_; clear nL_; have n4_ := am (blk_grown (g := gb340) (o := .cells #[.slice A0_0 l0_0.length c0_0] 36 (0, 0)) (BK340.out) hg (Kd.R_ne HO_6.out BK340.out (by decide))); have n5_ := am ((by rw [hw]; exact below_set (HB.out) GB58.out : Below w.heap.size w w69)); clear HO_4; clear HO_5; clear HO_6; clear HO_59; clear BK340; clear HB; have HO_4 := n0_; have HO_5 := n1_; have HO_6 := n2_; have HO_59 := n3_; have BK340 := n4_; have HB := n5_; clear n0_ n1_ n2_ n3_ n4_ n5_; clear hg hw hp_))
         have n0_ := am (Kd.R_drew HO_4.out)
         have n1_ := am (Kd.S_drew HO_5.out)
         have n2_ := am (Kd.R_drew HO_6.out)
         have n3_ := am (Kd.S_drew HO_59.out)
         replace HLr_ := am (Kd.R_drew HLr_.out)
         have n4_ := am (blk_drew BK340.out)
         have n5_ := am (below_drew1 HB.out)
         clear HO_4 HO_5 HO_6 HO_59 BK340 HB
         have HO_4 := n0_
         have HO_5 := n1_
         have HO_6 := n2_
         have HO_59 := n3_
         have BK340 := n4_
         have HB := n5_
         clear n0_ n1_ n2_ n3_ n4_ n5_
         have p362 : 0 ≤ ((ji62) : Int) := odt ‹_›
         have q362 : (ji62) < ((rd_L1 t343 x61_2).length : Int) := odt ‹_›
         obtain ⟨ad362, e362, hx362_0⟩ := Kd.at_int (Kd.R_reads' HLr_.out).2.2 (ji62) p362 q362
         have hw362_0 := hx362_0
         obtain rfl : ad358 = ad362 := (by injection e362)
         skip
         replace p362 := eq_true p362
         replace q362 := eq_true q362
         have p363 : 0 ≤ ((rd (rd_L1 t343 x61_2) (ji62)) : Int) := odt ‹_›
         have q363 : (rd (rd_L1 t343 x61_2) (ji62)) < (l0_0.length : Int) := odt ‹_›
         obtain ⟨ad363, A363_2, c363_2, e363, hx363_0, hx363_1, hx363_2, hl363_2, hi363_2⟩ := at_T58 HR0_0.out (rd (rd_L1 t343 x61_2) (ji62)) p363 q363
         have hw363_2 := hx363_2
         have hw363_1 := hx363_1
         have hw363_0 := hx363_0
         cases e363
         replace hx363_0 := (HB.out.cell (blc w _ hx363_0)).trans hx363_0
         replace hx363_1 := (HB.out.cell (blc w _ hx363_1)).trans hx363_1
         replace hx363_2 := (HB.out.cell (blc w _ hx363_2)).trans hx363_2
         have HR363_2 := am hi363_2
         have HC363_2 := am hl363_2
         clear hi363_2 hl363_2
         replace p363 := eq_true p363
         replace q363 := eq_true q363
         refine start_ (n := 11) (S := fun w' => w'.cell? ⟨gb340, 0, none⟩ = some (.slice (some ad363) l0_0.length c0_0) ∧ w'.cell? (ad358.add ((ji62)).toNat) = some (.int .i64 (rd (rd_L1 t343 x61_2) (ji62))) ∧ w'.cell? (ad363.add (((rd (rd_L1 t343 x61_2) (ji62))).toNat * 3)) = some (.int .i64 ((rd_T58 l0_0 (rd (rd_L1 t343 x61_2) (ji62))).f0)) ∧ w'.cell? ⟨(ad363.add (((rd (rd_L1 t343 x61_2) (ji62))).toNat * 3)).block, (ad363.add (((rd (rd_L1 t343 x61_2) (ji62))).toNat * 3)).off + 1, none⟩ = some (.int .i64 ((rd_T58 l0_0 (rd (rd_L1 t343 x61_2) (ji62))).f1)) ∧ w'.cell? ⟨(ad363.add (((rd (rd_L1 t343 x61_2) (ji62))).toNat * 3)).block, (ad363.add (((rd (rd_L1 t343 x61_2) (ji62))).toNat * 3)).off + 2, none⟩ = some (.slice A363_2 ((rd_T58 l0_0 (rd (rd_L1 t343 x61_2) (ji62))).f2).length c363_2)) (ds := []) #[false, false, false, false, false, false, false, false, false, false, false] (by kernel_rfl) rfl rfl ⟨(blk_cell BK340.out 0).trans rfl, hw362_0, ((HB.out.cell (blc w _ hw363_0)).trans hw363_0), ((HB.out.cell (blc w _ hw363_1)).trans hw363_1), ((HB.out.cell (blc w _ hw363_2)).trans hw363_2)⟩ (fun hHeld => ?_); refine with_tabW assessorlaw17_FlowBlocks.tab21 assessorlaw17_FlowBlocks.bits21 (fun HT_ HW_ => ?_)
         generalize w69.drew = w70 at HO_4 HO_5 HO_6 HO_59 HLr_ BK340 HB HR363_2 hx362_0 hx363_0 hx363_1 hx363_2 hHeld ⊢
         refine pure_ (i := 0) (N := some 99) (v := ?_) (a' := ?_) #[true, false, false, false, false, false, false, false, false, false, false] rfl rfl (any_of HT_.out (by kernel_rfl)) (fun _ _ _ h => h) (Or.inl ⟨by rfl, ?_⟩) ?_ ?_
         rotate_left
         ·intro w'
          go_simp
          with_reducible rfl
         rotate_left
         ·simp only [Act.put, List.setIfInBounds_toArray, List.set_cons_zero, List.set_cons_succ, i64_w, i32_w]
          rfl
         refine pure_ (i := 2) (N := some 101) (v := ?_) (a' := ?_) #[true, false, true, false, false, false, false, false, false, false, false] rfl rfl (any_of HT_.out (by kernel_rfl)) (fun _ _ _ h => h) (Or.inl ⟨by rfl, ?_⟩) ?_ ?_
         rotate_left
         ·intro w'
          go_simp
          with_reducible rfl
         rotate_left
         ·simp only [Act.put, List.setIfInBounds_toArray, List.set_cons_zero, List.set_cons_succ, i64_w, i32_w]
          rfl
         refine pure_ (i := 3) (N := some 102) (v := ?_) (a' := ?_) #[true, false, true, true, false, false, false, false, false, false, false] rfl rfl (any_of HT_.out (by kernel_rfl)) (fun _ _ _ h => h) (Or.inl ⟨by rfl, ?_⟩) ?_ ?_
         rotate_left
         ·intro w'
          go_simp
          with_reducible rfl
         rotate_left
         ·simp only [Act.put, List.setIfInBounds_toArray, List.set_cons_zero, List.set_cons_succ, i64_w, i32_w]
          rfl
         refine pure_ (i := 4) (N := some 103) (v := ?_) (a' := ?_) #[true, false, true, true, true, false, false, false, false, false, false] rfl rfl (any_of HT_.out (by kernel_rfl)) (fun _ _ _ h => h) (Or.inl ⟨by rfl, ?_⟩) ?_ ?_
         rotate_left
         ·intro w'
          go_simp
          with_reducible rfl
         rotate_left
         ·simp only [Act.put, List.setIfInBounds_toArray, List.set_cons_zero, List.set_cons_succ, i64_w, i32_w]
          rfl
         refine pure_ (i := 5) (N := some 104) (v := ?_) (a' := ?_) #[true, false, true, true, true, true, false, false, false, false, false] rfl rfl (any_of HT_.out (by kernel_rfl)) (fun _ _ _ h => h) (Or.inl ⟨by rfl, ?_⟩) ?_ ?_
         rotate_left
         ·intro w'
          go_simp
          with_reducible rfl
         rotate_left
         ·simp only [Act.put, List.setIfInBounds_toArray, List.set_cons_zero, List.set_cons_succ, i64_w, i32_w]
          rfl
         refine take_ (i := 1) (N := some 100) (v := ?_) (a' := ?_) #[true, true, true, true, true, true, false, false, false, false, false] rfl rfl (take_ofW HT_.out HW_.out (by kernel_rfl)) (fun _ _ _ h => h) (Or.inl ⟨by rfl, ?_⟩) hHeld ?_ ?_
         rotate_left
         ·rintro w' ⟨s0, s1, s2, s3, s4⟩
          go_simp
          with_reducible rfl
         rotate_left
         ·simp only [Act.put, List.setIfInBounds_toArray, List.set_cons_zero, List.set_cons_succ, i64_w, i32_w]
          rfl
         refine take_ (i := 6) (N := some 105) (v := ?_) (a' := ?_) #[true, true, true, true, true, true, true, false, false, false, false] rfl rfl (take_ofW HT_.out HW_.out (by kernel_rfl)) (fun _ _ _ h => h) (Or.inl ⟨by rfl, ?_⟩) hHeld ?_ ?_
         rotate_left
         ·rintro w' ⟨s0, s1, s2, s3, s4⟩
          go_simp
          with_reducible rfl
         rotate_left
         ·simp only [Act.put, List.setIfInBounds_toArray, List.set_cons_zero, List.set_cons_succ, i64_w, i32_w]
          rfl
         refine pure_ (i := 7) (N := some 106) (v := ?_) (a' := ?_) #[true, true, true, true, true, true, true, true, false, false, false] rfl rfl (any_of HT_.out (by kernel_rfl)) (fun _ _ _ h => h) (Or.inl ⟨by rfl, ?_⟩) ?_ ?_
         rotate_left
         ·intro w'
          go_simp
          with_reducible rfl
         rotate_left
         ·simp only [Act.put, List.setIfInBounds_toArray, List.set_cons_zero, List.set_cons_succ, i64_w, i32_w]
          rfl
         refine pure_ (i := 8) (N := some 107) (v := ?_) (a' := ?_) #[true, true, true, true, true, true, true, true, true, false, false] rfl rfl (any_of HT_.out (by kernel_rfl)) (fun _ _ _ h => h) (Or.inl ⟨by rfl, ?_⟩) ?_ ?_
         rotate_left
         ·intro w'
          go_simp
          with_reducible rfl
         rotate_left
         ·simp only [Act.put, List.setIfInBounds_toArray, List.set_cons_zero, List.set_cons_succ, i64_w, i32_w]
          rfl
         refine take_ (i := 9) (N := some 108) (v := ?_) (a' := ?_) #[true, true, true, true, true, true, true, true, true, true, false] rfl rfl (take_ofW HT_.out HW_.out (by kernel_rfl)) (fun _ _ _ h => h) (Or.inl ⟨by rfl, ?_⟩) hHeld ?_ ?_
         rotate_left
         ·rintro w' ⟨s0, s1, s2, s3, s4⟩
          go_simp
          with_reducible rfl
         rotate_left
         ·simp only [Act.put, List.setIfInBounds_toArray, List.set_cons_zero, List.set_cons_succ, i64_w, i32_w]
          rfl
         refine pure_ (i := 10) (N := some 11) (v := ?_) (a' := ?_) #[true, true, true, true, true, true, true, true, true, true, true] rfl rfl (any_of HT_.out (by kernel_rfl)) (fun _ _ _ h => h) (Or.inl ⟨by rfl, ?_⟩) ?_ ?_
         rotate_left
         ·intro w'
          go_simp
          with_reducible rfl
         rotate_left
         ·simp only [Act.put, List.setIfInBounds_toArray, List.set_cons_zero, List.set_cons_succ, i64_w, i32_w]
          rfl
         refine done_ (done_of HT_.out (by kernel_rfl)) ?_
         go_upto_region 22 with (fail)
         go_cut [118] (fun v118 wc => ∃ (kq : Nat) (x118_66 : Bool), v118 = .bool x118_66 ∧ Aside0 (assessorlaw17_FlowBlocks.j4 kq t346 t349 y361 (rd_L1 t343 x61_2) x67_3 (rd (rd_L1 t343 x61_2) x67_3) t343 (t343.length : Int) x61_2 (rd_L1 t343 x61_2) ((rd_L1 t343 x61_2).length : Int) x67_3 x118_66 l0_0 = some r) ∧ Aside0 (kq ≤ kj40) ∧ Aside0 (Kd.R Kd.bool 4 wc w.heap.size (fun k_ => some k_ ≠ ((.slice (some ⟨go58, 0, none⟩) x6_3.length co58) : Value).ownBlock) v347 t346) ∧ Aside0 (Kd.S (Kd.slice 3 (Kd.int .i64)) 27 wc w.heap.size (fun k_ => some k_ ≠ ((.slice (some ad357) t343.length co34) : Value).ownBlock) v350 t349) ∧ Aside0 (Kd.R Kd.bool 4 wc w.heap.size (fun k_ => some k_ ≠ (v347 : Value).ownBlock) (.slice (some ⟨go58, 0, none⟩) x6_3.length co58) y361) ∧ Aside0 (Kd.S (Kd.slice 3 (Kd.int .i64)) 27 wc w.heap.size (fun k_ => some k_ ≠ (v350 : Value).ownBlock) (.slice (some ad357) t343.length co34) t343) ∧ Aside0 (Kd.R (Kd.int .i64) 3 wc w.heap.size (fun _ => True) (.slice (some ad358) (rd_L1 t343 x61_2).length c357_0) (rd_L1 t343 x61_2)) ∧ Aside0 (wc.heap[gb340]? = some (.cells #[(.slice (some ad363) l0_0.length c0_0)] 36 (0, 0))) ∧ Aside0 (Below w.heap.size w wc))
         case first =>
          have H := HC67.out
          clear HC67
          by_cases c71 : (((rd_T58 l0_0 (rd (rd_L1 t343 x61_2) (ji62))).f2).length : Int) = 1
          rotate_left
          ·rw [if_neg c71] at H
           have c71b0 : ((((rd_T58 l0_0 (rd (rd_L1 t343 x61_2) (ji62))).f2).length : Int) == 1) = false := beq_eq_false_iff_ne.mpr c71
           have c71b1 : ((((rd_T58 l0_0 (rd (rd_L1 t343 x61_2) (ji62))).f2).length : Int) != 1) = true := bne_iff_ne.mpr c71
           (first | rw [c71b0] | (simp only [i64_w, i32_w]; rw [c71b0]) | skip)
           have H' := am H
           clear H
           go_wp2
           go_meet
           case rel => exact ⟨_, (true), (rfl), H', ⟨by have := HJ10.out; have := HK2.out; have := HK3.out; have := HJ40.out; first | omega | exact Nat.le_refl _⟩, ⟨Kd.R_mono HO_4.out (fun _ hk => hk.2)⟩, ⟨HO_5.out⟩, ⟨HO_6.out⟩, ⟨HO_59.out⟩, ⟨HLr_.out⟩, ⟨BK340.out⟩, ⟨HB.out⟩⟩
          rw [if_pos c71] at H
          have c71b0 : ((((rd_T58 l0_0 (rd (rd_L1 t343 x61_2) (ji62))).f2).length : Int) == 1) = true := beq_iff_eq.mpr c71
          have c71b1 : ((((rd_T58 l0_0 (rd (rd_L1 t343 x61_2) (ji62))).f2).length : Int) != 1) = false := bne_eq_false_iff_eq.mpr c71
          clear c71
          (first | rw [c71b0] | (simp only [i64_w, i32_w]; rw [c71b0]) | skip)
          by_cases c72 : 0 < (((rd_T58 l0_0 (rd (rd_L1 t343 x61_2) (ji62))).f2).length : Int)
          rotate_left
          ·rw [if_neg c72] at H
           exact absurd H (by simp)
          rw [if_pos c72] at H
          have c72b0 : decide (0 < (((rd_T58 l0_0 (rd (rd_L1 t343 x61_2) (ji62))).f2).length : Int)) = true := decide_eq_true c72
          have c72b1 : decide (0 < ((rd_T58 l0_0 (rd (rd_L1 t343 x61_2) (ji62))).f2).length) = true := decide_eq_true (by omega)
          clear c72
          have H' := am H
          clear H
          have p364 : 0 ≤ (0 : Int) := (by omega)
          have q364 : 0 < (((rd_T58 l0_0 (rd (rd_L1 t343 x61_2) (ji62))).f2).length : Int) := odt ‹_›
          obtain ⟨ad364, e364, hx364_0⟩ := Kd.at_int HR363_2.out 0 p364 q364
          cases e364
          have qi364 : (0 < ((rd_T58 l0_0 (rd (rd_L1 t343 x61_2) (ji62))).f2).length) = True := eq_true (by omega)
          (try rw [show ((0 : Int)).toNat = 0 from rfl] at hx364_0)
          (try rw [Addr.add_zero'] at hx364_0)
          replace hx364_0 := (HB.out.cell (blc w _ hx364_0)).trans hx364_0
          replace p364 := eq_true p364
          replace q364 := eq_true q364
          go_wp2
          go_meet
          case rel => exact ⟨_, (((rd ((rd_T58 l0_0 (rd (rd_L1 t343 x61_2) (ji62))).f2) 0) != (rd (rd_L1 t343 x61_2) x67_3))), (rfl), H', ⟨by have := HJ10.out; have := HK2.out; have := HK3.out; have := HJ40.out; first | omega | exact Nat.le_refl _⟩, ⟨Kd.R_mono HO_4.out (fun _ hk => hk.2)⟩, ⟨HO_5.out⟩, ⟨HO_6.out⟩, ⟨HO_59.out⟩, ⟨HLr_.out⟩, ⟨BK340.out⟩, ⟨HB.out⟩⟩
         case rest =>
          clear HC67 c56b0 c57b0 p58 q58 c59 c59b0 c59b1 c63b0 c64b0 c65b0 c66b0 hx362_0 hx363_0 hx363_1 hx363_2 hx58_0 p362 p363 q362 q363
          obtain ⟨kq, x118_66, rfl, HA, HJ66, HO_4, HO_5, HO_6, HO_59, HLr_, BK340, HB⟩ := hcut
          have hl6_66 := (Kd.R_reads' HO_6.out).1
          rw [hl6_66] at HO_6
          (try simp only [hl6_66])
          (try simp only [hl6_66] at BK340)
          (try simp only [hl6_66] at HO_4)
          (try simp only [hl6_66] at HO_5)
          (try simp only [hl6_66] at HO_59)
          cases kq with
          | zero => exact absurd HA.out (by simp [assessorlaw17_FlowBlocks.j4])
          | succ kj66 =>
           have H := HA.out
           clear HA
           simp only [assessorlaw17_FlowBlocks.j4] at H
           by_cases c73 : x118_66 = true
           ·subst c73
            rw [if_pos rfl] at H
            obtain rfl := Option.some.inj H
            go_wp2
            go_ret
            exact ⟨rfl, HB.out⟩
           replace c73 := Bool.eq_false_iff.mpr c73
           subst c73
           rw [if_neg (show ¬ (false = true) by decide)] at H
           by_cases c74 : 0 ≤ (rd (rd_L1 t343 x61_2) x67_3)
           rotate_left
           ·rw [if_neg c74] at H
            exact absurd H (by simp)
           rw [if_pos c74] at H
           have c74b0 : decide (0 ≤ (rd (rd_L1 t343 x61_2) x67_3)) = true := decide_eq_true c74
           clear c74
           by_cases c75 : (rd (rd_L1 t343 x61_2) x67_3) < (t349.length : Int)
           rotate_left
           ·rw [if_neg c75] at H
            exact absurd H (by simp)
           rw [if_pos c75] at H
           have c75b0 : decide ((rd (rd_L1 t343 x61_2) x67_3) < (t349.length : Int)) = true := decide_eq_true c75
           clear c75
           have H' := am H
           clear H
           obtain ⟨Ao76, co76, eo76⟩ := Kd.S_slice HO_5.out
           subst eo76
           have p365 : 0 ≤ ((rd (rd_L1 t343 x61_2) x67_3) : Int) := odt ‹_›
           have q365 : (rd (rd_L1 t343 x61_2) x67_3) < (t349.length : Int) := odt ‹_›
           obtain ⟨ad365, A365_0, c365_0, e365, hx365_0, hl365_0, hi365_0⟩ := at_L1 (Kd.S_reads' HO_5.out).2.2 (rd (rd_L1 t343 x61_2) x67_3) p365 q365
           cases e365
           obtain ⟨ce365, hce365, hMe365, hcc365⟩ := Kd.S_get HO_5.out [] (rd (rd_L1 t343 x61_2) x67_3) p365 (by first | exact q365 | exact odt ‹_› | (have e_ := (Kd.S_reads' HO_5.out).1; omega))
           obtain ⟨ve365_0, rfl, ge365_0⟩ := hMe365
           have hv365_0 := hcc365 0 _ rfl
           rw [Nat.add_zero, show ((Kd.slice 3 (Kd.int .i64))).sz = 1 from rfl, Nat.mul_one] at hv365_0
           replace hv365_0 := Option.some.inj (hv365_0.symm.trans hx365_0)
           rw [hv365_0] at ge365_0
           have HL365_0 := am (show Kd.R (Kd.int .i64) 3 _ _ _ _ (rd_L1 t349 (rd (rd_L1 t343 x61_2) x67_3)) from ge365_0)
           clear hv365_0 ge365_0 hcc365 hce365
           have HR365_0 := am hi365_0
           have HC365_0 := am hl365_0
           clear hi365_0 hl365_0
           replace p365 := eq_true p365
           replace q365 := eq_true q365
           go_wp2
           go_loopg [124] kj66 (fun kq v124 w' => ∃ (x124_6 : Int), v124 = .int .i64 x124_6 ∧ Aside0 (assessorlaw17_FlowBlocks.l2 kq t346 t349 y361 (rd_L1 t343 x61_2) x67_3 t343 (t343.length : Int) x61_2 (rd_L1 t343 x61_2) ((rd_L1 t343 x61_2).length : Int) x67_3 (rd_L1 t349 (rd (rd_L1 t343 x61_2) x67_3)) ((rd_L1 t349 (rd (rd_L1 t343 x61_2) x67_3)).length : Int) x124_6 l0_0 = some r) ∧ Aside0 (kq ≤ kj66) ∧ Aside0 (Kd.R Kd.bool 4 w' w.heap.size (fun k_ => some k_ ≠ ((.slice (some ⟨go58, 0, none⟩) y361.length co58) : Value).ownBlock) v347 t346) ∧ Aside0 (Kd.S (Kd.slice 3 (Kd.int .i64)) 27 w' w.heap.size (fun k_ => some k_ ≠ ((.slice (some ad357) t343.length co34) : Value).ownBlock) (.slice (some ad365) t349.length co76) t349) ∧ Aside0 (Kd.R Kd.bool 4 w' w.heap.size (fun k_ => some k_ ≠ (v347 : Value).ownBlock) (.slice (some ⟨go58, 0, none⟩) y361.length co58) y361) ∧ Aside0 (Kd.S (Kd.slice 3 (Kd.int .i64)) 27 w' w.heap.size (fun k_ => some k_ ≠ ((.slice (some ad365) t349.length co76) : Value).ownBlock) (.slice (some ad357) t343.length co34) t343) ∧ Aside0 (Kd.R (Kd.int .i64) 3 w' w.heap.size (fun _ => True) (.slice (some ad358) (rd_L1 t343 x61_2).length c357_0) (rd_L1 t343 x61_2)) ∧ Aside0 (w'.heap[gb340]? = some (.cells #[(.slice (some ad363) l0_0.length c0_0)] 36 (0, 0))) ∧ Aside0 (Kd.C (Kd.int .i64) w' A365_0 (rd_L1 t349 (rd (rd_L1 t343 x61_2) x67_3)).length (rd_L1 t349 (rd (rd_L1 t343 x61_2) x67_3))) ∧ Aside0 (Below w.heap.size w w'))
           case atStart => exact ⟨(0), (rfl), H', ⟨Nat.le_refl _⟩, ⟨by (try simp only [hl6_66]); (with_reducible repeat (first | apply Kd.R_alloc | apply Kd.R_drewN | apply Kd.R_drew)); exact HO_4.out⟩, ⟨by (try simp only [hl6_66]); (with_reducible repeat (first | apply Kd.S_alloc | apply Kd.S_drewN | apply Kd.S_drew)); exact HO_5.out⟩, ⟨by (try simp only [hl6_66]); (with_reducible repeat (first | apply Kd.R_alloc | apply Kd.R_drewN | apply Kd.R_drew)); exact HO_6.out⟩, ⟨by (try simp only [hl6_66]); (with_reducible repeat (first | apply Kd.S_alloc | apply Kd.S_drewN | apply Kd.S_drew)); exact HO_59.out⟩, ⟨HLr_.out⟩, ⟨by (try simp only [hl6_66]); (with_reducible repeat (first | refine blk_drewN ?_ _ | refine blk_drew ?_ | refine blk_alloc ?_ _)); exact BK340.out⟩, ⟨by repeat (first | (with_reducible exact HR365_0.out) | (with_reducible refine Kd.C_alloc ?_ _) | (with_reducible refine Kd.C_drewN ?_ _) | (with_reducible refine Kd.C_drew ?_) | exact HR365_0.out)⟩, ⟨HB.out⟩⟩
           case round =>
            clear H'
            clear c74b0 c75b0 hx365_0 p365 q365
            obtain ⟨x124_6, rfl, HA, HK6, HO_4, HO_5, HO_6, HO_59, HLr_, BK340, HR365_0, HB⟩ := hrel
            cases gk with
            | zero => exact absurd HA.out (by simp [assessorlaw17_FlowBlocks.l2])
            | succ k6 =>
             have H := HA.out
             clear HA
             simp only [assessorlaw17_FlowBlocks.l2] at H
             by_cases c77 : x124_6 < ((rd_L1 t349 (rd (rd_L1 t343 x61_2) x67_3)).length : Int)
             rotate_left
             ·rw [if_neg c77] at H
              have c77b0 : decide (x124_6 < ((rd_L1 t349 (rd (rd_L1 t343 x61_2) x67_3)).length : Int)) = false := decide_eq_false c77
              clear c77
              have H' := am H
              clear H
              go_wp2
              (try simp only [← hl6_66])
              go_roundg k6
              case measure => have := HJ10.out; have := HK2.out; have := HK3.out; have := HJ40.out; have := HJ66.out; have := HK6.out; omega
              case rel => exact ⟨(y361), (wrap64 (x67_3 + 1)), (rfl), H', ⟨by have := HJ10.out; have := HK2.out; have := HK3.out; have := HJ40.out; have := HJ66.out; have := HK6.out; omega⟩, ⟨by (try simp only [hl6_66]); (with_reducible repeat (first | apply Kd.R_alloc | apply Kd.R_drewN | apply Kd.R_drew)); exact HO_4.out⟩, ⟨by (try simp only [hl6_66]); (with_reducible repeat (first | apply Kd.S_alloc | apply Kd.S_drewN | apply Kd.S_drew)); exact HO_5.out⟩, ⟨by (try simp only [hl6_66]); (with_reducible repeat (first | apply Kd.R_alloc | apply Kd.R_drewN | apply Kd.R_drew)); exact HO_6.out⟩, ⟨by (try simp only [hl6_66]); (with_reducible repeat (first | apply Kd.S_alloc | apply Kd.S_drewN | apply Kd.S_drew)); exact HO_59.out⟩, ⟨HLr_.out⟩, ⟨by (try simp only [hl6_66]); (with_reducible repeat (first | refine blk_drewN ?_ _ | refine blk_drew ?_ | refine blk_alloc ?_ _)); exact BK340.out⟩, ⟨HB.out⟩⟩
             rw [if_pos c77] at H
             have c77b0 : decide (x124_6 < ((rd_L1 t349 (rd (rd_L1 t343 x61_2) x67_3)).length : Int)) = true := decide_eq_true c77
             clear c77
             by_cases c78 : 0 ≤ x124_6
             rotate_left
             ·rw [if_neg c78] at H
              exact absurd H (by simp)
             rw [if_pos c78] at H
             have c78b0 : decide (0 ≤ x124_6) = true := decide_eq_true c78
             clear c78
             by_cases c79 : x124_6 < ((rd_L1 t349 (rd (rd_L1 t343 x61_2) x67_3)).length : Int)
             rotate_left
             ·rw [if_neg c79] at H
              exact absurd H (by simp)
             rw [if_pos c79] at H
             have c79b0 : decide (x124_6 < ((rd_L1 t349 (rd (rd_L1 t343 x61_2) x67_3)).length : Int)) = true := decide_eq_true c79
             clear c79
             by_cases c80 : 0 ≤ (rd (rd_L1 t349 (rd (rd_L1 t343 x61_2) x67_3)) x124_6)
             rotate_left
             ·rw [if_neg c80] at H
              exact absurd H (by simp)
             rw [if_pos c80] at H
             have c80b0 : decide (0 ≤ (rd (rd_L1 t349 (rd (rd_L1 t343 x61_2) x67_3)) x124_6)) = true := decide_eq_true c80
             clear c80
             by_cases c81 : (rd (rd_L1 t349 (rd (rd_L1 t343 x61_2) x67_3)) x124_6) < (t346.length : Int)
             rotate_left
             ·rw [if_neg c81] at H
              exact absurd H (by simp)
             rw [if_pos c81] at H
             have c81b0 : decide ((rd (rd_L1 t349 (rd (rd_L1 t343 x61_2) x67_3)) x124_6) < (t346.length : Int)) = true := decide_eq_true c81
             clear c81
             obtain ⟨bq82, hbq82⟩ : ∃ b_ : Bool, b_ = (rdOf false t346 (rd (rd_L1 t349 (rd (rd_L1 t343 x61_2) x67_3)) x124_6)) := ⟨_, rfl⟩
             replace H : (if bq82 = true then (if 0 ≤ (wrap64 (x67_3 - 1)) then (if (wrap64 (x67_3 - 1)) < ((rd_L1 t343 x61_2).length : Int) then (if (rd (rd_L1 t349 (rd (rd_L1 t343 x61_2) x67_3)) x124_6) = (rd (rd_L1 t343 x61_2) (wrap64 (x67_3 - 1))) then (assessorlaw17_FlowBlocks.l2 k6 t346 t349 y361 (rd_L1 t343 x61_2) x67_3 t343 (t343.length : Int) x61_2 (rd_L1 t343 x61_2) ((rd_L1 t343 x61_2).length : Int) x67_3 (rd_L1 t349 (rd (rd_L1 t343 x61_2) x67_3)) ((rd_L1 t349 (rd (rd_L1 t343 x61_2) x67_3)).length : Int) (wrap64 (x124_6 + 1)) l0_0) else (some false)) else (none)) else (none)) else (assessorlaw17_FlowBlocks.l2 k6 t346 t349 y361 (rd_L1 t343 x61_2) x67_3 t343 (t343.length : Int) x61_2 (rd_L1 t343 x61_2) ((rd_L1 t343 x61_2).length : Int) x67_3 (rd_L1 t349 (rd (rd_L1 t343 x61_2) x67_3)) ((rd_L1 t349 (rd (rd_L1 t343 x61_2) x67_3)).length : Int) (wrap64 (x124_6 + 1)) l0_0)) = some r := by rw [← hbq82] at H; exact H
             have Nbq82 := am hbq82
             clear hbq82
             by_cases c83 : bq82 = true
             rotate_left
             ·replace c83 := Bool.eq_false_iff.mpr c83
              subst c83
              rw [if_neg (show ¬ (false = true) by decide)] at H
              have H' := am H
              clear H
              have p366 : 0 ≤ (x124_6 : Int) := odt ‹_›
              have q366 : x124_6 < ((rd_L1 t349 (rd (rd_L1 t343 x61_2) x67_3)).length : Int) := odt ‹_›
              obtain ⟨ad366, e366, hx366_0⟩ := Kd.at_int HR365_0.out x124_6 p366 q366
              cases e366
              skip
              replace p366 := eq_true p366
              replace q366 := eq_true q366
              obtain ⟨Ao90, co90, eo90⟩ := Kd.R_slice HO_4.out
              subst eo90
              have p367 : 0 ≤ ((rd (rd_L1 t349 (rd (rd_L1 t343 x61_2) x67_3)) x124_6) : Int) := odt ‹_›
              have q367 : (rd (rd_L1 t349 (rd (rd_L1 t343 x61_2) x67_3)) x124_6) < (t346.length : Int) := odt ‹_›
              obtain ⟨ad367, e367, hx367_0⟩ := Kd.at_bool (Kd.R_reads' HO_4.out).2.2 (rd (rd_L1 t349 (rd (rd_L1 t343 x61_2) x67_3)) x124_6) p367 q367
              (try rw [← Nbq82.out] at hx367_0)
              cases e367
              replace p367 := eq_true p367
              replace q367 := eq_true q367
              go_wp2
              go_roundg k6
              case measure => have := HJ10.out; have := HK2.out; have := HK3.out; have := HJ40.out; have := HJ66.out; have := HK6.out; omega
              case rel => exact ⟨(wrap64 (x124_6 + 1)), (rfl), H', ⟨by have := HJ10.out; have := HK2.out; have := HK3.out; have := HJ40.out; have := HJ66.out; have := HK6.out; omega⟩, ⟨by (try simp only [hl6_66]); (with_reducible repeat (first | apply Kd.R_alloc | apply Kd.R_drewN | apply Kd.R_drew)); exact HO_4.out⟩, ⟨by (try simp only [hl6_66]); (with_reducible repeat (first | apply Kd.S_alloc | apply Kd.S_drewN | apply Kd.S_drew)); exact HO_5.out⟩, ⟨by (try simp only [hl6_66]); (with_reducible repeat (first | apply Kd.R_alloc | apply Kd.R_drewN | apply Kd.R_drew)); exact HO_6.out⟩, ⟨by (try simp only [hl6_66]); (with_reducible repeat (first | apply Kd.S_alloc | apply Kd.S_drewN | apply Kd.S_drew)); exact HO_59.out⟩, ⟨HLr_.out⟩, ⟨by (try simp only [hl6_66]); (with_reducible repeat (first | refine blk_drewN ?_ _ | refine blk_drew ?_ | refine blk_alloc ?_ _)); exact BK340.out⟩, ⟨by repeat (first | (with_reducible exact HR365_0.out) | (with_reducible refine Kd.C_alloc ?_ _) | (with_reducible refine Kd.C_drewN ?_ _) | (with_reducible refine Kd.C_drew ?_) | exact HR365_0.out)⟩, ⟨HB.out⟩⟩
             subst c83
             rw [if_pos rfl] at H
             obtain ⟨ji84, hji84⟩ : ∃ j_ : Int, (wrap64 (x67_3 - 1)) = j_ := ⟨_, rfl⟩
             replace H : (if 0 ≤ (ji84) then (if (ji84) < ((rd_L1 t343 x61_2).length : Int) then (if (rd (rd_L1 t349 (rd (rd_L1 t343 x61_2) x67_3)) x124_6) = (rd (rd_L1 t343 x61_2) (ji84)) then (assessorlaw17_FlowBlocks.l2 k6 t346 t349 y361 (rd_L1 t343 x61_2) x67_3 t343 (t343.length : Int) x61_2 (rd_L1 t343 x61_2) ((rd_L1 t343 x61_2).length : Int) x67_3 (rd_L1 t349 (rd (rd_L1 t343 x61_2) x67_3)) ((rd_L1 t349 (rd (rd_L1 t343 x61_2) x67_3)).length : Int) (wrap64 (x124_6 + 1)) l0_0) else (some false)) else (none)) else (none)) = some r := by first | (rw [hji84] at H; exact H) | (simp only [hji84] at H ⊢; exact H)
             have hji84w : (IntKind.i64.wrap (x67_3 - 1)) = ji84 := (i64_w _).trans hji84
             by_cases c85 : 0 ≤ (ji84)
             rotate_left
             ·rw [if_neg c85] at H
              exact absurd H (by simp)
             rw [if_pos c85] at H
             have c85b0 : decide (0 ≤ (ji84)) = true := decide_eq_true c85
             clear c85
             by_cases c86 : (ji84) < ((rd_L1 t343 x61_2).length : Int)
             rotate_left
             ·rw [if_neg c86] at H
              exact absurd H (by simp)
             rw [if_pos c86] at H
             have c86b0 : decide ((ji84) < ((rd_L1 t343 x61_2).length : Int)) = true := decide_eq_true c86
             clear c86
             by_cases c87 : (rd (rd_L1 t349 (rd (rd_L1 t343 x61_2) x67_3)) x124_6) = (rd (rd_L1 t343 x61_2) (ji84))
             rotate_left
             ·rw [if_neg c87] at H
              have c87b0 : ((rd (rd_L1 t349 (rd (rd_L1 t343 x61_2) x67_3)) x124_6) == (rd (rd_L1 t343 x61_2) (ji84))) = false := beq_eq_false_iff_ne.mpr c87
              have c87b1 : ((rd (rd_L1 t349 (rd (rd_L1 t343 x61_2) x67_3)) x124_6) != (rd (rd_L1 t343 x61_2) (ji84))) = true := bne_iff_ne.mpr c87
              obtain rfl := Option.some.inj H
              have p366 : 0 ≤ (x124_6 : Int) := odt ‹_›
              have q366 : x124_6 < ((rd_L1 t349 (rd (rd_L1 t343 x61_2) x67_3)).length : Int) := odt ‹_›
              obtain ⟨ad366, e366, hx366_0⟩ := Kd.at_int HR365_0.out x124_6 p366 q366
              cases e366
              skip
              replace p366 := eq_true p366
              replace q366 := eq_true q366
              obtain ⟨Ao89, co89, eo89⟩ := Kd.R_slice HO_4.out
              subst eo89
              have p367 : 0 ≤ ((rd (rd_L1 t349 (rd (rd_L1 t343 x61_2) x67_3)) x124_6) : Int) := odt ‹_›
              have q367 : (rd (rd_L1 t349 (rd (rd_L1 t343 x61_2) x67_3)) x124_6) < (t346.length : Int) := odt ‹_›
              obtain ⟨ad367, e367, hx367_0⟩ := Kd.at_bool (Kd.R_reads' HO_4.out).2.2 (rd (rd_L1 t349 (rd (rd_L1 t343 x61_2) x67_3)) x124_6) p367 q367
              (try rw [← Nbq82.out] at hx367_0)
              cases e367
              replace p367 := eq_true p367
              replace q367 := eq_true q367
              have p368 : 0 ≤ ((ji84) : Int) := odt ‹_›
              have q368 : (ji84) < ((rd_L1 t343 x61_2).length : Int) := odt ‹_›
              obtain ⟨ad368, e368, hx368_0⟩ := Kd.at_int (Kd.R_reads' HLr_.out).2.2 (ji84) p368 q368
              obtain rfl : ad358 = ad368 := (by injection e368)
              skip
              replace p368 := eq_true p368
              replace q368 := eq_true q368
              rw [show ji62 = ji84 from hji62.symm.trans hji84] at hji62w
              go_wp2
              go_ret
              exact ⟨rfl, HB.out⟩
             rw [if_pos c87] at H
             have c87b0 : ((rd (rd_L1 t349 (rd (rd_L1 t343 x61_2) x67_3)) x124_6) == (rd (rd_L1 t343 x61_2) (ji84))) = true := beq_iff_eq.mpr c87
             have c87b1 : ((rd (rd_L1 t349 (rd (rd_L1 t343 x61_2) x67_3)) x124_6) != (rd (rd_L1 t343 x61_2) (ji84))) = false := bne_eq_false_iff_eq.mpr c87
             clear c87
             have H' := am H
             clear H
             have p366 : 0 ≤ (x124_6 : Int) := odt ‹_›
             have q366 : x124_6 < ((rd_L1 t349 (rd (rd_L1 t343 x61_2) x67_3)).length : Int) := odt ‹_›
             obtain ⟨ad366, e366, hx366_0⟩ := Kd.at_int HR365_0.out x124_6 p366 q366
             cases e366
             skip
             replace p366 := eq_true p366
             replace q366 := eq_true q366
             obtain ⟨Ao88, co88, eo88⟩ := Kd.R_slice HO_4.out
             subst eo88
             have p367 : 0 ≤ ((rd (rd_L1 t349 (rd (rd_L1 t343 x61_2) x67_3)) x124_6) : Int) := odt ‹_›
             have q367 : (rd (rd_L1 t349 (rd (rd_L1 t343 x61_2) x67_3)) x124_6) < (t346.length : Int) := odt ‹_›
             obtain ⟨ad367, e367, hx367_0⟩ := Kd.at_bool (Kd.R_reads' HO_4.out).2.2 (rd (rd_L1 t349 (rd (rd_L1 t343 x61_2) x67_3)) x124_6) p367 q367
             (try rw [← Nbq82.out] at hx367_0)
             cases e367
             replace p367 := eq_true p367
             replace q367 := eq_true q367
             have p368 : 0 ≤ ((ji84) : Int) := odt ‹_›
             have q368 : (ji84) < ((rd_L1 t343 x61_2).length : Int) := odt ‹_›
             obtain ⟨ad368, e368, hx368_0⟩ := Kd.at_int (Kd.R_reads' HLr_.out).2.2 (ji84) p368 q368
             obtain rfl : ad358 = ad368 := (by injection e368)
             skip
             replace p368 := eq_true p368
             replace q368 := eq_true q368
             rw [show ji62 = ji84 from hji62.symm.trans hji84] at hji62w
             go_wp2
             go_roundg k6
             case measure => have := HJ10.out; have := HK2.out; have := HK3.out; have := HJ40.out; have := HJ66.out; have := HK6.out; omega
             case rel => exact ⟨(wrap64 (x124_6 + 1)), (rfl), H', ⟨by have := HJ10.out; have := HK2.out; have := HK3.out; have := HJ40.out; have := HJ66.out; have := HK6.out; omega⟩, ⟨by (try simp only [hl6_66]); (with_reducible repeat (first | apply Kd.R_alloc | apply Kd.R_drewN | apply Kd.R_drew)); exact HO_4.out⟩, ⟨by (try simp only [hl6_66]); (with_reducible repeat (first | apply Kd.S_alloc | apply Kd.S_drewN | apply Kd.S_drew)); exact HO_5.out⟩, ⟨by (try simp only [hl6_66]); (with_reducible repeat (first | apply Kd.R_alloc | apply Kd.R_drewN | apply Kd.R_drew)); exact HO_6.out⟩, ⟨by (try simp only [hl6_66]); (with_reducible repeat (first | apply Kd.S_alloc | apply Kd.S_drewN | apply Kd.S_drew)); exact HO_59.out⟩, ⟨HLr_.out⟩, ⟨by (try simp only [hl6_66]); (with_reducible repeat (first | refine blk_drewN ?_ _ | refine blk_drew ?_ | refine blk_alloc ?_ _)); exact BK340.out⟩, ⟨by repeat (first | (with_reducible exact HR365_0.out) | (with_reducible refine Kd.C_alloc ?_ _) | (with_reducible refine Kd.C_drewN ?_ _) | (with_reducible refine Kd.C_drew ?_) | exact HR365_0.out)⟩, ⟨HB.out⟩⟩
end Go.Proofs.YtfcjeoihfphphaaGreatDoor.PFlow
end

/- A part of the proof, written by programs of this seat and by hand: P4. -/
import Derived.Test.YtfcjeoihfphphaaGreatDoorPtP0
import Derived.Test.YtfcjeoihfphphaaGreatDoorPtP1
set_option linter.unusedVariables false
set_option linter.unusedSimpArgs false
section
namespace Go.Proofs.YtfcjeoihfphphaaGreatDoor.PFlow
open Go.RowKit Go.Proofs.YtfcjeoihfphphaaGreatDoorW.PrintWords Go.Proofs.YtfcjeoihfphphaaGreatDoorW.PrintLast Go.Proofs.YtfcjeoihfphphaaGreatDoorW.PrintMore
attribute [local go_sem] max2_int min2_int max_two min_two max_three min_three max_four min_four   -- for this text's walks alone
set_option linter.unusedVariables false
set_option linter.unusedSimpArgs false
mutual
def flow_Before.l0 : Nat → List (List Int) → List (S58) → Int → Int → Option ((List (List Int)))
 | 0, _, _, _, _ => none
 | k + 1, x3, x17, x18, x19 => if x19 < x18 then (if 0 ≤ x19 then (if x19 < (x17.length : Int) then (flow_Before.l1 k x3 x19 x17 x18 x19 ((rd_T58 x17 x19).f2) (((rd_T58 x17 x19).f2).length : Int) 0) else (none)) else (none)) else (some x3)
def flow_Before.l1 : Nat → List (List Int) → Int → List (S58) → Int → Int → List Int → Int → Int → Option ((List (List Int)))
 | 0, _, _, _, _, _, _, _, _ => none
 | k + 1, x3, x4, x17, x18, x19, x25, x26, x27 => if x27 < x26 then (if 0 ≤ x27 then (if x27 < (x25.length : Int) then (if 0 ≤ (rd x25 x27) then (if (rd x25 x27) < (x3.length : Int) then (if ((rd_L1 x3 (rd x25 x27)).length : Int) = 0 then (if (rd_L1 x3 (rd x25 x27)).length < 17592186044416 then (flow_Before.l1 k (x3.set ((rd x25 x27) : Int).toNat ((rd_L1 x3 (rd x25 x27)) ++ [x4])) x4 x17 x18 x19 x25 x26 (wrap64 (x27 + 1))) else (none)) else (if 0 ≤ (wrap64 (((rd_L1 x3 (rd x25 x27)).length : Int) - 1)) then (if (wrap64 (((rd_L1 x3 (rd x25 x27)).length : Int) - 1)) < ((rd_L1 x3 (rd x25 x27)).length : Int) then (if (rd (rd_L1 x3 (rd x25 x27)) (wrap64 (((rd_L1 x3 (rd x25 x27)).length : Int) - 1))) = x4 then (flow_Before.l1 k x3 x4 x17 x18 x19 x25 x26 (wrap64 (x27 + 1))) else (if (rd_L1 x3 (rd x25 x27)).length < 17592186044416 then (flow_Before.l1 k (x3.set ((rd x25 x27) : Int).toNat ((rd_L1 x3 (rd x25 x27)) ++ [x4])) x4 x17 x18 x19 x25 x26 (wrap64 (x27 + 1))) else (none))) else (none)) else (none))) else (none)) else (none)) else (none)) else (none)) else (flow_Before.l0 k x3 x17 x18 (wrap64 (x19 + 1)))
end
def flow_Before.f (k : Nat) (l0_0 : List (S58)) : Option ((List (List Int))) := (flow_valid.f k l0_0).bind fun t142 => (if t142 = true then (if 0 ≤ (l0_0.length : Int) then (if ((l0_0.length : Int) : Int).toNat ≤ 11728124029610 then (flow_Before.l0 k (List.replicate ((l0_0.length : Int) : Int).toNat []) l0_0 (l0_0.length : Int) 0) else (none)) else (none)) else (some ([] : List (List Int))))
set_option maxHeartbeats 8000000 in
set_option maxRecDepth 100000 in
theorem flow_Before.calls (k : Nat) (A0_0 : Option Addr) (c0_0 : Nat) (l0_0 : List (S58)) (r : List (List Int)) (w : World) (hr0_0 : Kd.C k58 w A0_0 l0_0.length l0_0) (hc0_0 : l0_0.length ≤ c0_0) (h : flow_Before.f k l0_0 = some r) :
 Calls Tryz.prog 17 #[.agg #[.slice A0_0 l0_0.length c0_0]] w fun e w' => ∃ v0_ : Value, e = .returned (v0_) ∧ Kd.S (Kd.slice 3 (Kd.int .i64)) 27 w' w.heap.size (fun _ => True) v0_ r ∧ Below w.heap.size w w' := by
 have hu36 := Tryz.underlying36
 have hu58 := Tryz.underlying58
 have HR0_0 := am hr0_0
 have HC0_0 := am hc0_0
 clear hr0_0 hc0_0
 have HB := am (Below.refl w.heap.size w)
 have H : ((flow_valid.f k l0_0).bind fun t142 => (if t142 = true then (if 0 ≤ (l0_0.length : Int) then (if ((l0_0.length : Int) : Int).toNat ≤ 11728124029610 then (flow_Before.l0 k (List.replicate ((l0_0.length : Int) : Int).toNat []) l0_0 (l0_0.length : Int) 0) else (none)) else (none)) else (some ([] : List (List Int))))) = some r := h
 clear h
 replace H := Option.bind_eq_some_iff.mp H
 obtain ⟨t142, A20, H⟩ := H
 try dsimp only at H
 have A2 := am A20
 clear A20
 by_cases c3 : t142 = true
 rotate_left
 ·replace c3 := Bool.eq_false_iff.mpr c3
  subst c3
  rw [if_neg (show ¬ (false = true) by decide)] at H
  obtain rfl := Option.some.inj H
  go_enter Tryz.func17, Tryz.ntmps17
  go_wp2_with (first | ((with_reducible refine gate_dst (N := 1) rfl ?_); refine box_event ?hg (N := 1) ?hd (cs := #[.slice A0_0 l0_0.length c0_0]) (t := 36) ?hr ?_; (case hd => rfl); (case hg => rfl); (case hr => first | (go_simp; done) | (go_simp; rfl)); intro gb141 hg w46 hbox hb; have n0_ := am (below_step (HB.out) hb); have n1_ := am (hbox); have n2_ := am ((by rw [hg]; exact (below_size (HB.out)) : w.heap.size ≤ gb141)); have n3_ := am ((by rw [hg]; exact (below_size (HB.out)) : w.heap.size ≤ gb141)); clear HB; have HB := n0_; have BK141 := n1_; have GW141 := n2_; have GE141 := n3_; clear n0_ n1_ n2_ n3_; clear hb hbox hg; have hcz47_0 : w46.cell? ⟨gb141, 0, none⟩ = some (.slice A0_0 l0_0.length c0_0) := (blk_cell BK141.out 0).trans rfl; have hfz47_0 := blk_frozen BK141.out 0) | ((with_reducible refine gate_callee (f := 41) rfl ?_); refine goesL_ (some 10) rfl rfl Tryz.func41 (by kernel_rfl) rfl #[.agg #[.slice A0_0 l0_0.length c0_0]] rfl (by (try simp only [List.map_toArray, List.map_cons, List.map_nil]); first | done | rfl | (simp only [List.length_drop, List.length_take]; rfl)) ?_; (with_reducible refine (flow_valid.calls k _ _ l0_0 false _ ?side1 ?side2 A2.out).mono ?_); (case side1 => repeat (first | exact (Kd.C_below HR0_0.out HB.out) | (with_reducible refine Kd.C_alloc ?_ _) | (with_reducible refine Kd.C_drewN ?_ _) | (with_reducible refine Kd.C_drew ?_))); (case side2 => exact HC0_0.out); rintro e w48 ⟨rfl, hb⟩; refine ⟨_, rfl, ?_⟩; have n0_ := am (blk_below (g := gb141) (o := .cells #[.slice A0_0 l0_0.length c0_0] 36 (0, 0)) (BK141.out) hb); have n1_ := am (below_step (HB.out) hb); clear BK141; clear HB; have BK141 := n0_; have HB := n1_; clear n0_ n1_; (try clear hb); (try clear hb2); (try clear hk); (try clear hi)))
  go_ret
  exact ⟨_, rfl, by first | exact Kd.S_nil _ _ _ _ _ | exact Kd.N_nil _ _ _ _ _ | exact Kd.V_nil _ _ _ _ _ | exact Kd.Q_nil _ _ _ _ _ | exact Kd.R_nil _ _ _ _ _, HB.out⟩
 subst c3
 rw [if_pos rfl] at H
 by_cases c4 : 0 ≤ (l0_0.length : Int)
 rotate_left
 ·rw [if_neg c4] at H
  exact absurd H (by simp)
 rw [if_pos c4] at H
 have c4b0 := eq_true c4
 have c4b1 : decide (0 ≤ (l0_0.length : Int)) = true := decide_eq_true c4
 clear c4
 by_cases c5 : ((l0_0.length : Int) : Int).toNat ≤ 11728124029610
 rotate_left
 ·rw [if_neg c5] at H
  exact absurd H (by simp)
 rw [if_pos c5] at H
 have c5b0 := eq_true c5
 have c5b1 : decide (((l0_0.length : Int) : Int).toNat ≤ 11728124029610) = true := decide_eq_true c5
 clear c5
 obtain ⟨y143, hy143⟩ : ∃ y_ : List (List Int), y_ = (List.replicate ((l0_0.length : Int) : Int).toNat []) := ⟨_, rfl⟩
 replace H : (flow_Before.l0 k y143 l0_0 (l0_0.length : Int) 0) = some r := by rw [hy143]; exact H
 have Ny143 := am hy143
 clear hy143
 have H' := am H
 clear H
 go_enter Tryz.func17, Tryz.ntmps17
 go_wp2_with (first | ((with_reducible refine gate_dst (N := 1) rfl ?_); refine box_event ?hg (N := 1) ?hd (cs := #[.slice A0_0 l0_0.length c0_0]) (t := 36) ?hr ?_; (case hd => rfl); (case hg => rfl); (case hr => first | (go_simp; done) | (go_simp; rfl)); intro gb141 hg w6 hbox hb; have n0_ := am (below_step (HB.out) hb); have n1_ := am (hbox); have n2_ := am ((by rw [hg]; exact (below_size (HB.out)) : w.heap.size ≤ gb141)); have n3_ := am ((by rw [hg]; exact (below_size (HB.out)) : w.heap.size ≤ gb141)); clear HB; have HB := n0_; have BK141 := n1_; have GW141 := n2_; have GE141 := n3_; clear n0_ n1_ n2_ n3_; clear hb hbox hg; have hcz7_0 : w6.cell? ⟨gb141, 0, none⟩ = some (.slice A0_0 l0_0.length c0_0) := (blk_cell BK141.out 0).trans rfl; have hfz7_0 := blk_frozen BK141.out 0) | ((with_reducible refine gate_callee (f := 41) rfl ?_); refine goesL_ (some 10) rfl rfl Tryz.func41 (by kernel_rfl) rfl #[.agg #[.slice A0_0 l0_0.length c0_0]] rfl (by (try simp only [List.map_toArray, List.map_cons, List.map_nil]); first | done | rfl | (simp only [List.length_drop, List.length_take]; rfl)) ?_; (with_reducible refine (flow_valid.calls k _ _ l0_0 true _ ?side1 ?side2 A2.out).mono ?_); (case side1 => repeat (first | exact (Kd.C_below HR0_0.out HB.out) | (with_reducible refine Kd.C_alloc ?_ _) | (with_reducible refine Kd.C_drewN ?_ _) | (with_reducible refine Kd.C_drew ?_))); (case side2 => exact HC0_0.out); rintro e w8 ⟨rfl, hb⟩; refine ⟨_, rfl, ?_⟩; have n0_ := am (blk_below (g := gb141) (o := .cells #[.slice A0_0 l0_0.length c0_0] 36 (0, 0)) (BK141.out) hb); have n1_ := am (below_step (HB.out) hb); clear BK141; clear HB; have BK141 := n0_; have HB := n1_; clear n0_ n1_; (try clear hb); (try clear hb2); (try clear hk); (try clear hi); have hcz9_0 : w8.cell? ⟨gb141, 0, none⟩ = some (.slice A0_0 l0_0.length c0_0) := (blk_cell BK141.out 0).trans rfl; have hfz9_0 := blk_frozen BK141.out 0) | ((with_reducible refine gate_dst (N := 15) rfl ?_); refine Kd.S_make (Kd.slice 3 (Kd.int .i64)) _ 27 rfl (N := 15) rfl 46 _ _ rfl (l0_0.length : Int) rfl rfl Tryz.underlying46 (.slice none 0 0) 24 info27 rfl (by decide) (by omega) [] (ok := fun _ => True) (okp := fun _ => True) ⟨_, rfl, Kd.R_nil _ _ _ _ _⟩ (fun _ hk => hk) trivial (odt ‹_›) (Nat.le_trans (Nat.mul_le_mul_right _ (odt ‹_› : (l0_0.length : Int).toNat ≤ 11728124029610)) (by omega)) (Below.refl _ _) (Nat.le_refl _) ?_; intro v144 w10 ho11 hb hg_ hnew_; clear hg_ hnew_; (first | rw [← Ny143.out] at ho11 | (simp only [Int.reduceToNat] at ho11; rw [← Ny143.out] at ho11)); have n0_ := am (Kd.S_lower ho11 (below_size (HB.out))); have n1_ := am (blk_below (g := gb141) (o := .cells #[.slice A0_0 l0_0.length c0_0] 36 (0, 0)) (BK141.out) hb); have n2_ := am (below_step (HB.out) hb); clear BK141; clear HB; have HO145 := n0_; have BK141 := n1_; have HB := n2_; clear n0_ n1_ n2_; clear hb ho11; have hcz12_0 : w10.cell? ⟨gb141, 0, none⟩ = some (.slice A0_0 l0_0.length c0_0) := (blk_cell BK141.out 0).trans rfl; have hfz12_0 := blk_frozen BK141.out 0))
 go_loopg [19] k (fun kq v19 w' => ∃ (x3_1 : List (List Int)) (x19_1 : Int), v19 = .int .i64 x19_1 ∧ Aside0 (flow_Before.l0 kq x3_1 l0_0 (l0_0.length : Int) x19_1 = some r) ∧ Aside0 (kq ≤ k) ∧ Aside0 (Kd.S (Kd.slice 3 (Kd.int .i64)) 27 w' w.heap.size (fun _ => True) v144 x3_1) ∧ Aside0 (w'.heap[gb141]? = some (.cells #[(.slice A0_0 l0_0.length c0_0)] 36 (0, 0))) ∧ Aside0 (Below w.heap.size w w'))
 case atStart => exact ⟨(y143), (0), (rfl), H', ⟨Nat.le_refl _⟩, ⟨HO145.out⟩, ⟨BK141.out⟩, ⟨HB.out⟩⟩
 case round =>
  clear H'
  clear c4b0 c4b1 c5b0 c5b1 hcz12_0 hcz7_0 hcz9_0 hfz12_0 hfz7_0 hfz9_0
  obtain ⟨x3_1, x19_1, rfl, HA, HK1, HO_3, BK141, HB⟩ := hrel
  cases gk with
  | zero => exact absurd HA.out (by simp [flow_Before.l0])
  | succ k1 =>
   have H := HA.out
   clear HA
   simp only [flow_Before.l0] at H
   by_cases c13 : x19_1 < (l0_0.length : Int)
   rotate_left
   ·rw [if_neg c13] at H
    have c13b0 : decide (x19_1 < (l0_0.length : Int)) = false := decide_eq_false c13
    clear c13
    obtain rfl := Option.some.inj H
    go_wp2
    go_ret
    exact ⟨_, rfl, by (with_reducible repeat (first | apply Kd.S_alloc | apply Kd.S_drewN | apply Kd.S_drew)); exact HO_3.out, HB.out⟩
   rw [if_pos c13] at H
   have c13b0 : decide (x19_1 < (l0_0.length : Int)) = true := decide_eq_true c13
   clear c13
   by_cases c14 : 0 ≤ x19_1
   rotate_left
   ·rw [if_neg c14] at H
    exact absurd H (by simp)
   rw [if_pos c14] at H
   have c14b0 : decide (0 ≤ x19_1) = true := decide_eq_true c14
   clear c14
   by_cases c15 : x19_1 < (l0_0.length : Int)
   rotate_left
   ·rw [if_neg c15] at H
    exact absurd H (by simp)
   rw [if_pos c15] at H
   have c15b0 : decide (x19_1 < (l0_0.length : Int)) = true := decide_eq_true c15
   clear c15
   have H' := am H
   clear H
   have p146 : 0 ≤ (x19_1 : Int) := odt ‹_›
   have q146 : x19_1 < (l0_0.length : Int) := odt ‹_›
   obtain ⟨ad146, A146_2, c146_2, e146, hx146_0, hx146_1, hx146_2, hl146_2, hi146_2⟩ := at_T58 HR0_0.out x19_1 p146 q146
   cases e146
   replace hx146_0 := (HB.out.cell (blc w _ hx146_0)).trans hx146_0
   replace hx146_1 := (HB.out.cell (blc w _ hx146_1)).trans hx146_1
   replace hx146_2 := (HB.out.cell (blc w _ hx146_2)).trans hx146_2
   have HR146_2 := am hi146_2
   have HC146_2 := am hl146_2
   clear hi146_2 hl146_2
   replace p146 := eq_true p146
   replace q146 := eq_true q146
   go_wp2_with (first | ((with_reducible refine gate_dst (N := 5) rfl ?_); refine box_event ?hg (N := 5) ?hd (cs := #[.int .i64 0, .int .i64 0, .slice none 0 0]) (t := 58) ?hr ?_; (case hd => rfl); (case hg => rfl); (case hr => first | (go_simp; done) | (go_simp; rfl)); intro gb147 hg w16 hbox hb; have n0_ := am (Kd.S_below (HO_3.out) hb); have n1_ := am (blk_below (g := gb141) (o := .cells #[.slice (some ad146) l0_0.length c0_0] 36 (0, 0)) (BK141.out) hb); have n2_ := am (below_step (HB.out) hb); have n3_ := am (hbox); have n4_ := am ((by rw [hg]; exact (below_size (HB.out)) : w.heap.size ≤ gb147)); have n5_ := am ((by rw [hg]; exact (below_size (HB.out)) : w.heap.size ≤ gb147)); have n6_ := am ((by rw [hg]; exact Nat.ne_of_lt (blk_lt (g := gb141) (o := .cells #[.slice (some ad146) l0_0.length c0_0] 36 (0, 0)) (BK141.out)) : gb141 ≠ gb147)); have n7_ := am ((by rw [hg]; exact Nat.ne_of_gt (blk_lt (g := gb141) (o := .cells #[.slice (some ad146) l0_0.length c0_0] 36 (0, 0)) (BK141.out)) : gb147 ≠ gb141)); clear HO_3; clear BK141; clear HB; have HO_3 := n0_; have BK141 := n1_; have HB := n2_; have BK147 := n3_; have GW147 := n4_; have GE147 := n5_; have NB141_147 := n6_; have NB147_141 := n7_; clear n0_ n1_ n2_ n3_ n4_ n5_ n6_ n7_; clear hb hbox hg; have hnb17 := NB147_141.out; have hnc17 := NB141_147.out; have hcz18_0 : w16.cell? ⟨gb147, 0, none⟩ = some (.int .i64 0) := (blk_cell BK147.out 0).trans rfl; have hcz18_1 : w16.cell? ⟨gb147, 1, none⟩ = some (.int .i64 0) := (blk_cell BK147.out 1).trans rfl; have hcz18_2 : w16.cell? ⟨gb147, 2, none⟩ = some (.slice none 0 0) := (blk_cell BK147.out 2).trans rfl; have hfz18_0 := blk_frozen BK147.out 0; have hfz18_1 := blk_frozen BK147.out 1; have hfz18_2 := blk_frozen BK147.out 2))
   go_loopg [27] k1 (fun kq v27 w' => ∃ (x3_2 : List (List Int)) (x27_2 : Int), v27 = .int .i64 x27_2 ∧ Aside0 (flow_Before.l1 kq x3_2 x19_1 l0_0 (l0_0.length : Int) x19_1 ((rd_T58 l0_0 x19_1).f2) (((rd_T58 l0_0 x19_1).f2).length : Int) x27_2 = some r) ∧ Aside0 (kq ≤ k1) ∧ Aside0 (Kd.S (Kd.slice 3 (Kd.int .i64)) 27 w' w.heap.size (fun _ => True) v144 x3_2) ∧ Aside0 (w'.heap[gb141]? = some (.cells #[(.slice (some ad146) l0_0.length c0_0)] 36 (0, 0))) ∧ Aside0 (w'.heap[gb147]? = some (.cells #[.int .i64 ((rd_T58 l0_0 x19_1).f0), .int .i64 ((rd_T58 l0_0 x19_1).f1), (.slice A146_2 ((rd_T58 l0_0 x19_1).f2).length c146_2)] 58 (0, 0))) ∧ Aside0 (Below w.heap.size w w'))
   case atStart => exact ⟨(x3_1), (0), (rfl), H', ⟨Nat.le_refl _⟩, ⟨Kd.S_mono (Kd.S_far (p := ⟨gb147, 2, none⟩) (Kd.S_far (p := ⟨gb147, 1, none⟩) (Kd.S_far (p := ⟨gb147, 0, none⟩) (Kd.S_types HO_3.out BK147.out (by decide)) (fun _ hk => hk.2) (.int .i64 ((rd_T58 l0_0 x19_1).f0))) (fun _ hk => hk.2) (.int .i64 ((rd_T58 l0_0 x19_1).f1))) (fun _ hk => hk.2) (.slice A146_2 ((rd_T58 l0_0 x19_1).f2).length c146_2)) (fun _ hk => trivial)⟩, ⟨by (with_reducible repeat (first | refine blk_drewN ?_ _ | refine blk_drew ?_ | refine blk_alloc ?_ _)); refine blk_far ?_ NB141_147.out _; (with_reducible repeat (first | refine blk_drewN ?_ _ | refine blk_drew ?_ | refine blk_alloc ?_ _)); refine blk_far ?_ NB141_147.out _; (with_reducible repeat (first | refine blk_drewN ?_ _ | refine blk_drew ?_ | refine blk_alloc ?_ _)); refine blk_far ?_ NB141_147.out _; (with_reducible repeat (first | refine blk_drewN ?_ _ | refine blk_drew ?_ | refine blk_alloc ?_ _)); exact BK141.out⟩, ⟨by (with_reducible repeat (first | refine blk_drewN ?_ _ | refine blk_drew ?_ | refine blk_alloc ?_ _)); refine blk_put (cs := #[.int .i64 ((rd_T58 l0_0 x19_1).f0), .int .i64 ((rd_T58 l0_0 x19_1).f1), .slice none 0 0]) ?_ 2 _ rfl; (with_reducible repeat (first | refine blk_drewN ?_ _ | refine blk_drew ?_ | refine blk_alloc ?_ _)); refine blk_put (cs := #[.int .i64 ((rd_T58 l0_0 x19_1).f0), .int .i64 0, .slice none 0 0]) ?_ 1 _ rfl; (with_reducible repeat (first | refine blk_drewN ?_ _ | refine blk_drew ?_ | refine blk_alloc ?_ _)); refine blk_put (cs := #[.int .i64 0, .int .i64 0, .slice none 0 0]) ?_ 0 _ rfl; (with_reducible repeat (first | refine blk_drewN ?_ _ | refine blk_drew ?_ | refine blk_alloc ?_ _)); exact BK147.out⟩, ⟨by repeat (first | (with_reducible first | exact HB.out | apply below_alloc | apply pw_below_drewN | apply below_drew1 | refine below_set ?_ GE141.out | refine below_set ?_ GE147.out) | exact HB.out)⟩⟩
   case round =>
    clear H'
    clear c13b0 c14b0 c15b0 hcz18_0 hcz18_1 hcz18_2 hfz18_0 hfz18_1 hfz18_2 hx146_0 hx146_1 hx146_2 p146 q146
    obtain ⟨x3_2, x27_2, rfl, HA, HK2, HO_3, BK141, BK147, HB⟩ := hrel
    cases gk with
    | zero => exact absurd HA.out (by simp [flow_Before.l1])
    | succ k2 =>
     have H := HA.out
     clear HA
     simp only [flow_Before.l1] at H
     by_cases c19 : x27_2 < (((rd_T58 l0_0 x19_1).f2).length : Int)
     rotate_left
     ·rw [if_neg c19] at H
      have c19b0 : decide (x27_2 < (((rd_T58 l0_0 x19_1).f2).length : Int)) = false := decide_eq_false c19
      clear c19
      have H' := am H
      clear H
      go_wp2
      go_roundg k2
      case measure => have := HK1.out; have := HK2.out; omega
      case rel => exact ⟨(x3_2), (wrap64 (x19_1 + 1)), (rfl), H', ⟨by have := HK1.out; have := HK2.out; omega⟩, ⟨HO_3.out⟩, ⟨BK141.out⟩, ⟨HB.out⟩⟩
     rw [if_pos c19] at H
     have c19b0 : decide (x27_2 < (((rd_T58 l0_0 x19_1).f2).length : Int)) = true := decide_eq_true c19
     clear c19
     by_cases c20 : 0 ≤ x27_2
     rotate_left
     ·rw [if_neg c20] at H
      exact absurd H (by simp)
     rw [if_pos c20] at H
     have c20b0 : decide (0 ≤ x27_2) = true := decide_eq_true c20
     clear c20
     by_cases c21 : x27_2 < (((rd_T58 l0_0 x19_1).f2).length : Int)
     rotate_left
     ·rw [if_neg c21] at H
      exact absurd H (by simp)
     rw [if_pos c21] at H
     have c21b0 : decide (x27_2 < (((rd_T58 l0_0 x19_1).f2).length : Int)) = true := decide_eq_true c21
     clear c21
     by_cases c22 : 0 ≤ (rd ((rd_T58 l0_0 x19_1).f2) x27_2)
     rotate_left
     ·rw [if_neg c22] at H
      exact absurd H (by simp)
     rw [if_pos c22] at H
     have c22b0 : decide (0 ≤ (rd ((rd_T58 l0_0 x19_1).f2) x27_2)) = true := decide_eq_true c22
     clear c22
     by_cases c23 : (rd ((rd_T58 l0_0 x19_1).f2) x27_2) < (x3_2.length : Int)
     rotate_left
     ·rw [if_neg c23] at H
      exact absurd H (by simp)
     rw [if_pos c23] at H
     have c23b0 : decide ((rd ((rd_T58 l0_0 x19_1).f2) x27_2) < (x3_2.length : Int)) = true := decide_eq_true c23
     clear c23
     by_cases c24 : ((rd_L1 x3_2 (rd ((rd_T58 l0_0 x19_1).f2) x27_2)).length : Int) = 0
     ·rw [if_pos c24] at H
      have c24b0 : (((rd_L1 x3_2 (rd ((rd_T58 l0_0 x19_1).f2) x27_2)).length : Int) == 0) = true := beq_iff_eq.mpr c24
      have c24b1 : (((rd_L1 x3_2 (rd ((rd_T58 l0_0 x19_1).f2) x27_2)).length : Int) != 0) = false := bne_eq_false_iff_eq.mpr c24
      clear c24
      by_cases c25 : (rd_L1 x3_2 (rd ((rd_T58 l0_0 x19_1).f2) x27_2)).length < 17592186044416
      rotate_left
      ·rw [if_neg c25] at H
       exact absurd H (by simp)
      rw [if_pos c25] at H
      have LMc25 := am c25
      clear c25
      obtain ⟨y151, hy151⟩ : ∃ y_ : List Int, y_ = ((rd_L1 x3_2 (rd ((rd_T58 l0_0 x19_1).f2) x27_2)) ++ [x19_1]) := ⟨_, rfl⟩
      replace H : (flow_Before.l1 k2 (x3_2.set ((rd ((rd_T58 l0_0 x19_1).f2) x27_2) : Int).toNat y151) x19_1 l0_0 (l0_0.length : Int) x19_1 ((rd_T58 l0_0 x19_1).f2) (((rd_T58 l0_0 x19_1).f2).length : Int) (wrap64 (x27_2 + 1))) = some r := by rw [hy151]; exact H
      have Ny151 := am hy151
      clear hy151
      obtain ⟨y154, hy154⟩ : ∃ y_ : List (List Int), y_ = (x3_2.set ((rd ((rd_T58 l0_0 x19_1).f2) x27_2) : Int).toNat y151) := ⟨_, rfl⟩
      replace H : (flow_Before.l1 k2 y154 x19_1 l0_0 (l0_0.length : Int) x19_1 ((rd_T58 l0_0 x19_1).f2) (((rd_T58 l0_0 x19_1).f2).length : Int) (wrap64 (x27_2 + 1))) = some r := by rw [hy154]; exact H
      have Ny154 := am hy154
      clear hy154
      have H' := am H
      clear H
      have p148 : 0 ≤ (x27_2 : Int) := odt ‹_›
      have q148 : x27_2 < (((rd_T58 l0_0 x19_1).f2).length : Int) := odt ‹_›
      obtain ⟨ad148, e148, hx148_0⟩ := Kd.at_int HR146_2.out x27_2 p148 q148
      cases e148
      replace hx148_0 := (HB.out.cell (blc w _ hx148_0)).trans hx148_0
      replace p148 := eq_true p148
      replace q148 := eq_true q148
      obtain ⟨Ao27, co27, eo27⟩ := Kd.S_slice HO_3.out
      subst eo27
      have p149 : 0 ≤ ((rd ((rd_T58 l0_0 x19_1).f2) x27_2) : Int) := odt ‹_›
      have q149 : (rd ((rd_T58 l0_0 x19_1).f2) x27_2) < (x3_2.length : Int) := odt ‹_›
      obtain ⟨ad149, A149_0, c149_0, e149, hx149_0, hl149_0, hi149_0⟩ := at_L1 (Kd.S_reads' HO_3.out).2.2 (rd ((rd_T58 l0_0 x19_1).f2) x27_2) p149 q149
      cases e149
      obtain ⟨ce149, hce149, hMe149, hcc149⟩ := Kd.S_get HO_3.out [] (rd ((rd_T58 l0_0 x19_1).f2) x27_2) p149 (by first | exact q149 | exact odt ‹_› | (have e_ := (Kd.S_reads' HO_3.out).1; omega))
      obtain ⟨ve149_0, rfl, ge149_0⟩ := hMe149
      have hv149_0 := hcc149 0 _ rfl
      rw [Nat.add_zero, show ((Kd.slice 3 (Kd.int .i64))).sz = 1 from rfl, Nat.mul_one] at hv149_0
      replace hv149_0 := Option.some.inj (hv149_0.symm.trans hx149_0)
      rw [hv149_0] at ge149_0
      have HL149_0 := am (show Kd.R (Kd.int .i64) 3 _ _ _ _ (rd_L1 x3_2 (rd ((rd_T58 l0_0 x19_1).f2) x27_2)) from ge149_0)
      clear hv149_0 ge149_0
      have HX149_0 := am hx149_0
      clear hcc149 hce149
      have HR149_0 := am hi149_0
      have HC149_0 := am hl149_0
      clear hi149_0 hl149_0
      replace p149 := eq_true p149
      replace q149 := eq_true q149
      have p150 : 0 ≤ ((rd ((rd_T58 l0_0 x19_1).f2) x27_2) : Int) := odt ‹_›
      have q150 : (rd ((rd_T58 l0_0 x19_1).f2) x27_2) < (x3_2.length : Int) := odt ‹_›
      obtain ⟨ad150, A150_0, c150_0, e150, hx150_0, hl150_0, hi150_0⟩ := at_L1 (Kd.S_reads' HO_3.out).2.2 (rd ((rd_T58 l0_0 x19_1).f2) x27_2) p150 q150
      obtain rfl : ad149 = ad150 := (by injection e150)
      obtain ⟨ce150, hce150, hMe150, hcc150⟩ := Kd.S_get HO_3.out [] (rd ((rd_T58 l0_0 x19_1).f2) x27_2) p150 (by first | exact q150 | exact odt ‹_› | (have e_ := (Kd.S_reads' HO_3.out).1; omega))
      obtain ⟨ve150_0, rfl, ge150_0⟩ := hMe150
      have hv150_0 := hcc150 0 _ rfl
      rw [Nat.add_zero, show ((Kd.slice 3 (Kd.int .i64))).sz = 1 from rfl, Nat.mul_one] at hv150_0
      replace hv150_0 := Option.some.inj (hv150_0.symm.trans hx150_0)
      rw [hv150_0] at ge150_0
      have HL150_0 := am (show Kd.R (Kd.int .i64) 3 _ _ _ _ (rd_L1 x3_2 (rd ((rd_T58 l0_0 x19_1).f2) x27_2)) from ge150_0)
      clear hv150_0 ge150_0
      have HX150_0 := am hx150_0
      clear hcc150 hce150
      have HR150_0 := am hi150_0
      have HC150_0 := am hl150_0
      clear hi150_0 hl150_0
      replace p150 := eq_true p150
      replace q150 := eq_true q150
      have ea_ := Option.some.inj (hx149_0.symm.trans hx150_0)
      injection ea_ with ea_ en_ ec_
      subst ea_
      subst ec_
      clear en_
      obtain ⟨go28, co28, eo28, gb28, gl28, cl28, HG28⟩ := Kd.S_form HO_3.out (by have h_ : ((rd ((rd_T58 l0_0 x19_1).f2) x27_2) : Int) < ((x3_2.length : Int) : Int) := odt ‹_›; have h2_ : 0 ≤ ((rd ((rd_T58 l0_0 x19_1).f2) x27_2) : Int) := (odt ‹_›); omega)
      (first | cases eo28 | (injection eo28 with ea_ en_ ec_; (first | subst ea_ | (injection ea_ with ea_; subst ea_)); subst ec_; clear en_))
      have GB28 := am gb28
      have GG28 := am HG28
      clear gb28 gl28 HG28
      (first | simp only [add_plain] at hx149_0 | skip)
      (first | simp only [add_plain] at hx150_0 | skip)
      obtain ⟨oki28, ce28, hcl28, hM28, hcc28, _, _, hH28⟩ := Kd.S_elem HO_3.out [] ((rd ((rd_T58 l0_0 x19_1).f2) x27_2) : Int) (odt ‹_›) (by have h_ : ((rd ((rd_T58 l0_0 x19_1).f2) x27_2) : Int) < ((x3_2.length : Int) : Int) := odt ‹_›; first | exact h_ | (have e_ := (Kd.S_reads' HO_3.out).1; omega) | simpa using h_)
      obtain ⟨ve28_0, rfl, ge28_0⟩ := hM28
      have hv28 := hcc28 0 _ rfl
      have hX28 := HX150_0.out
      (try simp only [add_plain] at hX28)
      (try simp only [Nat.add_zero] at hv28)
      (try rw [show ((Kd.slice 3 (Kd.int .i64))).sz = 1 from rfl, Nat.mul_one] at hv28)
      replace hv28 := Option.some.inj (hv28.symm.trans hX28)
      subst hv28
      clear hX28 hcc28 hcl28
      have UU28 := am (show Kd.R (Kd.int .i64) 3 _ w.heap.size oki28 (.slice A149_0 (rd_L1 x3_2 (rd ((rd_T58 l0_0 x19_1).f2) x27_2)).length c149_0) (rd_L1 x3_2 (rd ((rd_T58 l0_0 x19_1).f2) x27_2)) from ge28_0)
      have HH28 := am hH28
      have HN28 := am (Kd.S_reads' HO_3.out).1
      clear hH28 ge28_0
      go_wp2_with (first | ((with_reducible refine gate_builtin (b := .append) (xs := #[.tmp 55, .tmp 57]) rfl ?_); at_builtin; refine Kd.R_append (Kd.int .i64) (w0 := w) w.heap.size rfl (.tmp 55) (.tmp 57) 27 3 (.int .i64 0) 8 rfl Tryz.underlying27 info3 rfl (by decide) (by omega) (.slice A149_0 (rd_L1 x3_2 (rd ((rd_T58 l0_0 x19_1).f2) x27_2)).length c149_0) (rd_L1 x3_2 (rd ((rd_T58 l0_0 x19_1).f2) x27_2)) x19_1 [.int .i64 x19_1] (fun k_ => oki28 k_ ∨ ((fun _ => True)) k_ ∧ wr.heap.size ≤ k_) (fun _ => False) rfl rfl ?aP (fun _ hk => hk.elim) ?aF ?aO ?aB ?aS ?aL ?_; (case aP => exact rfl); (case aB => exact (HB.out)); (case aF => exact (fun k_ hk => .inr ⟨trivial, hk⟩)); (case aO => exact (Kd.R_mono UU28.out (fun _ hk => .inl hk))); (case aS => exact (below_size (HB.out))); (case aL => have := LMc25.out; omega); intro v152 w29 ho hb hg hat; rw [← Ny151.out] at ho; have n0_ := am (blk_grown (g := gb141) (o := .cells #[.slice (some ad146) l0_0.length c0_0] 36 (0, 0)) (BK141.out) hg (Kd.R_ne HL150_0.out BK141.out (by decide))); have n1_ := am (blk_grown (g := gb147) (o := .cells #[.int .i64 ((rd_T58 l0_0 x19_1).f0), .int .i64 ((rd_T58 l0_0 x19_1).f1), .slice (some ad148) ((rd_T58 l0_0 x19_1).f2).length c146_2] 58 (0, 0)) (BK147.out) hg (Kd.R_ne HL150_0.out BK147.out (by decide))); have n2_ := am (hb); have n3_ := am (Kd.H_grown (Kd.H_widen (by repeat (first | exact HH28.out | refine Kd.H_alloc ?_ _ | refine Kd.H_drewN ?_ _ | refine Kd.H_drew ?_))) hg (fun k_ e_ => .inl (UU28.out.1 k_ e_))); have n4_ := am (ho); clear BK141; clear BK147; clear HB; clear HH28; clear HO_3; clear UU28; clear HL149_0; clear HL150_0; have BK141 := n0_; have BK147 := n1_; have HB := n2_; have HH28 := n3_; have HO153 := n4_; clear n0_ n1_ n2_ n3_ n4_; clear ho hb hg hat; have p26 : 0 ≤ ((rd ((rd_T58 l0_0 x19_1).f2) x27_2) : Int) := odt ‹_›; have q26 : ((rd ((rd_T58 l0_0 x19_1).f2) x27_2) : Int) < ((x3_2.length : Int) : Int) := odt ‹_›; replace p26 := eq_true p26; replace q26 := eq_true q26; obtain ⟨Ao32, co32, eo32⟩ := Kd.R_slice HO153.out; subst eo32; obtain ⟨_, _, hraw30, _, _, hcc30, _⟩ := Kd.H_raw HH28.out (odt ‹_›) (by have h_ : ((rd ((rd_T58 l0_0 x19_1).f2) x27_2) : Int) < ((x3_2.length : Int) : Int) := odt ‹_›; first | exact h_ | (have e_ := (HN28.out); omega) | simpa using h_); obtain ⟨_, hfr30⟩ := Kd.H_at HH28.out (odt ‹_›) (by have h_ : ((rd ((rd_T58 l0_0 x19_1).f2) x27_2) : Int) < ((x3_2.length : Int) : Int) := odt ‹_›; first | exact h_ | (have e_ := (HN28.out); omega) | simpa using h_); have hx30_0 := hcc30 0 _ rfl; have hf30_0 := hfr30 0; (try simp only [Nat.add_zero] at hx30_0 hf30_0); (try rw [show ((Kd.slice 3 (Kd.int .i64))).sz = 1 from rfl, Nat.mul_one] at hx30_0); (try rw [show ((Kd.slice 3 (Kd.int .i64))).sz = 1 from rfl, Nat.mul_one] at hf30_0); have HP30 := Kd.S_seg0 HH28.out (odt ‹_›) (by have h_ : ((rd ((rd_T58 l0_0 x19_1).f2) x27_2) : Int) < ((x3_2.length : Int) : Int) := odt ‹_›; first | exact h_ | (have e_ := (HN28.out); omega) | simpa using h_) (seg := [.slice Ao32 y151.length co32]) (j := 0) (show 1 ≤ 1 from by decide) (x' := y151) (Kd.M_row HO153.out) (fun _ hk => hk); (try simp only [show ((Kd.slice 3 (Kd.int .i64))).sz = 1 from rfl, Nat.mul_one, Nat.add_zero] at HP30); clear hcc30 hfr30) | ((with_reducible refine gate_store (t := 27) (p := 59) rfl ?_); refine store_event (t := 27) (p := 59) (v := ?vo_w31) (w1 := (w29.setCell ⟨go28, ((rd ((rd_T58 l0_0 x19_1).f2) x27_2) : Int).toNat, none⟩ (.slice Ao32 y151.length co32))) ?hg ?ho ?hn ?hr ?_; (case ho => rfl); (case hg => rfl); (case hn => rfl); (case hr => first | (go_simp; done) | (go_simp; rfl)); intro w31 hw; have hg : w29.grownBy w31 (some go28) := (by rw [hw]; exact HP30.2); have hp_ : Kd.S (Kd.slice 3 (Kd.int .i64)) 27 w31 w.heap.size (fun _ => True) (.slice (some ⟨go28, 0, none⟩) x3_2.length co27) y154 := (by rw [hw, Ny154.out]; exact HP30.1); clear HP30; have n0_ := am (blk_grown (g := gb141) (o := .cells #[.slice (some ad146) l0_0.length c0_0] 36 (0, 0)) (BK141.out) hg (Kd.R_ne hraw30 BK141.out (by decide))); have n1_ := am (blk_grown (g := gb147) (o := .cells #[.int .i64 ((rd_T58 l0_0 x19_1).f0), .int .i64 ((rd_T58 l0_0 x19_1).f1), .slice (some ad148) ((rd_T58 l0_0 x19_1).f2).length c146_2] 58 (0, 0)) (BK147.out) hg (Kd.R_ne hraw30 BK147.out (by decide))); have n2_ := am ((by rw [hw]; exact below_set HB.out GB28.out : Below w.heap.size w w31)); have n3_ := am (hp_); clear BK141; clear BK147; clear HB; clear HO153; clear HH28; have BK141 := n0_; have BK147 := n1_; have HB := n2_; have HO_3 := n3_; clear n0_ n1_ n2_ n3_; clear hg hw hp_ hraw30))
      go_roundg k2
      case measure => have := HK1.out; have := HK2.out; omega
      case rel => exact ⟨(y154), (wrap64 (x27_2 + 1)), (rfl), H', ⟨by have := HK1.out; have := HK2.out; omega⟩, ⟨HO_3.out⟩, ⟨BK141.out⟩, ⟨BK147.out⟩, ⟨HB.out⟩⟩
     rw [if_neg c24] at H
     have c24b0 : (((rd_L1 x3_2 (rd ((rd_T58 l0_0 x19_1).f2) x27_2)).length : Int) == 0) = false := beq_eq_false_iff_ne.mpr c24
     have c24b1 : (((rd_L1 x3_2 (rd ((rd_T58 l0_0 x19_1).f2) x27_2)).length : Int) != 0) = true := bne_iff_ne.mpr c24
     have c24b2 : ¬ ((rd_L1 x3_2 (rd ((rd_T58 l0_0 x19_1).f2) x27_2)) = []) := fun h_ => c24 (by rw [h_]; rfl)
     obtain ⟨ji33, hji33⟩ : ∃ j_ : Int, (wrap64 (((rd_L1 x3_2 (rd ((rd_T58 l0_0 x19_1).f2) x27_2)).length : Int) - 1)) = j_ := ⟨_, rfl⟩
     replace H : (if 0 ≤ (ji33) then (if (ji33) < ((rd_L1 x3_2 (rd ((rd_T58 l0_0 x19_1).f2) x27_2)).length : Int) then (if (rd (rd_L1 x3_2 (rd ((rd_T58 l0_0 x19_1).f2) x27_2)) (ji33)) = x19_1 then (flow_Before.l1 k2 x3_2 x19_1 l0_0 (l0_0.length : Int) x19_1 ((rd_T58 l0_0 x19_1).f2) (((rd_T58 l0_0 x19_1).f2).length : Int) (wrap64 (x27_2 + 1))) else (if (rd_L1 x3_2 (rd ((rd_T58 l0_0 x19_1).f2) x27_2)).length < 17592186044416 then (flow_Before.l1 k2 (x3_2.set ((rd ((rd_T58 l0_0 x19_1).f2) x27_2) : Int).toNat ((rd_L1 x3_2 (rd ((rd_T58 l0_0 x19_1).f2) x27_2)) ++ [x19_1])) x19_1 l0_0 (l0_0.length : Int) x19_1 ((rd_T58 l0_0 x19_1).f2) (((rd_T58 l0_0 x19_1).f2).length : Int) (wrap64 (x27_2 + 1))) else (none))) else (none)) else (none)) = some r := by first | (rw [hji33] at H; exact H) | (simp only [hji33] at H ⊢; exact H)
     have hji33w : (IntKind.i64.wrap (((rd_L1 x3_2 (rd ((rd_T58 l0_0 x19_1).f2) x27_2)).length : Int) - 1)) = ji33 := (i64_w _).trans hji33
     by_cases c34 : 0 ≤ (ji33)
     rotate_left
     ·rw [if_neg c34] at H
      exact absurd H (by simp)
     rw [if_pos c34] at H
     have c34b0 : decide (0 ≤ (ji33)) = true := decide_eq_true c34
     clear c34
     by_cases c35 : (ji33) < ((rd_L1 x3_2 (rd ((rd_T58 l0_0 x19_1).f2) x27_2)).length : Int)
     rotate_left
     ·rw [if_neg c35] at H
      exact absurd H (by simp)
     rw [if_pos c35] at H
     have c35b0 : decide ((ji33) < ((rd_L1 x3_2 (rd ((rd_T58 l0_0 x19_1).f2) x27_2)).length : Int)) = true := decide_eq_true c35
     clear c35
     by_cases c36 : (rd (rd_L1 x3_2 (rd ((rd_T58 l0_0 x19_1).f2) x27_2)) (ji33)) = x19_1
     ·rw [if_pos c36] at H
      have c36b0 : ((rd (rd_L1 x3_2 (rd ((rd_T58 l0_0 x19_1).f2) x27_2)) (ji33)) == x19_1) = true := beq_iff_eq.mpr c36
      have c36b1 : ((rd (rd_L1 x3_2 (rd ((rd_T58 l0_0 x19_1).f2) x27_2)) (ji33)) != x19_1) = false := bne_eq_false_iff_eq.mpr c36
      clear c36
      have H' := am H
      clear H
      have p148 : 0 ≤ (x27_2 : Int) := odt ‹_›
      have q148 : x27_2 < (((rd_T58 l0_0 x19_1).f2).length : Int) := odt ‹_›
      obtain ⟨ad148, e148, hx148_0⟩ := Kd.at_int HR146_2.out x27_2 p148 q148
      cases e148
      replace hx148_0 := (HB.out.cell (blc w _ hx148_0)).trans hx148_0
      replace p148 := eq_true p148
      replace q148 := eq_true q148
      obtain ⟨Ao37, co37, eo37⟩ := Kd.S_slice HO_3.out
      subst eo37
      have p149 : 0 ≤ ((rd ((rd_T58 l0_0 x19_1).f2) x27_2) : Int) := odt ‹_›
      have q149 : (rd ((rd_T58 l0_0 x19_1).f2) x27_2) < (x3_2.length : Int) := odt ‹_›
      obtain ⟨ad149, A149_0, c149_0, e149, hx149_0, hl149_0, hi149_0⟩ := at_L1 (Kd.S_reads' HO_3.out).2.2 (rd ((rd_T58 l0_0 x19_1).f2) x27_2) p149 q149
      cases e149
      obtain ⟨ce149, hce149, hMe149, hcc149⟩ := Kd.S_get HO_3.out [] (rd ((rd_T58 l0_0 x19_1).f2) x27_2) p149 (by first | exact q149 | exact odt ‹_› | (have e_ := (Kd.S_reads' HO_3.out).1; omega))
      obtain ⟨ve149_0, rfl, ge149_0⟩ := hMe149
      have hv149_0 := hcc149 0 _ rfl
      rw [Nat.add_zero, show ((Kd.slice 3 (Kd.int .i64))).sz = 1 from rfl, Nat.mul_one] at hv149_0
      replace hv149_0 := Option.some.inj (hv149_0.symm.trans hx149_0)
      rw [hv149_0] at ge149_0
      have HL149_0 := am (show Kd.R (Kd.int .i64) 3 _ _ _ _ (rd_L1 x3_2 (rd ((rd_T58 l0_0 x19_1).f2) x27_2)) from ge149_0)
      clear hv149_0 ge149_0
      have HX149_0 := am hx149_0
      clear hcc149 hce149
      have HR149_0 := am hi149_0
      have HC149_0 := am hl149_0
      clear hi149_0 hl149_0
      replace p149 := eq_true p149
      replace q149 := eq_true q149
      have p155 : 0 ≤ ((rd ((rd_T58 l0_0 x19_1).f2) x27_2) : Int) := odt ‹_›
      have q155 : (rd ((rd_T58 l0_0 x19_1).f2) x27_2) < (x3_2.length : Int) := odt ‹_›
      obtain ⟨ad155, A155_0, c155_0, e155, hx155_0, hl155_0, hi155_0⟩ := at_L1 (Kd.S_reads' HO_3.out).2.2 (rd ((rd_T58 l0_0 x19_1).f2) x27_2) p155 q155
      obtain rfl : ad149 = ad155 := (by injection e155)
      obtain ⟨ce155, hce155, hMe155, hcc155⟩ := Kd.S_get HO_3.out [] (rd ((rd_T58 l0_0 x19_1).f2) x27_2) p155 (by first | exact q155 | exact odt ‹_› | (have e_ := (Kd.S_reads' HO_3.out).1; omega))
      obtain ⟨ve155_0, rfl, ge155_0⟩ := hMe155
      have hv155_0 := hcc155 0 _ rfl
      rw [Nat.add_zero, show ((Kd.slice 3 (Kd.int .i64))).sz = 1 from rfl, Nat.mul_one] at hv155_0
      replace hv155_0 := Option.some.inj (hv155_0.symm.trans hx155_0)
      rw [hv155_0] at ge155_0
      have HL155_0 := am (show Kd.R (Kd.int .i64) 3 _ _ _ _ (rd_L1 x3_2 (rd ((rd_T58 l0_0 x19_1).f2) x27_2)) from ge155_0)
      clear hv155_0 ge155_0
      have HX155_0 := am hx155_0
      clear hcc155 hce155
      have HR155_0 := am hi155_0
      have HC155_0 := am hl155_0
      clear hi155_0 hl155_0
      replace p155 := eq_true p155
      replace q155 := eq_true q155
      have ea_ := Option.some.inj (hx149_0.symm.trans hx155_0)
      injection ea_ with ea_ en_ ec_
      subst ea_
      subst ec_
      clear en_
      have p156 : 0 ≤ ((ji33) : Int) := odt ‹_›
      have q156 : (ji33) < ((rd_L1 x3_2 (rd ((rd_T58 l0_0 x19_1).f2) x27_2)).length : Int) := odt ‹_›
      obtain ⟨ad156, e156, hx156_0⟩ := Kd.at_int (by repeat (first | (with_reducible exact HR155_0.out) | (with_reducible refine Kd.C_alloc ?_ _) | (with_reducible refine Kd.C_drewN ?_ _) | (with_reducible refine Kd.C_drew ?_) | exact HR155_0.out)) (ji33) p156 q156
      cases e156
      replace p156 := eq_true p156
      replace q156 := eq_true q156
      go_wp2
      go_roundg k2
      case measure => have := HK1.out; have := HK2.out; omega
      case rel => exact ⟨(x3_2), (wrap64 (x27_2 + 1)), (rfl), H', ⟨by have := HK1.out; have := HK2.out; omega⟩, ⟨HO_3.out⟩, ⟨BK141.out⟩, ⟨BK147.out⟩, ⟨HB.out⟩⟩
     rw [if_neg c36] at H
     have c36b0 : ((rd (rd_L1 x3_2 (rd ((rd_T58 l0_0 x19_1).f2) x27_2)) (ji33)) == x19_1) = false := beq_eq_false_iff_ne.mpr c36
     have c36b1 : ((rd (rd_L1 x3_2 (rd ((rd_T58 l0_0 x19_1).f2) x27_2)) (ji33)) != x19_1) = true := bne_iff_ne.mpr c36
     by_cases c38 : (rd_L1 x3_2 (rd ((rd_T58 l0_0 x19_1).f2) x27_2)).length < 17592186044416
     rotate_left
     ·rw [if_neg c38] at H
      exact absurd H (by simp)
     rw [if_pos c38] at H
     have LMc38 := am c38
     clear c38
     obtain ⟨y158, hy158⟩ : ∃ y_ : List Int, y_ = ((rd_L1 x3_2 (rd ((rd_T58 l0_0 x19_1).f2) x27_2)) ++ [x19_1]) := ⟨_, rfl⟩
     replace H : (flow_Before.l1 k2 (x3_2.set ((rd ((rd_T58 l0_0 x19_1).f2) x27_2) : Int).toNat y158) x19_1 l0_0 (l0_0.length : Int) x19_1 ((rd_T58 l0_0 x19_1).f2) (((rd_T58 l0_0 x19_1).f2).length : Int) (wrap64 (x27_2 + 1))) = some r := by rw [hy158]; exact H
     have Ny158 := am hy158
     clear hy158
     obtain ⟨y161, hy161⟩ : ∃ y_ : List (List Int), y_ = (x3_2.set ((rd ((rd_T58 l0_0 x19_1).f2) x27_2) : Int).toNat y158) := ⟨_, rfl⟩
     replace H : (flow_Before.l1 k2 y161 x19_1 l0_0 (l0_0.length : Int) x19_1 ((rd_T58 l0_0 x19_1).f2) (((rd_T58 l0_0 x19_1).f2).length : Int) (wrap64 (x27_2 + 1))) = some r := by rw [hy161]; exact H
     have Ny161 := am hy161
     clear hy161
     have H' := am H
     clear H
     have p148 : 0 ≤ (x27_2 : Int) := odt ‹_›
     have q148 : x27_2 < (((rd_T58 l0_0 x19_1).f2).length : Int) := odt ‹_›
     obtain ⟨ad148, e148, hx148_0⟩ := Kd.at_int HR146_2.out x27_2 p148 q148
     cases e148
     replace hx148_0 := (HB.out.cell (blc w _ hx148_0)).trans hx148_0
     replace p148 := eq_true p148
     replace q148 := eq_true q148
     obtain ⟨Ao40, co40, eo40⟩ := Kd.S_slice HO_3.out
     subst eo40
     have p149 : 0 ≤ ((rd ((rd_T58 l0_0 x19_1).f2) x27_2) : Int) := odt ‹_›
     have q149 : (rd ((rd_T58 l0_0 x19_1).f2) x27_2) < (x3_2.length : Int) := odt ‹_›
     obtain ⟨ad149, A149_0, c149_0, e149, hx149_0, hl149_0, hi149_0⟩ := at_L1 (Kd.S_reads' HO_3.out).2.2 (rd ((rd_T58 l0_0 x19_1).f2) x27_2) p149 q149
     cases e149
     obtain ⟨ce149, hce149, hMe149, hcc149⟩ := Kd.S_get HO_3.out [] (rd ((rd_T58 l0_0 x19_1).f2) x27_2) p149 (by first | exact q149 | exact odt ‹_› | (have e_ := (Kd.S_reads' HO_3.out).1; omega))
     obtain ⟨ve149_0, rfl, ge149_0⟩ := hMe149
     have hv149_0 := hcc149 0 _ rfl
     rw [Nat.add_zero, show ((Kd.slice 3 (Kd.int .i64))).sz = 1 from rfl, Nat.mul_one] at hv149_0
     replace hv149_0 := Option.some.inj (hv149_0.symm.trans hx149_0)
     rw [hv149_0] at ge149_0
     have HL149_0 := am (show Kd.R (Kd.int .i64) 3 _ _ _ _ (rd_L1 x3_2 (rd ((rd_T58 l0_0 x19_1).f2) x27_2)) from ge149_0)
     clear hv149_0 ge149_0
     have HX149_0 := am hx149_0
     clear hcc149 hce149
     have HR149_0 := am hi149_0
     have HC149_0 := am hl149_0
     clear hi149_0 hl149_0
     replace p149 := eq_true p149
     replace q149 := eq_true q149
     have p155 : 0 ≤ ((rd ((rd_T58 l0_0 x19_1).f2) x27_2) : Int) := odt ‹_›
     have q155 : (rd ((rd_T58 l0_0 x19_1).f2) x27_2) < (x3_2.length : Int) := odt ‹_›
     obtain ⟨ad155, A155_0, c155_0, e155, hx155_0, hl155_0, hi155_0⟩ := at_L1 (Kd.S_reads' HO_3.out).2.2 (rd ((rd_T58 l0_0 x19_1).f2) x27_2) p155 q155
     obtain rfl : ad149 = ad155 := (by injection e155)
     obtain ⟨ce155, hce155, hMe155, hcc155⟩ := Kd.S_get HO_3.out [] (rd ((rd_T58 l0_0 x19_1).f2) x27_2) p155 (by first | exact q155 | exact odt ‹_› | (have e_ := (Kd.S_reads' HO_3.out).1; omega))
     obtain ⟨ve155_0, rfl, ge155_0⟩ := hMe155
     have hv155_0 := hcc155 0 _ rfl
     rw [Nat.add_zero, show ((Kd.slice 3 (Kd.int .i64))).sz = 1 from rfl, Nat.mul_one] at hv155_0
     replace hv155_0 := Option.some.inj (hv155_0.symm.trans hx155_0)
     rw [hv155_0] at ge155_0
     have HL155_0 := am (show Kd.R (Kd.int .i64) 3 _ _ _ _ (rd_L1 x3_2 (rd ((rd_T58 l0_0 x19_1).f2) x27_2)) from ge155_0)
     clear hv155_0 ge155_0
     have HX155_0 := am hx155_0
     clear hcc155 hce155
     have HR155_0 := am hi155_0
     have HC155_0 := am hl155_0
     clear hi155_0 hl155_0
     replace p155 := eq_true p155
     replace q155 := eq_true q155
     have ea_ := Option.some.inj (hx149_0.symm.trans hx155_0)
     injection ea_ with ea_ en_ ec_
     subst ea_
     subst ec_
     clear en_
     have p156 : 0 ≤ ((ji33) : Int) := odt ‹_›
     have q156 : (ji33) < ((rd_L1 x3_2 (rd ((rd_T58 l0_0 x19_1).f2) x27_2)).length : Int) := odt ‹_›
     obtain ⟨ad156, e156, hx156_0⟩ := Kd.at_int (by repeat (first | (with_reducible exact HR155_0.out) | (with_reducible refine Kd.C_alloc ?_ _) | (with_reducible refine Kd.C_drewN ?_ _) | (with_reducible refine Kd.C_drew ?_) | exact HR155_0.out)) (ji33) p156 q156
     cases e156
     replace p156 := eq_true p156
     replace q156 := eq_true q156
     have p157 : 0 ≤ ((rd ((rd_T58 l0_0 x19_1).f2) x27_2) : Int) := odt ‹_›
     have q157 : (rd ((rd_T58 l0_0 x19_1).f2) x27_2) < (x3_2.length : Int) := odt ‹_›
     obtain ⟨ad157, A157_0, c157_0, e157, hx157_0, hl157_0, hi157_0⟩ := at_L1 (Kd.S_reads' HO_3.out).2.2 (rd ((rd_T58 l0_0 x19_1).f2) x27_2) p157 q157
     obtain rfl : ad149 = ad157 := (by injection e157)
     obtain ⟨ce157, hce157, hMe157, hcc157⟩ := Kd.S_get HO_3.out [] (rd ((rd_T58 l0_0 x19_1).f2) x27_2) p157 (by first | exact q157 | exact odt ‹_› | (have e_ := (Kd.S_reads' HO_3.out).1; omega))
     obtain ⟨ve157_0, rfl, ge157_0⟩ := hMe157
     have hv157_0 := hcc157 0 _ rfl
     rw [Nat.add_zero, show ((Kd.slice 3 (Kd.int .i64))).sz = 1 from rfl, Nat.mul_one] at hv157_0
     replace hv157_0 := Option.some.inj (hv157_0.symm.trans hx157_0)
     rw [hv157_0] at ge157_0
     have HL157_0 := am (show Kd.R (Kd.int .i64) 3 _ _ _ _ (rd_L1 x3_2 (rd ((rd_T58 l0_0 x19_1).f2) x27_2)) from ge157_0)
     clear hv157_0 ge157_0
     have HX157_0 := am hx157_0
     clear hcc157 hce157
     have HR157_0 := am hi157_0
     have HC157_0 := am hl157_0
     clear hi157_0 hl157_0
     replace p157 := eq_true p157
     replace q157 := eq_true q157
     have ea_ := Option.some.inj (hx149_0.symm.trans hx157_0)
     injection ea_ with ea_ en_ ec_
     subst ea_
     subst ec_
     clear en_
     obtain ⟨go41, co41, eo41, gb41, gl41, cl41, HG41⟩ := Kd.S_form HO_3.out (by have h_ : ((rd ((rd_T58 l0_0 x19_1).f2) x27_2) : Int) < ((x3_2.length : Int) : Int) := odt ‹_›; have h2_ : 0 ≤ ((rd ((rd_T58 l0_0 x19_1).f2) x27_2) : Int) := (odt ‹_›); omega)
     (first | cases eo41 | (injection eo41 with ea_ en_ ec_; (first | subst ea_ | (injection ea_ with ea_; subst ea_)); subst ec_; clear en_))
     have GB41 := am gb41
     have GG41 := am HG41
     clear gb41 gl41 HG41
     (first | simp only [add_plain] at hx149_0 | skip)
     (first | simp only [add_plain] at hx155_0 | skip)
     (first | simp only [add_plain] at hx157_0 | skip)
     obtain ⟨oki41, ce41, hcl41, hM41, hcc41, _, _, hH41⟩ := Kd.S_elem HO_3.out [] ((rd ((rd_T58 l0_0 x19_1).f2) x27_2) : Int) (odt ‹_›) (by have h_ : ((rd ((rd_T58 l0_0 x19_1).f2) x27_2) : Int) < ((x3_2.length : Int) : Int) := odt ‹_›; first | exact h_ | (have e_ := (Kd.S_reads' HO_3.out).1; omega) | simpa using h_)
     obtain ⟨ve41_0, rfl, ge41_0⟩ := hM41
     have hv41 := hcc41 0 _ rfl
     have hX41 := HX157_0.out
     (try simp only [add_plain] at hX41)
     (try simp only [Nat.add_zero] at hv41)
     (try rw [show ((Kd.slice 3 (Kd.int .i64))).sz = 1 from rfl, Nat.mul_one] at hv41)
     replace hv41 := Option.some.inj (hv41.symm.trans hX41)
     subst hv41
     clear hX41 hcc41 hcl41
     have UU41 := am (show Kd.R (Kd.int .i64) 3 _ w.heap.size oki41 (.slice (some ad156) (rd_L1 x3_2 (rd ((rd_T58 l0_0 x19_1).f2) x27_2)).length c149_0) (rd_L1 x3_2 (rd ((rd_T58 l0_0 x19_1).f2) x27_2)) from ge41_0)
     have HH41 := am hH41
     have HN41 := am (Kd.S_reads' HO_3.out).1
     clear hH41 ge41_0
     go_wp2_with (first | ((with_reducible refine gate_builtin (b := .append) (xs := #[.tmp 55, .tmp 57]) rfl ?_); at_builtin; refine Kd.R_append (Kd.int .i64) (w0 := w) w.heap.size rfl (.tmp 55) (.tmp 57) 27 3 (.int .i64 0) 8 rfl Tryz.underlying27 info3 rfl (by decide) (by omega) (.slice (some ad156) (rd_L1 x3_2 (rd ((rd_T58 l0_0 x19_1).f2) x27_2)).length c149_0) (rd_L1 x3_2 (rd ((rd_T58 l0_0 x19_1).f2) x27_2)) x19_1 [.int .i64 x19_1] (fun k_ => oki41 k_ ∨ ((fun _ => True)) k_ ∧ wr.heap.size ≤ k_) (fun _ => False) rfl rfl ?aP (fun _ hk => hk.elim) ?aF ?aO ?aB ?aS ?aL ?_; (case aP => exact rfl); (case aB => exact (HB.out)); (case aF => exact (fun k_ hk => .inr ⟨trivial, hk⟩)); (case aO => exact (Kd.R_mono UU41.out (fun _ hk => .inl hk))); (case aS => exact (below_size (HB.out))); (case aL => have := LMc38.out; omega); intro v159 w42 ho hb hg hat; rw [← Ny158.out] at ho; have n0_ := am (blk_grown (g := gb141) (o := .cells #[.slice (some ad146) l0_0.length c0_0] 36 (0, 0)) (BK141.out) hg (Kd.R_ne HL157_0.out BK141.out (by decide))); have n1_ := am (blk_grown (g := gb147) (o := .cells #[.int .i64 ((rd_T58 l0_0 x19_1).f0), .int .i64 ((rd_T58 l0_0 x19_1).f1), .slice (some ad148) ((rd_T58 l0_0 x19_1).f2).length c146_2] 58 (0, 0)) (BK147.out) hg (Kd.R_ne HL157_0.out BK147.out (by decide))); have n2_ := am (hb); have n3_ := am (Kd.H_grown (Kd.H_widen (by repeat (first | exact HH41.out | refine Kd.H_alloc ?_ _ | refine Kd.H_drewN ?_ _ | refine Kd.H_drew ?_))) hg (fun k_ e_ => .inl (UU41.out.1 k_ e_))); have n4_ := am (ho); clear BK141; clear BK147; clear HB; clear HH41; clear HO_3; clear UU41; clear HL149_0; clear HL155_0; clear HL157_0; have BK141 := n0_; have BK147 := n1_; have HB := n2_; have HH41 := n3_; have HO160 := n4_; clear n0_ n1_ n2_ n3_ n4_; clear ho hb hg hat; have p39 : 0 ≤ ((rd ((rd_T58 l0_0 x19_1).f2) x27_2) : Int) := odt ‹_›; have q39 : ((rd ((rd_T58 l0_0 x19_1).f2) x27_2) : Int) < ((x3_2.length : Int) : Int) := odt ‹_›; replace p39 := eq_true p39; replace q39 := eq_true q39; obtain ⟨Ao45, co45, eo45⟩ := Kd.R_slice HO160.out; subst eo45; obtain ⟨_, _, hraw43, _, _, hcc43, _⟩ := Kd.H_raw HH41.out (odt ‹_›) (by have h_ : ((rd ((rd_T58 l0_0 x19_1).f2) x27_2) : Int) < ((x3_2.length : Int) : Int) := odt ‹_›; first | exact h_ | (have e_ := (HN41.out); omega) | simpa using h_); obtain ⟨_, hfr43⟩ := Kd.H_at HH41.out (odt ‹_›) (by have h_ : ((rd ((rd_T58 l0_0 x19_1).f2) x27_2) : Int) < ((x3_2.length : Int) : Int) := odt ‹_›; first | exact h_ | (have e_ := (HN41.out); omega) | simpa using h_); have hx43_0 := hcc43 0 _ rfl; have hf43_0 := hfr43 0; (try simp only [Nat.add_zero] at hx43_0 hf43_0); (try rw [show ((Kd.slice 3 (Kd.int .i64))).sz = 1 from rfl, Nat.mul_one] at hx43_0); (try rw [show ((Kd.slice 3 (Kd.int .i64))).sz = 1 from rfl, Nat.mul_one] at hf43_0); have HP43 := Kd.S_seg0 HH41.out (odt ‹_›) (by have h_ : ((rd ((rd_T58 l0_0 x19_1).f2) x27_2) : Int) < ((x3_2.length : Int) : Int) := odt ‹_›; first | exact h_ | (have e_ := (HN41.out); omega) | simpa using h_) (seg := [.slice Ao45 y158.length co45]) (j := 0) (show 1 ≤ 1 from by decide) (x' := y158) (Kd.M_row HO160.out) (fun _ hk => hk); (try simp only [show ((Kd.slice 3 (Kd.int .i64))).sz = 1 from rfl, Nat.mul_one, Nat.add_zero] at HP43); clear hcc43 hfr43) | ((with_reducible refine gate_store (t := 27) (p := 59) rfl ?_); refine store_event (t := 27) (p := 59) (v := ?vo_w44) (w1 := (w42.setCell ⟨go41, ((rd ((rd_T58 l0_0 x19_1).f2) x27_2) : Int).toNat, none⟩ (.slice Ao45 y158.length co45))) ?hg ?ho ?hn ?hr ?_; (case ho => rfl); (case hg => rfl); (case hn => rfl); (case hr => first | (go_simp; done) | (go_simp; rfl)); intro w44 hw; have hg : w42.grownBy w44 (some go41) := (by rw [hw]; exact HP43.2); have hp_ : Kd.S (Kd.slice 3 (Kd.int .i64)) 27 w44 w.heap.size (fun _ => True) (.slice (some ⟨go41, 0, none⟩) x3_2.length co40) y161 := (by rw [hw, Ny161.out]; exact HP43.1); clear HP43; have n0_ := am (blk_grown (g := gb141) (o := .cells #[.slice (some ad146) l0_0.length c0_0] 36 (0, 0)) (BK141.out) hg (Kd.R_ne hraw43 BK141.out (by decide))); have n1_ := am (blk_grown (g := gb147) (o := .cells #[.int .i64 ((rd_T58 l0_0 x19_1).f0), .int .i64 ((rd_T58 l0_0 x19_1).f1), .slice (some ad148) ((rd_T58 l0_0 x19_1).f2).length c146_2] 58 (0, 0)) (BK147.out) hg (Kd.R_ne hraw43 BK147.out (by decide))); have n2_ := am ((by rw [hw]; exact below_set HB.out GB41.out : Below w.heap.size w w44)); have n3_ := am (hp_); clear BK141; clear BK147; clear HB; clear HO160; clear HH41; have BK141 := n0_; have BK147 := n1_; have HB := n2_; have HO_3 := n3_; clear n0_ n1_ n2_ n3_; clear hg hw hp_ hraw43))
     go_roundg k2
     case measure => have := HK1.out; have := HK2.out; omega
     case rel => exact ⟨(y161), (wrap64 (x27_2 + 1)), (rfl), H', ⟨by have := HK1.out; have := HK2.out; omega⟩, ⟨HO_3.out⟩, ⟨BK141.out⟩, ⟨BK147.out⟩, ⟨HB.out⟩⟩
def q_to.l0 : Nat → Int → Int → Int → Int → List (S58) → Option (Int)
 | 0, _, _, _, _, _ => none
 | k + 1, x1, x2, x7, x8, x163000 => if 0 ≤ x1 then (if x1 < (x163000.length : Int) then (if x8 < (((rd_T58 x163000 x1).f2).length : Int) then (if 0 ≤ x8 then (if (rd ((rd_T58 x163000 x1).f2) x8) = x2 then (q_to.l0 k x1 x2 (wrap64 (x7 + 1)) (wrap64 (x8 + 1)) x163000) else (q_to.l0 k x1 x2 x7 (wrap64 (x8 + 1)) x163000)) else (none)) else (some x7)) else (none)) else (none)
def q_to.f (k : Nat) (l0_0 : List (S58)) (a1 : Int) (a2 : Int) : Option (Int) := q_to.l0 k a1 a2 0 0 l0_0
set_option maxHeartbeats 8000000 in
set_option maxRecDepth 100000 in
theorem q_to.calls (k : Nat) (A0_0 : Option Addr) (c0_0 : Nat) (l0_0 : List (S58)) (a1 : Int) (a2 : Int) (r : Int) (w : World) (hr0_0 : Kd.C k58 w A0_0 l0_0.length l0_0) (hc0_0 : l0_0.length ≤ c0_0) (h : q_to.f k l0_0 a1 a2 = some r) :
 Calls Tryz.prog 42 #[.agg #[.slice A0_0 l0_0.length c0_0], .int .i64 a1, .int .i64 a2] w fun e w' => e = .returned (.int .i64 r) ∧ Below w.heap.size w w' := by
 have hu36 := Tryz.underlying36
 have HR0_0 := am hr0_0
 have HC0_0 := am hc0_0
 clear hr0_0 hc0_0
 have HB := am (Below.refl w.heap.size w)
 have H : (q_to.l0 k a1 a2 0 0 l0_0) = some r := h
 clear h
 have H' := am H
 clear H
 go_enter Tryz.func42, Tryz.ntmps42
 go_wp2_with (first | ((with_reducible refine gate_dst (N := 3) rfl ?_); refine box_event ?hg (N := 3) ?hd (cs := #[.slice A0_0 l0_0.length c0_0]) (t := 36) ?hr ?_; (case hd => rfl); (case hg => rfl); (case hr => first | (go_simp; done) | (go_simp; rfl)); intro gb162 hg w4 hbox hb; have n0_ := am (below_step (HB.out) hb); have n1_ := am (hbox); have n2_ := am ((by rw [hg]; exact (below_size (HB.out)) : w.heap.size ≤ gb162)); have n3_ := am ((by rw [hg]; exact (below_size (HB.out)) : w.heap.size ≤ gb162)); clear HB; have HB := n0_; have BK162 := n1_; have GW162 := n2_; have GE162 := n3_; clear n0_ n1_ n2_ n3_; clear hb hbox hg))
 go_loopg [7, 8] k (fun kq v7 v8 w' => ∃ (x7_1 : Int) (x8_1 : Int), v7 = .int .i64 x7_1 ∧ v8 = .int .i64 x8_1 ∧ Aside0 (q_to.l0 kq a1 a2 x7_1 x8_1 l0_0 = some r) ∧ Aside0 (kq ≤ k) ∧ Aside0 (w'.heap[gb162]? = some (.cells #[(.slice A0_0 l0_0.length c0_0)] 36 (0, 0))) ∧ Aside0 (Below w.heap.size w w'))
 case atStart => exact ⟨(0), (0), (rfl), (rfl), H', ⟨Nat.le_refl _⟩, ⟨BK162.out⟩, ⟨HB.out⟩⟩
 case round =>
  clear H'
  obtain ⟨x7_1, x8_1, rfl, rfl, HA, HK1, BK162, HB⟩ := hrel
  cases gk with
  | zero => exact absurd HA.out (by simp [q_to.l0])
  | succ k1 =>
   have H := HA.out
   clear HA
   simp only [q_to.l0] at H
   by_cases c5 : 0 ≤ a1
   rotate_left
   ·rw [if_neg c5] at H
    exact absurd H (by simp)
   rw [if_pos c5] at H
   have c5b0 : decide (0 ≤ a1) = true := decide_eq_true c5
   clear c5
   by_cases c6 : a1 < (l0_0.length : Int)
   rotate_left
   ·rw [if_neg c6] at H
    exact absurd H (by simp)
   rw [if_pos c6] at H
   have c6b0 : decide (a1 < (l0_0.length : Int)) = true := decide_eq_true c6
   clear c6
   by_cases c7 : x8_1 < (((rd_T58 l0_0 a1).f2).length : Int)
   rotate_left
   ·rw [if_neg c7] at H
    have c7b0 : decide (x8_1 < (((rd_T58 l0_0 a1).f2).length : Int)) = false := decide_eq_false c7
    clear c7
    obtain rfl := Option.some.inj H
    have hcz12_0 : wr.cell? ⟨gb162, 0, none⟩ = some (.slice A0_0 l0_0.length c0_0) := (blk_cell BK162.out 0).trans rfl
    have hfz12_0 := blk_frozen BK162.out 0
    have p163 : 0 ≤ (a1 : Int) := odt ‹_›
    have q163 : a1 < (l0_0.length : Int) := odt ‹_›
    obtain ⟨ad163, A163_2, c163_2, e163, hx163_0, hx163_1, hx163_2, hl163_2, hi163_2⟩ := at_T58 HR0_0.out a1 p163 q163
    cases e163
    replace hx163_0 := (HB.out.cell (blc w _ hx163_0)).trans hx163_0
    replace hx163_1 := (HB.out.cell (blc w _ hx163_1)).trans hx163_1
    replace hx163_2 := (HB.out.cell (blc w _ hx163_2)).trans hx163_2
    have HR163_2 := am hi163_2
    have HC163_2 := am hl163_2
    clear hi163_2 hl163_2
    replace p163 := eq_true p163
    replace q163 := eq_true q163
    go_wp2
    go_ret
    exact ⟨rfl, HB.out⟩
   rw [if_pos c7] at H
   have c7b0 : decide (x8_1 < (((rd_T58 l0_0 a1).f2).length : Int)) = true := decide_eq_true c7
   clear c7
   by_cases c8 : 0 ≤ x8_1
   rotate_left
   ·rw [if_neg c8] at H
    exact absurd H (by simp)
   rw [if_pos c8] at H
   have c8b0 : decide (0 ≤ x8_1) = true := decide_eq_true c8
   clear c8
   by_cases c9 : (rd ((rd_T58 l0_0 a1).f2) x8_1) = a2
   rotate_left
   ·rw [if_neg c9] at H
    have c9b0 : ((rd ((rd_T58 l0_0 a1).f2) x8_1) == a2) = false := beq_eq_false_iff_ne.mpr c9
    have c9b1 : ((rd ((rd_T58 l0_0 a1).f2) x8_1) != a2) = true := bne_iff_ne.mpr c9
    have H' := am H
    clear H
    have hcz11_0 : wr.cell? ⟨gb162, 0, none⟩ = some (.slice A0_0 l0_0.length c0_0) := (blk_cell BK162.out 0).trans rfl
    have hfz11_0 := blk_frozen BK162.out 0
    have p163 : 0 ≤ (a1 : Int) := odt ‹_›
    have q163 : a1 < (l0_0.length : Int) := odt ‹_›
    obtain ⟨ad163, A163_2, c163_2, e163, hx163_0, hx163_1, hx163_2, hl163_2, hi163_2⟩ := at_T58 HR0_0.out a1 p163 q163
    cases e163
    replace hx163_0 := (HB.out.cell (blc w _ hx163_0)).trans hx163_0
    replace hx163_1 := (HB.out.cell (blc w _ hx163_1)).trans hx163_1
    replace hx163_2 := (HB.out.cell (blc w _ hx163_2)).trans hx163_2
    have HR163_2 := am hi163_2
    have HC163_2 := am hl163_2
    clear hi163_2 hl163_2
    replace p163 := eq_true p163
    replace q163 := eq_true q163
    have p164 : 0 ≤ (a1 : Int) := odt ‹_›
    have q164 : a1 < (l0_0.length : Int) := odt ‹_›
    obtain ⟨ad164, A164_2, c164_2, e164, hx164_0, hx164_1, hx164_2, hl164_2, hi164_2⟩ := at_T58 HR0_0.out a1 p164 q164
    obtain rfl : ad163 = ad164 := (by injection e164)
    replace hx164_0 := (HB.out.cell (blc w _ hx164_0)).trans hx164_0
    replace hx164_1 := (HB.out.cell (blc w _ hx164_1)).trans hx164_1
    replace hx164_2 := (HB.out.cell (blc w _ hx164_2)).trans hx164_2
    have HR164_2 := am hi164_2
    have HC164_2 := am hl164_2
    clear hi164_2 hl164_2
    replace p164 := eq_true p164
    replace q164 := eq_true q164
    have ea_ := Option.some.inj (hx163_2.symm.trans hx164_2)
    injection ea_ with ea_ en_ ec_
    subst ea_
    subst ec_
    clear en_
    have p165 : 0 ≤ (x8_1 : Int) := odt ‹_›
    have q165 : x8_1 < (((rd_T58 l0_0 a1).f2).length : Int) := odt ‹_›
    obtain ⟨ad165, e165, hx165_0⟩ := Kd.at_int HR164_2.out x8_1 p165 q165
    cases e165
    replace hx165_0 := (HB.out.cell (blc w _ hx165_0)).trans hx165_0
    replace p165 := eq_true p165
    replace q165 := eq_true q165
    go_wp2
    go_roundg k1
    case measure => have := HK1.out; omega
    case rel => exact ⟨(x7_1), (wrap64 (x8_1 + 1)), (rfl), (rfl), H', ⟨by have := HK1.out; omega⟩, ⟨BK162.out⟩, ⟨HB.out⟩⟩
   rw [if_pos c9] at H
   have c9b0 : ((rd ((rd_T58 l0_0 a1).f2) x8_1) == a2) = true := beq_iff_eq.mpr c9
   have c9b1 : ((rd ((rd_T58 l0_0 a1).f2) x8_1) != a2) = false := bne_eq_false_iff_eq.mpr c9
   clear c9
   have H' := am H
   clear H
   have hcz10_0 : wr.cell? ⟨gb162, 0, none⟩ = some (.slice A0_0 l0_0.length c0_0) := (blk_cell BK162.out 0).trans rfl
   have hfz10_0 := blk_frozen BK162.out 0
   have p163 : 0 ≤ (a1 : Int) := odt ‹_›
   have q163 : a1 < (l0_0.length : Int) := odt ‹_›
   obtain ⟨ad163, A163_2, c163_2, e163, hx163_0, hx163_1, hx163_2, hl163_2, hi163_2⟩ := at_T58 HR0_0.out a1 p163 q163
   cases e163
   replace hx163_0 := (HB.out.cell (blc w _ hx163_0)).trans hx163_0
   replace hx163_1 := (HB.out.cell (blc w _ hx163_1)).trans hx163_1
   replace hx163_2 := (HB.out.cell (blc w _ hx163_2)).trans hx163_2
   have HR163_2 := am hi163_2
   have HC163_2 := am hl163_2
   clear hi163_2 hl163_2
   replace p163 := eq_true p163
   replace q163 := eq_true q163
   have p164 : 0 ≤ (a1 : Int) := odt ‹_›
   have q164 : a1 < (l0_0.length : Int) := odt ‹_›
   obtain ⟨ad164, A164_2, c164_2, e164, hx164_0, hx164_1, hx164_2, hl164_2, hi164_2⟩ := at_T58 HR0_0.out a1 p164 q164
   obtain rfl : ad163 = ad164 := (by injection e164)
   replace hx164_0 := (HB.out.cell (blc w _ hx164_0)).trans hx164_0
   replace hx164_1 := (HB.out.cell (blc w _ hx164_1)).trans hx164_1
   replace hx164_2 := (HB.out.cell (blc w _ hx164_2)).trans hx164_2
   have HR164_2 := am hi164_2
   have HC164_2 := am hl164_2
   clear hi164_2 hl164_2
   replace p164 := eq_true p164
   replace q164 := eq_true q164
   have ea_ := Option.some.inj (hx163_2.symm.trans hx164_2)
   injection ea_ with ea_ en_ ec_
   subst ea_
   subst ec_
   clear en_
   have p165 : 0 ≤ (x8_1 : Int) := odt ‹_›
   have q165 : x8_1 < (((rd_T58 l0_0 a1).f2).length : Int) := odt ‹_›
   obtain ⟨ad165, e165, hx165_0⟩ := Kd.at_int HR164_2.out x8_1 p165 q165
   cases e165
   replace hx165_0 := (HB.out.cell (blc w _ hx165_0)).trans hx165_0
   replace p165 := eq_true p165
   replace q165 := eq_true q165
   go_wp2
   go_roundg k1
   case measure => have := HK1.out; omega
   case rel => exact ⟨(wrap64 (x7_1 + 1)), (wrap64 (x8_1 + 1)), (rfl), (rfl), H', ⟨by have := HK1.out; omega⟩, ⟨BK162.out⟩, ⟨HB.out⟩⟩
end Go.Proofs.YtfcjeoihfphphaaGreatDoor.PFlow
end

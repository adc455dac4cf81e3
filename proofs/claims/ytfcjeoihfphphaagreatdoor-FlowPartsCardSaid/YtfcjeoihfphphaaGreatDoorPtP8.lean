/- A part of the proof, written by programs of this seat and by hand: P8. -/
import Derived.Test.YtfcjeoihfphphaaGreatDoorPtP0
import Derived.Test.YtfcjeoihfphphaaGreatDoorPtP4
import Derived.Test.YtfcjeoihfphphaaGreatDoorPtP6
set_option linter.unusedVariables false
set_option linter.unusedSimpArgs false
section
namespace Go.Proofs.YtfcjeoihfphphaaGreatDoor.PFlow
open Go.RowKit Go.Proofs.YtfcjeoihfphphaaGreatDoorW.PrintWords Go.Proofs.YtfcjeoihfphphaaGreatDoorW.PrintLast Go.Proofs.YtfcjeoihfphphaaGreatDoorW.PrintMore
attribute [local go_sem] max2_int min2_int max_two min_two max_three min_three max_four min_four   -- for this text's walks alone
set_option linter.unusedVariables false
set_option linter.unusedSimpArgs false
def q_begins.l0 : Nat → Int → List Bool → Int → Bool → Int → List (S58) → Option (Bool)
 | 0, _, _, _, _, _, _ => none
 | k + 1, x1, x5, x6, x7, x8, x276000 => if x8 < (x276000.length : Int) then (if 0 ≤ x8 then (if x8 < (x5.length : Int) then (if rdOf false x5 x8 = true then ((q_to.f k x276000 x8 x1).bind fun t281 => (if x7 = true then (q_begins.l0 k x1 x5 (wrap64 (x6 + t281)) true (wrap64 (x8 + 1)) x276000) else ((q_to.f k x276000 x8 x1).bind fun t282 => (if t282 > 0 then (q_begins.l0 k x1 x5 (wrap64 (x6 + t281)) (decide ((((rd_T58 x276000 x8).f2).length : Int) > 1)) (wrap64 (x8 + 1)) x276000) else (q_begins.l0 k x1 x5 (wrap64 (x6 + t281)) false (wrap64 (x8 + 1)) x276000))))) else (q_begins.l0 k x1 x5 x6 x7 (wrap64 (x8 + 1)) x276000)) else (none)) else (none)) else (if x1 < 2 then (some true) else (if x6 = 1 then (some x7) else (some true)))
def q_begins.f (k : Nat) (l0_0 : List (S58)) (a1 : Int) : Option (Bool) := (q_Reachable.f k l0_0).bind fun t276 => (if 0 ≤ a1 then (if a1 < (t276.length : Int) then (if rdOf false t276 a1 = true then (q_begins.l0 k a1 t276 0 false 0 l0_0) else (some false)) else (none)) else (none))
set_option maxHeartbeats 8000000 in
set_option maxRecDepth 100000 in
theorem q_begins.calls (k : Nat) (A0_0 : Option Addr) (c0_0 : Nat) (l0_0 : List (S58)) (a1 : Int) (r : Bool) (w : World) (hr0_0 : Kd.C k58 w A0_0 l0_0.length l0_0) (hc0_0 : l0_0.length ≤ c0_0) (h : q_begins.f k l0_0 a1 = some r) :
 Calls Tryz.prog 44 #[.agg #[.slice A0_0 l0_0.length c0_0], .int .i64 a1] w fun e w' => e = .returned (.bool r) ∧ Below w.heap.size w w' := by
 have hu36 := Tryz.underlying36
 have HR0_0 := am hr0_0
 have HC0_0 := am hc0_0
 clear hr0_0 hc0_0
 have HB := am (Below.refl w.heap.size w)
 have H : ((q_Reachable.f k l0_0).bind fun t276 => (if 0 ≤ a1 then (if a1 < (t276.length : Int) then (if rdOf false t276 a1 = true then (q_begins.l0 k a1 t276 0 false 0 l0_0) else (some false)) else (none)) else (none))) = some r := h
 clear h
 replace H := Option.bind_eq_some_iff.mp H
 obtain ⟨t276, A30, H⟩ := H
 try dsimp only at H
 have A3 := am A30
 clear A30
 by_cases c4 : 0 ≤ a1
 rotate_left
 ·rw [if_neg c4] at H
  exact absurd H (by simp)
 rw [if_pos c4] at H
 have c4b0 : decide (0 ≤ a1) = true := decide_eq_true c4
 clear c4
 by_cases c5 : a1 < (t276.length : Int)
 rotate_left
 ·rw [if_neg c5] at H
  exact absurd H (by simp)
 rw [if_pos c5] at H
 have c5b0 : decide (a1 < (t276.length : Int)) = true := decide_eq_true c5
 clear c5
 obtain ⟨bq6, hbq6⟩ : ∃ b_ : Bool, b_ = (rdOf false t276 a1) := ⟨_, rfl⟩
 replace H : (if bq6 = true then (q_begins.l0 k a1 t276 0 false 0 l0_0) else (some false)) = some r := by rw [← hbq6] at H; exact H
 have Nbq6 := am hbq6
 clear hbq6
 by_cases c7 : bq6 = true
 rotate_left
 ·replace c7 := Bool.eq_false_iff.mpr c7
  subst c7
  rw [if_neg (show ¬ (false = true) by decide)] at H
  obtain rfl := Option.some.inj H
  go_enter Tryz.func44, Tryz.ntmps44
  go_wp2_with (first | ((with_reducible refine gate_dst (N := 2) rfl ?_); (try (refine gate_guard (by rfl) ?_; dsimp only)); refine box_event ?hg (N := 2) ?hd (cs := #[.slice A0_0 l0_0.length c0_0]) (t := 36) ?hr ?_; (case hd => rfl); (case hg => rfl); (case hr => first | (go_simp; done) | (go_simp; rfl)); intro gb275 hg w38 hbox hb; have n0_ := am (below_step (HB.out) hb); have n1_ := am (hbox); have n2_ := am ((by rw [hg]; exact (below_size (HB.out)) : w.heap.size ≤ gb275)); have n3_ := am ((by rw [hg]; exact (below_size (HB.out)) : w.heap.size ≤ gb275)); clear HB; have HB := n0_; have BK275 := n1_; have GW275 := n2_; have GE275 := n3_; clear n0_ n1_ n2_ n3_; clear hb hbox hg; have hcz39_0 : w38.cell? ⟨gb275, 0, none⟩ = some (.slice A0_0 l0_0.length c0_0) := (blk_cell BK275.out 0).trans rfl; have hfz39_0 := blk_frozen BK275.out 0) | ((with_reducible refine gate_callee (f := 21) rfl ?_); refine goesL_ (some 10) rfl rfl Tryz.func21 (by kernel_rfl) rfl #[.agg #[.slice A0_0 l0_0.length c0_0]] rfl (by (try simp only [List.map_toArray, List.map_cons, List.map_nil]); first | done | rfl | (simp only [List.length_drop, List.length_take]; rfl)) ?_; (with_reducible refine (q_Reachable.calls k _ _ l0_0 t276 _ ?side1 ?side2 A3.out).mono ?_); (case side1 => repeat (first | exact (Kd.C_below HR0_0.out HB.out) | (with_reducible refine Kd.C_alloc ?_ _) | (with_reducible refine Kd.C_drewN ?_ _) | (with_reducible refine Kd.C_drew ?_))); (case side2 => exact HC0_0.out); rintro e w40 ⟨v277, rfl, ho0, hb⟩; refine ⟨_, rfl, ?_⟩; have n0_ := am (Kd.R_lower ho0 (below_size (HB.out))); have n1_ := am (blk_below (g := gb275) (o := .cells #[.slice A0_0 l0_0.length c0_0] 36 (0, 0)) (BK275.out) hb); have n2_ := am (below_step (HB.out) hb); clear BK275; clear HB; have HO278 := n0_; have BK275 := n1_; have HB := n2_; clear n0_ n1_ n2_; (try clear hb); (try clear hb2); (try clear hk); (try clear hi); (try clear ho0); obtain ⟨Ao41, co41, eo41⟩ := Kd.R_slice HO278.out; subst eo41; have p279 : 0 ≤ (a1 : Int) := odt ‹_›; have q279 : a1 < (t276.length : Int) := odt ‹_›; obtain ⟨ad279, e279, hx279_0⟩ := Kd.at_bool (Kd.R_reads' HO278.out).2.2 a1 p279 q279; (try rw [← Nbq6.out] at hx279_0); cases e279; replace p279 := eq_true p279; replace q279 := eq_true q279))
  go_ret
  exact ⟨rfl, HB.out⟩
 subst c7
 rw [if_pos rfl] at H
 have H' := am H
 clear H
 go_enter Tryz.func44, Tryz.ntmps44
 go_wp2_with (first | ((with_reducible refine gate_dst (N := 2) rfl ?_); (try (refine gate_guard (by rfl) ?_; dsimp only)); refine box_event ?hg (N := 2) ?hd (cs := #[.slice A0_0 l0_0.length c0_0]) (t := 36) ?hr ?_; (case hd => rfl); (case hg => rfl); (case hr => first | (go_simp; done) | (go_simp; rfl)); intro gb275 hg w8 hbox hb; have n0_ := am (below_step (HB.out) hb); have n1_ := am (hbox); have n2_ := am ((by rw [hg]; exact (below_size (HB.out)) : w.heap.size ≤ gb275)); have n3_ := am ((by rw [hg]; exact (below_size (HB.out)) : w.heap.size ≤ gb275)); clear HB; have HB := n0_; have BK275 := n1_; have GW275 := n2_; have GE275 := n3_; clear n0_ n1_ n2_ n3_; clear hb hbox hg; have hcz9_0 : w8.cell? ⟨gb275, 0, none⟩ = some (.slice A0_0 l0_0.length c0_0) := (blk_cell BK275.out 0).trans rfl; have hfz9_0 := blk_frozen BK275.out 0) | ((with_reducible refine gate_callee (f := 21) rfl ?_); refine goesL_ (some 10) rfl rfl Tryz.func21 (by kernel_rfl) rfl #[.agg #[.slice A0_0 l0_0.length c0_0]] rfl (by (try simp only [List.map_toArray, List.map_cons, List.map_nil]); first | done | rfl | (simp only [List.length_drop, List.length_take]; rfl)) ?_; (with_reducible refine (q_Reachable.calls k _ _ l0_0 t276 _ ?side1 ?side2 A3.out).mono ?_); (case side1 => repeat (first | exact (Kd.C_below HR0_0.out HB.out) | (with_reducible refine Kd.C_alloc ?_ _) | (with_reducible refine Kd.C_drewN ?_ _) | (with_reducible refine Kd.C_drew ?_))); (case side2 => exact HC0_0.out); rintro e w10 ⟨v277, rfl, ho0, hb⟩; refine ⟨_, rfl, ?_⟩; have n0_ := am (Kd.R_lower ho0 (below_size (HB.out))); have n1_ := am (blk_below (g := gb275) (o := .cells #[.slice A0_0 l0_0.length c0_0] 36 (0, 0)) (BK275.out) hb); have n2_ := am (below_step (HB.out) hb); clear BK275; clear HB; have HO278 := n0_; have BK275 := n1_; have HB := n2_; clear n0_ n1_ n2_; (try clear hb); (try clear hb2); (try clear hk); (try clear hi); (try clear ho0); obtain ⟨Ao11, co11, eo11⟩ := Kd.R_slice HO278.out; subst eo11; have p279 : 0 ≤ (a1 : Int) := odt ‹_›; have q279 : a1 < (t276.length : Int) := odt ‹_›; obtain ⟨ad279, e279, hx279_0⟩ := Kd.at_bool (Kd.R_reads' HO278.out).2.2 a1 p279 q279; (try rw [← Nbq6.out] at hx279_0); cases e279; replace p279 := eq_true p279; replace q279 := eq_true q279))
 go_loopg [6, 7, 8] k (fun kq v6 v7 v8 w' => ∃ (x6_1 : Int) (x7_1 : Bool) (x8_1 : Int), v6 = .int .i64 x6_1 ∧ v7 = .bool x7_1 ∧ v8 = .int .i64 x8_1 ∧ Aside0 (q_begins.l0 kq a1 t276 x6_1 x7_1 x8_1 l0_0 = some r) ∧ Aside0 (kq ≤ k) ∧ Aside0 (Kd.R Kd.bool 4 w' w.heap.size (fun _ => True) (.slice (some ad279) t276.length co11) t276) ∧ Aside0 (w'.heap[gb275]? = some (.cells #[(.slice A0_0 l0_0.length c0_0)] 36 (0, 0))) ∧ Aside0 (Below w.heap.size w w'))
 case atStart => exact ⟨(0), (false), (0), (rfl), (rfl), (rfl), H', ⟨Nat.le_refl _⟩, ⟨HO278.out⟩, ⟨BK275.out⟩, ⟨HB.out⟩⟩
 case round =>
  clear H'
  clear c4b0 c5b0 hcz9_0 hfz9_0 hx279_0 p279 q279
  obtain ⟨x6_1, x7_1, x8_1, rfl, rfl, rfl, HA, HK1, HO_5, BK275, HB⟩ := hrel
  cases gk with
  | zero => exact absurd HA.out (by simp [q_begins.l0])
  | succ k1 =>
   have H := HA.out
   clear HA
   simp only [q_begins.l0] at H
   by_cases c12 : x8_1 < (l0_0.length : Int)
   rotate_left
   ·rw [if_neg c12] at H
    have c12b0 : decide (x8_1 < (l0_0.length : Int)) = false := decide_eq_false c12
    clear c12
    by_cases c33 : a1 < 2
    ·rw [if_pos c33] at H
     have c33b0 : decide (a1 < 2) = true := decide_eq_true c33
     clear c33
     obtain rfl := Option.some.inj H
     have hcz34_0 : wr.cell? ⟨gb275, 0, none⟩ = some (.slice A0_0 l0_0.length c0_0) := (blk_cell BK275.out 0).trans rfl
     have hfz34_0 := blk_frozen BK275.out 0
     go_wp2
     go_ret
     exact ⟨rfl, HB.out⟩
    rw [if_neg c33] at H
    have c33b0 : decide (a1 < 2) = false := decide_eq_false c33
    clear c33
    by_cases c35 : x6_1 = 1
    rotate_left
    ·rw [if_neg c35] at H
     have c35b0 : (x6_1 == 1) = false := beq_eq_false_iff_ne.mpr c35
     have c35b1 : (x6_1 != 1) = true := bne_iff_ne.mpr c35
     obtain rfl := Option.some.inj H
     have hcz37_0 : wr.cell? ⟨gb275, 0, none⟩ = some (.slice A0_0 l0_0.length c0_0) := (blk_cell BK275.out 0).trans rfl
     have hfz37_0 := blk_frozen BK275.out 0
     go_wp2
     go_ret
     exact ⟨rfl, HB.out⟩
    rw [if_pos c35] at H
    have c35b0 : (x6_1 == 1) = true := beq_iff_eq.mpr c35
    have c35b1 : (x6_1 != 1) = false := bne_eq_false_iff_eq.mpr c35
    clear c35
    obtain rfl := Option.some.inj H
    have hcz36_0 : wr.cell? ⟨gb275, 0, none⟩ = some (.slice A0_0 l0_0.length c0_0) := (blk_cell BK275.out 0).trans rfl
    have hfz36_0 := blk_frozen BK275.out 0
    go_wp2
    go_ret
    exact ⟨rfl, HB.out⟩
   rw [if_pos c12] at H
   have c12b0 : decide (x8_1 < (l0_0.length : Int)) = true := decide_eq_true c12
   clear c12
   by_cases c13 : 0 ≤ x8_1
   rotate_left
   ·rw [if_neg c13] at H
    exact absurd H (by simp)
   rw [if_pos c13] at H
   have c13b0 : decide (0 ≤ x8_1) = true := decide_eq_true c13
   clear c13
   by_cases c14 : x8_1 < (t276.length : Int)
   rotate_left
   ·rw [if_neg c14] at H
    exact absurd H (by simp)
   rw [if_pos c14] at H
   have c14b0 : decide (x8_1 < (t276.length : Int)) = true := decide_eq_true c14
   clear c14
   obtain ⟨bq15, hbq15⟩ : ∃ b_ : Bool, b_ = (rdOf false t276 x8_1) := ⟨_, rfl⟩
   replace H : (if bq15 = true then ((q_to.f k1 l0_0 x8_1 a1).bind fun t281 => (if x7_1 = true then (q_begins.l0 k1 a1 t276 (wrap64 (x6_1 + t281)) true (wrap64 (x8_1 + 1)) l0_0) else ((q_to.f k1 l0_0 x8_1 a1).bind fun t282 => (if t282 > 0 then (q_begins.l0 k1 a1 t276 (wrap64 (x6_1 + t281)) (decide ((((rd_T58 l0_0 x8_1).f2).length : Int) > 1)) (wrap64 (x8_1 + 1)) l0_0) else (q_begins.l0 k1 a1 t276 (wrap64 (x6_1 + t281)) false (wrap64 (x8_1 + 1)) l0_0))))) else (q_begins.l0 k1 a1 t276 x6_1 x7_1 (wrap64 (x8_1 + 1)) l0_0)) = some r := by rw [← hbq15] at H; exact H
   have Nbq15 := am hbq15
   clear hbq15
   by_cases c16 : bq15 = true
   rotate_left
   ·replace c16 := Bool.eq_false_iff.mpr c16
    subst c16
    rw [if_neg (show ¬ (false = true) by decide)] at H
    have H' := am H
    clear H
    have hcz32_0 : wr.cell? ⟨gb275, 0, none⟩ = some (.slice A0_0 l0_0.length c0_0) := (blk_cell BK275.out 0).trans rfl
    have hfz32_0 := blk_frozen BK275.out 0
    have p280 : 0 ≤ (x8_1 : Int) := odt ‹_›
    have q280 : x8_1 < (t276.length : Int) := odt ‹_›
    obtain ⟨ad280, e280, hx280_0⟩ := Kd.at_bool (Kd.R_reads' HO_5.out).2.2 x8_1 p280 q280
    (try rw [← Nbq6.out] at hx280_0)
    (try rw [← Nbq15.out] at hx280_0)
    obtain rfl : ad279 = ad280 := (by injection e280)
    replace p280 := eq_true p280
    replace q280 := eq_true q280
    go_wp2
    go_roundg k1
    case measure => have := HK1.out; omega
    case rel => exact ⟨(x6_1), (x7_1), (wrap64 (x8_1 + 1)), (rfl), (rfl), (rfl), H', ⟨by have := HK1.out; omega⟩, ⟨HO_5.out⟩, ⟨BK275.out⟩, ⟨HB.out⟩⟩
   subst c16
   rw [if_pos rfl] at H
   replace H := Option.bind_eq_some_iff.mp H
   obtain ⟨t281, A170, H⟩ := H
   try dsimp only at H
   have A17 := am A170
   clear A170
   by_cases c18 : x7_1 = true
   ·subst c18
    rw [if_pos rfl] at H
    have H' := am H
    clear H
    have hcz19_0 : wr.cell? ⟨gb275, 0, none⟩ = some (.slice A0_0 l0_0.length c0_0) := (blk_cell BK275.out 0).trans rfl
    have hfz19_0 := blk_frozen BK275.out 0
    have p280 : 0 ≤ (x8_1 : Int) := odt ‹_›
    have q280 : x8_1 < (t276.length : Int) := odt ‹_›
    obtain ⟨ad280, e280, hx280_0⟩ := Kd.at_bool (Kd.R_reads' HO_5.out).2.2 x8_1 p280 q280
    (try rw [← Nbq6.out] at hx280_0)
    (try rw [← Nbq15.out] at hx280_0)
    obtain rfl : ad279 = ad280 := (by injection e280)
    replace p280 := eq_true p280
    replace q280 := eq_true q280
    go_wp2_with (first | ((with_reducible refine gate_callee (f := 42) rfl ?_); refine goesL_ (some 31) rfl rfl Tryz.func42 (by kernel_rfl) rfl #[.agg #[.slice A0_0 l0_0.length c0_0], .int .i64 x8_1, .int .i64 a1] rfl (by (try simp only [List.map_toArray, List.map_cons, List.map_nil]); first | done | rfl | (simp only [List.length_drop, List.length_take]; rfl)) ?_; (with_reducible refine (q_to.calls k1 _ _ l0_0 x8_1 a1 t281 _ ?side1 ?side2 A17.out).mono ?_); (case side1 => repeat (first | exact (Kd.C_below HR0_0.out HB.out) | (with_reducible refine Kd.C_alloc ?_ _) | (with_reducible refine Kd.C_drewN ?_ _) | (with_reducible refine Kd.C_drew ?_))); (case side2 => exact HC0_0.out); rintro e w20 ⟨rfl, hb⟩; refine ⟨_, rfl, ?_⟩; have n0_ := am (Kd.R_below (HO_5.out) hb); have n1_ := am (blk_below (g := gb275) (o := .cells #[.slice A0_0 l0_0.length c0_0] 36 (0, 0)) (BK275.out) hb); have n2_ := am (below_step (HB.out) hb); clear HO_5; clear BK275; clear HB; have HO_5 := n0_; have BK275 := n1_; have HB := n2_; clear n0_ n1_ n2_; (try clear hb); (try clear hb2); (try clear hk); (try clear hi)))
    go_roundg k1
    case measure => have := HK1.out; omega
    case rel => exact ⟨(wrap64 (x6_1 + t281)), (true), (wrap64 (x8_1 + 1)), (rfl), (rfl), (rfl), H', ⟨by have := HK1.out; omega⟩, ⟨HO_5.out⟩, ⟨BK275.out⟩, ⟨HB.out⟩⟩
   replace c18 := Bool.eq_false_iff.mpr c18
   subst c18
   rw [if_neg (show ¬ (false = true) by decide)] at H
   replace H := Option.bind_eq_some_iff.mp H
   obtain ⟨t282, A210, H⟩ := H
   try dsimp only at H
   have A21 := am A210
   clear A210
   by_cases c22 : t282 > 0
   rotate_left
   ·rw [if_neg c22] at H
    have c22b0 : decide (0 < t282) = false := decide_eq_false c22
    clear c22
    have H' := am H
    clear H
    have hcz28_0 : wr.cell? ⟨gb275, 0, none⟩ = some (.slice A0_0 l0_0.length c0_0) := (blk_cell BK275.out 0).trans rfl
    have hfz28_0 := blk_frozen BK275.out 0
    have p280 : 0 ≤ (x8_1 : Int) := odt ‹_›
    have q280 : x8_1 < (t276.length : Int) := odt ‹_›
    obtain ⟨ad280, e280, hx280_0⟩ := Kd.at_bool (Kd.R_reads' HO_5.out).2.2 x8_1 p280 q280
    (try rw [← Nbq6.out] at hx280_0)
    (try rw [← Nbq15.out] at hx280_0)
    obtain rfl : ad279 = ad280 := (by injection e280)
    replace p280 := eq_true p280
    replace q280 := eq_true q280
    go_wp2_with (first | ((with_reducible refine gate_callee (f := 42) rfl ?_); refine goesL_ (some 31) rfl rfl Tryz.func42 (by kernel_rfl) rfl #[.agg #[.slice A0_0 l0_0.length c0_0], .int .i64 x8_1, .int .i64 a1] rfl (by (try simp only [List.map_toArray, List.map_cons, List.map_nil]); first | done | rfl | (simp only [List.length_drop, List.length_take]; rfl)) ?_; (with_reducible refine (q_to.calls k1 _ _ l0_0 x8_1 a1 t281 _ ?side1 ?side2 A17.out).mono ?_); (case side1 => repeat (first | exact (Kd.C_below HR0_0.out HB.out) | (with_reducible refine Kd.C_alloc ?_ _) | (with_reducible refine Kd.C_drewN ?_ _) | (with_reducible refine Kd.C_drew ?_))); (case side2 => exact HC0_0.out); rintro e w29 ⟨rfl, hb⟩; refine ⟨_, rfl, ?_⟩; have n0_ := am (Kd.R_below (HO_5.out) hb); have n1_ := am (blk_below (g := gb275) (o := .cells #[.slice A0_0 l0_0.length c0_0] 36 (0, 0)) (BK275.out) hb); have n2_ := am (below_step (HB.out) hb); clear HO_5; clear BK275; clear HB; have HO_5 := n0_; have BK275 := n1_; have HB := n2_; clear n0_ n1_ n2_; (try clear hb); (try clear hb2); (try clear hk); (try clear hi); have hcz30_0 : w29.cell? ⟨gb275, 0, none⟩ = some (.slice A0_0 l0_0.length c0_0) := (blk_cell BK275.out 0).trans rfl; have hfz30_0 := blk_frozen BK275.out 0) | (go_at_call 42; (with_reducible refine (q_to.calls k1 _ _ l0_0 x8_1 a1 t282 _ ?side1 ?side2 A21.out).mono ?_); (case side1 => repeat (first | exact (Kd.C_below HR0_0.out HB.out) | (with_reducible refine Kd.C_alloc ?_ _) | (with_reducible refine Kd.C_drewN ?_ _) | (with_reducible refine Kd.C_drew ?_))); (case side2 => exact HC0_0.out); rintro e w31 ⟨rfl, hb⟩; have n0_ := am (Kd.R_below (HO_5.out) hb); have n1_ := am (blk_below (g := gb275) (o := .cells #[.slice A0_0 l0_0.length c0_0] 36 (0, 0)) (BK275.out) hb); have n2_ := am (below_step (HB.out) hb); clear HO_5; clear BK275; clear HB; have HO_5 := n0_; have BK275 := n1_; have HB := n2_; clear n0_ n1_ n2_; (try clear hb); (try clear hb2); (try clear hk); (try clear hi)))
    go_roundg k1
    case measure => have := HK1.out; omega
    case rel => exact ⟨(wrap64 (x6_1 + t281)), (false), (wrap64 (x8_1 + 1)), (rfl), (rfl), (rfl), H', ⟨by have := HK1.out; omega⟩, ⟨HO_5.out⟩, ⟨BK275.out⟩, ⟨HB.out⟩⟩
   rw [if_pos c22] at H
   have c22b0 : decide (0 < t282) = true := decide_eq_true c22
   clear c22
   have H' := am H
   clear H
   have hcz23_0 : wr.cell? ⟨gb275, 0, none⟩ = some (.slice A0_0 l0_0.length c0_0) := (blk_cell BK275.out 0).trans rfl
   have hfz23_0 := blk_frozen BK275.out 0
   have p280 : 0 ≤ (x8_1 : Int) := odt ‹_›
   have q280 : x8_1 < (t276.length : Int) := odt ‹_›
   obtain ⟨ad280, e280, hx280_0⟩ := Kd.at_bool (Kd.R_reads' HO_5.out).2.2 x8_1 p280 q280
   (try rw [← Nbq6.out] at hx280_0)
   (try rw [← Nbq15.out] at hx280_0)
   obtain rfl : ad279 = ad280 := (by injection e280)
   replace p280 := eq_true p280
   replace q280 := eq_true q280
   go_wp2_with (first | ((with_reducible refine gate_callee (f := 42) rfl ?_); refine goesL_ (some 31) rfl rfl Tryz.func42 (by kernel_rfl) rfl #[.agg #[.slice A0_0 l0_0.length c0_0], .int .i64 x8_1, .int .i64 a1] rfl (by (try simp only [List.map_toArray, List.map_cons, List.map_nil]); first | done | rfl | (simp only [List.length_drop, List.length_take]; rfl)) ?_; (with_reducible refine (q_to.calls k1 _ _ l0_0 x8_1 a1 t281 _ ?side1 ?side2 A17.out).mono ?_); (case side1 => repeat (first | exact (Kd.C_below HR0_0.out HB.out) | (with_reducible refine Kd.C_alloc ?_ _) | (with_reducible refine Kd.C_drewN ?_ _) | (with_reducible refine Kd.C_drew ?_))); (case side2 => exact HC0_0.out); rintro e w24 ⟨rfl, hb⟩; refine ⟨_, rfl, ?_⟩; have n0_ := am (Kd.R_below (HO_5.out) hb); have n1_ := am (blk_below (g := gb275) (o := .cells #[.slice A0_0 l0_0.length c0_0] 36 (0, 0)) (BK275.out) hb); have n2_ := am (below_step (HB.out) hb); clear HO_5; clear BK275; clear HB; have HO_5 := n0_; have BK275 := n1_; have HB := n2_; clear n0_ n1_ n2_; (try clear hb); (try clear hb2); (try clear hk); (try clear hi); have hcz25_0 : w24.cell? ⟨gb275, 0, none⟩ = some (.slice A0_0 l0_0.length c0_0) := (blk_cell BK275.out 0).trans rfl; have hfz25_0 := blk_frozen BK275.out 0) | (go_at_call 42; (with_reducible refine (q_to.calls k1 _ _ l0_0 x8_1 a1 t282 _ ?side1 ?side2 A21.out).mono ?_); (case side1 => repeat (first | exact (Kd.C_below HR0_0.out HB.out) | (with_reducible refine Kd.C_alloc ?_ _) | (with_reducible refine Kd.C_drewN ?_ _) | (with_reducible refine Kd.C_drew ?_))); (case side2 => exact HC0_0.out); rintro e w26 ⟨rfl, hb⟩; have n0_ := am (Kd.R_below (HO_5.out) hb); have n1_ := am (blk_below (g := gb275) (o := .cells #[.slice A0_0 l0_0.length c0_0] 36 (0, 0)) (BK275.out) hb); have n2_ := am (below_step (HB.out) hb); clear HO_5; clear BK275; clear HB; have HO_5 := n0_; have BK275 := n1_; have HB := n2_; clear n0_ n1_ n2_; (try clear hb); (try clear hb2); (try clear hk); (try clear hi); have hcz27_0 : w26.cell? ⟨gb275, 0, none⟩ = some (.slice A0_0 l0_0.length c0_0) := (blk_cell BK275.out 0).trans rfl; have hfz27_0 := blk_frozen BK275.out 0; have p283 : 0 ≤ (x8_1 : Int) := odt ‹_›; have q283 : x8_1 < (l0_0.length : Int) := odt ‹_›; obtain ⟨ad283, A283_2, c283_2, e283, hx283_0, hx283_1, hx283_2, hl283_2, hi283_2⟩ := at_T58 HR0_0.out x8_1 p283 q283; cases e283; replace hx283_0 := (HB.out.cell (blc w _ hx283_0)).trans hx283_0; replace hx283_1 := (HB.out.cell (blc w _ hx283_1)).trans hx283_1; replace hx283_2 := (HB.out.cell (blc w _ hx283_2)).trans hx283_2; have HR283_2 := am hi283_2; have HC283_2 := am hl283_2; clear hi283_2 hl283_2; replace p283 := eq_true p283; replace q283 := eq_true q283))
   go_roundg k1
   case measure => have := HK1.out; omega
   case rel => exact ⟨(wrap64 (x6_1 + t281)), (decide ((((rd_T58 l0_0 x8_1).f2).length : Int) > 1)), (wrap64 (x8_1 + 1)), (rfl), (rfl), (rfl), H', ⟨by have := HK1.out; omega⟩, ⟨HO_5.out⟩, ⟨BK275.out⟩, ⟨HB.out⟩⟩
end Go.Proofs.YtfcjeoihfphphaaGreatDoor.PFlow
end

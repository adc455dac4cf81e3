/- A part of the proof, written by programs of this seat and by hand: P5. -/
import Derived.Test.YtfcjeoihfphphaaGreatDoorPtP0
import Derived.Test.YtfcjeoihfphphaaGreatDoorPtP1
import Derived.Test.YtfcjeoihfphphaaGreatDoorPtP2
import Derived.Test.YtfcjeoihfphphaaGreatDoorPtP4
set_option linter.unusedVariables false
set_option linter.unusedSimpArgs false
section
namespace Go.Proofs.YtfcjeoihfphphaaGreatDoor.PFlow
open Go.RowKit Go.Proofs.YtfcjeoihfphphaaGreatDoorW.PrintWords Go.Proofs.YtfcjeoihfphphaaGreatDoorW.PrintLast Go.Proofs.YtfcjeoihfphphaaGreatDoorW.PrintMore
attribute [local go_sem] max2_int min2_int max_two min_two max_three min_three max_four min_four   -- for this text's walks alone
set_option linter.unusedVariables false
set_option linter.unusedSimpArgs false
mutual
def q_Before.l0 : Nat → List (List Int) → Int → List (S58) → Option ((List (List Int)))
 | 0, _, _, _ => none
 | k + 1, x3, x4, x167000 => if x4 < (x167000.length : Int) then (q_Before.l1 k x3 x4 (([] : List Int)) 0 x167000) else (some x3)
def q_Before.l1 : Nat → List (List Int) → Int → List Int → Int → List (S58) → Option ((List (List Int)))
 | 0, _, _, _, _, _ => none
 | k + 1, x3, x4, x5, x6, x167000 => if x6 < (x167000.length : Int) then ((q_to.f k x167000 x6 x4).bind fun t174 => (if t174 > 0 then (if x5.length < 17592186044416 then (q_Before.l1 k x3 x4 (x5 ++ [x6]) (wrap64 (x6 + 1)) x167000) else (none)) else (q_Before.l1 k x3 x4 x5 (wrap64 (x6 + 1)) x167000))) else (if x3.length < 5864062014805 then (q_Before.l0 k (x3 ++ [x5]) (wrap64 (x4 + 1)) x167000) else (none))
end
def q_Before.f (k : Nat) (l0_0 : List (S58)) : Option ((List (List Int))) := (some (([] : List (List Int)) : List (List Int))).bind fun y167 => ((q_Valid.f k l0_0).bind fun t170 => (if t170 = true then (q_Before.l0 k y167 0 l0_0) else (some y167)))
set_option maxHeartbeats 8000000 in
set_option maxRecDepth 100000 in
theorem q_Before.calls (k : Nat) (A0_0 : Option Addr) (c0_0 : Nat) (l0_0 : List (S58)) (r : List (List Int)) (w : World) (hr0_0 : Kd.C k58 w A0_0 l0_0.length l0_0) (hc0_0 : l0_0.length ≤ c0_0) (h : q_Before.f k l0_0 = some r) :
 Calls Tryz.prog 18 #[.agg #[.slice A0_0 l0_0.length c0_0]] w fun e w' => ∃ v0_ : Value, e = .returned (v0_) ∧ Kd.S (Kd.slice 3 (Kd.int .i64)) 27 w' w.heap.size (fun _ => True) v0_ r ∧ Below w.heap.size w w' := by
 have hu36 := Tryz.underlying36
 have HR0_0 := am hr0_0
 have HC0_0 := am hc0_0
 clear hr0_0 hc0_0
 have HB := am (Below.refl w.heap.size w)
 have H : ((some (([] : List (List Int)) : List (List Int))).bind fun y167 => ((q_Valid.f k l0_0).bind fun t170 => (if t170 = true then (q_Before.l0 k y167 0 l0_0) else (some y167)))) = some r := h
 clear h
 obtain ⟨y167, hy167⟩ : ∃ y_ : List (List Int), y_ = (([] : List (List Int))) := ⟨_, rfl⟩
 replace H : ((q_Valid.f k l0_0).bind fun t170 => (if t170 = true then (q_Before.l0 k y167 0 l0_0) else (some y167))) = some r := by rw [hy167]; exact H
 have Ny167 := am hy167
 clear hy167
 replace H := Option.bind_eq_some_iff.mp H
 obtain ⟨t170, A20, H⟩ := H
 try dsimp only at H
 have A2 := am A20
 clear A20
 by_cases c3 : t170 = true
 rotate_left
 ·replace c3 := Bool.eq_false_iff.mpr c3
  subst c3
  rw [if_neg (show ¬ (false = true) by decide)] at H
  obtain rfl := Option.some.inj H
  go_enter Tryz.func18, Tryz.ntmps18
  go_wp2_with (first | ((with_reducible refine gate_dst (N := 1) rfl ?_); refine box_event ?hg (N := 1) ?hd (cs := #[.slice A0_0 l0_0.length c0_0]) (t := 36) ?hr ?_; (case hd => rfl); (case hg => rfl); (case hr => first | (go_simp; done) | (go_simp; rfl)); intro gb166 hg w27 hbox hb; have n0_ := am (below_step (HB.out) hb); have n1_ := am (hbox); have n2_ := am ((by rw [hg]; exact (below_size (HB.out)) : w.heap.size ≤ gb166)); have n3_ := am ((by rw [hg]; exact (below_size (HB.out)) : w.heap.size ≤ gb166)); clear HB; have HB := n0_; have BK166 := n1_; have GW166 := n2_; have GE166 := n3_; clear n0_ n1_ n2_ n3_; clear hb hbox hg) | ((with_reducible refine gate_dst (N := 7) rfl ?_); refine Kd.S_lit (Kd.slice 3 (Kd.int .i64)) _ 27 ?hg (N := 7) ?hd (xs := ([] : List (List Int))) (inner := []) (ok := fun _ => True) (okp := fun _ => True) ?hr ?hp (fun _ hk => hk) trivial (Below.refl _ _) (Nat.le_refl _) (by simp) ?_; (case hd => rfl); (case hg => rfl); (case hr => first | (go_simp; done) | (go_simp; rfl)); (case hp => exact (Reps.none _ _)); intro v168 w28 ho29 hb hg_ hnew_; clear hg_ hnew_; (first | rw [← Ny167.out] at ho29 | (simp only [Int.reduceToNat] at ho29; rw [← Ny167.out] at ho29)); have n0_ := am (Kd.S_lower ho29 (below_size (HB.out))); have n1_ := am (blk_below (g := gb166) (o := .cells #[.slice A0_0 l0_0.length c0_0] 36 (0, 0)) (BK166.out) hb); have n2_ := am (below_step (HB.out) hb); clear BK166; clear HB; have HO169 := n0_; have BK166 := n1_; have HB := n2_; clear n0_ n1_ n2_; clear hb ho29; have hcz30_0 : w28.cell? ⟨gb166, 0, none⟩ = some (.slice A0_0 l0_0.length c0_0) := (blk_cell BK166.out 0).trans rfl; have hfz30_0 := blk_frozen BK166.out 0) | ((with_reducible refine gate_callee (f := 24) rfl ?_); refine goesL_ (some 9) rfl rfl Tryz.func24 (by kernel_rfl) rfl #[.agg #[.slice A0_0 l0_0.length c0_0]] rfl (by (try simp only [List.map_toArray, List.map_cons, List.map_nil]); first | done | rfl | (simp only [List.length_drop, List.length_take]; rfl)) ?_; (with_reducible refine (q_Valid.calls k _ _ l0_0 false _ ?side1 ?side2 A2.out).mono ?_); (case side1 => repeat (first | exact (Kd.C_below HR0_0.out HB.out) | (with_reducible refine Kd.C_alloc ?_ _) | (with_reducible refine Kd.C_drewN ?_ _) | (with_reducible refine Kd.C_drew ?_))); (case side2 => exact HC0_0.out); rintro e w31 ⟨rfl, hb⟩; refine ⟨_, rfl, ?_⟩; have n0_ := am (Kd.S_below (HO169.out) hb); have n1_ := am (blk_below (g := gb166) (o := .cells #[.slice A0_0 l0_0.length c0_0] 36 (0, 0)) (BK166.out) hb); have n2_ := am (below_step (HB.out) hb); clear HO169; clear BK166; clear HB; have HO169 := n0_; have BK166 := n1_; have HB := n2_; clear n0_ n1_ n2_; (try clear hb); (try clear hb2); (try clear hk); (try clear hi)))
  go_ret
  exact ⟨_, rfl, by (with_reducible repeat (first | apply Kd.S_alloc | apply Kd.S_drewN | apply Kd.S_drew)); exact HO169.out, HB.out⟩
 subst c3
 rw [if_pos rfl] at H
 have H' := am H
 clear H
 go_enter Tryz.func18, Tryz.ntmps18
 go_wp2_with (first | ((with_reducible refine gate_dst (N := 1) rfl ?_); refine box_event ?hg (N := 1) ?hd (cs := #[.slice A0_0 l0_0.length c0_0]) (t := 36) ?hr ?_; (case hd => rfl); (case hg => rfl); (case hr => first | (go_simp; done) | (go_simp; rfl)); intro gb166 hg w4 hbox hb; have n0_ := am (below_step (HB.out) hb); have n1_ := am (hbox); have n2_ := am ((by rw [hg]; exact (below_size (HB.out)) : w.heap.size ≤ gb166)); have n3_ := am ((by rw [hg]; exact (below_size (HB.out)) : w.heap.size ≤ gb166)); clear HB; have HB := n0_; have BK166 := n1_; have GW166 := n2_; have GE166 := n3_; clear n0_ n1_ n2_ n3_; clear hb hbox hg) | ((with_reducible refine gate_dst (N := 7) rfl ?_); refine Kd.S_lit (Kd.slice 3 (Kd.int .i64)) _ 27 ?hg (N := 7) ?hd (xs := ([] : List (List Int))) (inner := []) (ok := fun _ => True) (okp := fun _ => True) ?hr ?hp (fun _ hk => hk) trivial (Below.refl _ _) (Nat.le_refl _) (by simp) ?_; (case hd => rfl); (case hg => rfl); (case hr => first | (go_simp; done) | (go_simp; rfl)); (case hp => exact (Reps.none _ _)); intro v168 w5 ho6 hb hg_ hnew_; clear hg_ hnew_; (first | rw [← Ny167.out] at ho6 | (simp only [Int.reduceToNat] at ho6; rw [← Ny167.out] at ho6)); have n0_ := am (Kd.S_lower ho6 (below_size (HB.out))); have n1_ := am (blk_below (g := gb166) (o := .cells #[.slice A0_0 l0_0.length c0_0] 36 (0, 0)) (BK166.out) hb); have n2_ := am (below_step (HB.out) hb); clear BK166; clear HB; have HO169 := n0_; have BK166 := n1_; have HB := n2_; clear n0_ n1_ n2_; clear hb ho6; have hcz7_0 : w5.cell? ⟨gb166, 0, none⟩ = some (.slice A0_0 l0_0.length c0_0) := (blk_cell BK166.out 0).trans rfl; have hfz7_0 := blk_frozen BK166.out 0) | ((with_reducible refine gate_callee (f := 24) rfl ?_); refine goesL_ (some 9) rfl rfl Tryz.func24 (by kernel_rfl) rfl #[.agg #[.slice A0_0 l0_0.length c0_0]] rfl (by (try simp only [List.map_toArray, List.map_cons, List.map_nil]); first | done | rfl | (simp only [List.length_drop, List.length_take]; rfl)) ?_; (with_reducible refine (q_Valid.calls k _ _ l0_0 true _ ?side1 ?side2 A2.out).mono ?_); (case side1 => repeat (first | exact (Kd.C_below HR0_0.out HB.out) | (with_reducible refine Kd.C_alloc ?_ _) | (with_reducible refine Kd.C_drewN ?_ _) | (with_reducible refine Kd.C_drew ?_))); (case side2 => exact HC0_0.out); rintro e w8 ⟨rfl, hb⟩; refine ⟨_, rfl, ?_⟩; have n0_ := am (Kd.S_below (HO169.out) hb); have n1_ := am (blk_below (g := gb166) (o := .cells #[.slice A0_0 l0_0.length c0_0] 36 (0, 0)) (BK166.out) hb); have n2_ := am (below_step (HB.out) hb); clear HO169; clear BK166; clear HB; have HO169 := n0_; have BK166 := n1_; have HB := n2_; clear n0_ n1_ n2_; (try clear hb); (try clear hb2); (try clear hk); (try clear hi)))
 go_loopg [3, 4] k (fun kq v3 v4 w' => ∃ (x3_1 : List (List Int)) (x4_1 : Int), v4 = .int .i64 x4_1 ∧ Aside0 (q_Before.l0 kq x3_1 x4_1 l0_0 = some r) ∧ Aside0 (kq ≤ k) ∧ Aside0 (Kd.S (Kd.slice 3 (Kd.int .i64)) 27 w' w.heap.size (fun _ => True) v3 x3_1) ∧ Aside0 (w'.heap[gb166]? = some (.cells #[(.slice A0_0 l0_0.length c0_0)] 36 (0, 0))) ∧ Aside0 (Below w.heap.size w w'))
 case atStart => exact ⟨(y167), (0), (rfl), H', ⟨Nat.le_refl _⟩, ⟨HO169.out⟩, ⟨BK166.out⟩, ⟨HB.out⟩⟩
 case round =>
  clear H'
  clear hcz7_0 hfz7_0
  obtain ⟨x3_1, x4_1, rfl, HA, HK1, HO_3, BK166, HB⟩ := hrel
  cases gk with
  | zero => exact absurd HA.out (by simp [q_Before.l0])
  | succ k1 =>
   have H := HA.out
   clear HA
   simp only [q_Before.l0] at H
   by_cases c9 : x4_1 < (l0_0.length : Int)
   rotate_left
   ·rw [if_neg c9] at H
    have c9b0 : decide (x4_1 < (l0_0.length : Int)) = false := decide_eq_false c9
    clear c9
    obtain rfl := Option.some.inj H
    have hcz26_0 : wr.cell? ⟨gb166, 0, none⟩ = some (.slice A0_0 l0_0.length c0_0) := (blk_cell BK166.out 0).trans rfl
    have hfz26_0 := blk_frozen BK166.out 0
    go_wp2
    go_ret
    exact ⟨_, rfl, by (with_reducible repeat (first | apply Kd.S_alloc | apply Kd.S_drewN | apply Kd.S_drew)); exact HO_3.out, HB.out⟩
   rw [if_pos c9] at H
   have c9b0 : decide (x4_1 < (l0_0.length : Int)) = true := decide_eq_true c9
   clear c9
   obtain ⟨y171, hy171⟩ : ∃ y_ : List Int, y_ = (([] : List Int)) := ⟨_, rfl⟩
   replace H : (q_Before.l1 k1 x3_1 x4_1 y171 0 l0_0) = some r := by rw [hy171]; exact H
   have Ny171 := am hy171
   clear hy171
   have H' := am H
   clear H
   have hcz10_0 : wr.cell? ⟨gb166, 0, none⟩ = some (.slice A0_0 l0_0.length c0_0) := (blk_cell BK166.out 0).trans rfl
   have hfz10_0 := blk_frozen BK166.out 0
   go_wp2_with (first | ((with_reducible refine gate_dst (N := 19) rfl ?_); refine Kd.R_lit (Kd.int .i64) _ 3 ?hg (N := 19) ?hd (xs := ([] : List Int)) (inner := []) (ok := fun _ => True) (okp := fun _ => True) ?hr ?hp (fun _ hk => hk) trivial (Below.refl _ _) (Nat.le_refl _) (by simp) ?_; (case hd => rfl); (case hg => rfl); (case hr => first | (go_simp; done) | (go_simp; rfl)); (case hp => exact (Reps.none _ _)); intro v172 w11 ho12 hb hg_ hnew_; clear hg_ hnew_; (first | rw [← Ny171.out] at ho12 | (simp only [Int.reduceToNat] at ho12; rw [← Ny171.out] at ho12)); have n0_ := am (Kd.S_elder' (HO_3.out) (Kd.R_base ho12) hb); have n1_ := am (Kd.R_lower ho12 (below_size (HB.out))); have n2_ := am (blk_below (g := gb166) (o := .cells #[.slice A0_0 l0_0.length c0_0] 36 (0, 0)) (BK166.out) hb); have n3_ := am (below_step (HB.out) hb); clear HO_3; clear BK166; clear HB; have HO_3 := n0_; have HO173 := n1_; have BK166 := n2_; have HB := n3_; clear n0_ n1_ n2_ n3_; clear hb ho12))
   go_loopg [5, 6] k1 (fun kq v5 v6 w' => ∃ (x5_2 : List Int) (x6_2 : Int), v6 = .int .i64 x6_2 ∧ Aside0 (q_Before.l1 kq x3_1 x4_1 x5_2 x6_2 l0_0 = some r) ∧ Aside0 (kq ≤ k1) ∧ Aside0 (Kd.S (Kd.slice 3 (Kd.int .i64)) 27 w' w.heap.size (fun k_ => some k_ ≠ (v5 : Value).ownBlock) u3 x3_1) ∧ Aside0 (Kd.R (Kd.int .i64) 3 w' w.heap.size (fun _ => True) v5 x5_2) ∧ Aside0 (w'.heap[gb166]? = some (.cells #[(.slice A0_0 l0_0.length c0_0)] 36 (0, 0))) ∧ Aside0 (Below w.heap.size w w'))
   case atStart => exact ⟨(y171), (0), (rfl), H', ⟨Nat.le_refl _⟩, ⟨Kd.S_mono HO_3.out (fun _ hk => hk.2)⟩, ⟨HO173.out⟩, ⟨BK166.out⟩, ⟨HB.out⟩⟩
   case round =>
    clear H'
    clear c9b0 hcz10_0 hfz10_0
    obtain ⟨x5_2, x6_2, rfl, HA, HK2, HO_3, HO_5, BK166, HB⟩ := hrel
    cases gk with
    | zero => exact absurd HA.out (by simp [q_Before.l1])
    | succ k2 =>
     have H := HA.out
     clear HA
     simp only [q_Before.l1] at H
     by_cases c13 : x6_2 < (l0_0.length : Int)
     rotate_left
     ·rw [if_neg c13] at H
      have c13b0 : decide (x6_2 < (l0_0.length : Int)) = false := decide_eq_false c13
      clear c13
      by_cases c22 : x3_1.length < 5864062014805
      rotate_left
      ·rw [if_neg c22] at H
       exact absurd H (by simp)
      rw [if_pos c22] at H
      have LMc22 := am c22
      clear c22
      obtain ⟨y178, hy178⟩ : ∃ y_ : List (List Int), y_ = (x3_1 ++ [x5_2]) := ⟨_, rfl⟩
      replace H : (q_Before.l0 k2 y178 (wrap64 (x4_1 + 1)) l0_0) = some r := by rw [hy178]; exact H
      have Ny178 := am hy178
      clear hy178
      have H' := am H
      clear H
      have hcz23_0 : wr.cell? ⟨gb166, 0, none⟩ = some (.slice A0_0 l0_0.length c0_0) := (blk_cell BK166.out 0).trans rfl
      have hfz23_0 := blk_frozen BK166.out 0
      obtain ⟨Ao25, co25, eo25⟩ := Kd.R_slice HO_5.out
      subst eo25
      go_wp2_with (first | ((with_reducible refine gate_builtin (b := .append) (xs := #[.tmp 36, .tmp 38]) rfl ?_); at_builtin; refine Kd.S_append (Kd.slice 3 (Kd.int .i64)) (w0 := w) w.heap.size rfl (.tmp 36) (.tmp 38) 46 27 (.slice none 0 0) 24 rfl Tryz.underlying46 info27 rfl (by decide) (by omega) u3 x3_1 x5_2 [.slice Ao25 x5_2.length co25] (fun _ => True) (fun k_ => some k_ = (.slice Ao25 x5_2.length co25 : Value).ownBlock) rfl rfl ?aP (fun k_ hk_ => ((Kd.R_mono (ok' := fun k_ => ((fun _ => True)) k_ ∧ some k_ ≠ (u3 : Value).ownBlock) (Kd.R_apart' (HO_5.out) (Kd.S_typed HO_3.out) (by decide)) (fun k_ hk => ⟨trivial, hk.2⟩))).1 k_ hk_.symm) ?aF ?aO ?aB ?aS ?aL ?_; (case aP => exact Kd.M_row (Kd.R_mono (Kd.R_tight rfl (Kd.R_mono (ok' := fun k_ => ((fun _ => True)) k_ ∧ some k_ ≠ (u3 : Value).ownBlock) (Kd.R_apart' (HO_5.out) (Kd.S_typed HO_3.out) (by decide)) (fun k_ hk => ⟨trivial, hk.2⟩))) (fun _ h_ => h_))); (case aB => exact (HB.out)); (case aF => exact (fun _ _ => trivial)); (case aO => exact (by (with_reducible repeat (first | apply Kd.S_alloc | apply Kd.S_drewN | apply Kd.S_drew)); exact Kd.S_mono HO_3.out (fun k_ hk => ⟨trivial, fun e_ => hk e_⟩))); (case aS => exact (below_size (HB.out))); (case aL => have := LMc22.out; omega); intro v179 w24 ho hb hg hat; rw [← Ny178.out] at ho; have n0_ := am (blk_grown (g := gb166) (o := .cells #[.slice A0_0 l0_0.length c0_0] 36 (0, 0)) (BK166.out) hg (Kd.S_ne HO_3.out BK166.out (by decide))); have n1_ := am (hb); have n2_ := am (ho); clear BK166; clear HB; clear HO_3; clear HO_5; have BK166 := n0_; have HB := n1_; have HO180 := n2_; clear n0_ n1_ n2_; clear ho hb hg hat))
      go_roundg k2
      case measure => have := HK1.out; have := HK2.out; omega
      case rel => exact ⟨(y178), (wrap64 (x4_1 + 1)), (rfl), H', ⟨by have := HK1.out; have := HK2.out; omega⟩, ⟨HO180.out⟩, ⟨BK166.out⟩, ⟨HB.out⟩⟩
     rw [if_pos c13] at H
     have c13b0 : decide (x6_2 < (l0_0.length : Int)) = true := decide_eq_true c13
     clear c13
     replace H := Option.bind_eq_some_iff.mp H
     obtain ⟨t174, A140, H⟩ := H
     try dsimp only at H
     have A14 := am A140
     clear A140
     by_cases c15 : t174 > 0
     rotate_left
     ·rw [if_neg c15] at H
      have c15b0 : decide (0 < t174) = false := decide_eq_false c15
      clear c15
      have H' := am H
      clear H
      have hcz20_0 : wr.cell? ⟨gb166, 0, none⟩ = some (.slice A0_0 l0_0.length c0_0) := (blk_cell BK166.out 0).trans rfl
      have hfz20_0 := blk_frozen BK166.out 0
      go_wp2_with (first | ((with_reducible refine gate_callee (f := 42) rfl ?_); refine goesL_ (some 30) rfl rfl Tryz.func42 (by kernel_rfl) rfl #[.agg #[.slice A0_0 l0_0.length c0_0], .int .i64 x6_2, .int .i64 x4_1] rfl (by (try simp only [List.map_toArray, List.map_cons, List.map_nil]); first | done | rfl | (simp only [List.length_drop, List.length_take]; rfl)) ?_; (with_reducible refine (q_to.calls k2 _ _ l0_0 x6_2 x4_1 t174 _ ?side1 ?side2 A14.out).mono ?_); (case side1 => repeat (first | exact (Kd.C_below HR0_0.out HB.out) | (with_reducible refine Kd.C_alloc ?_ _) | (with_reducible refine Kd.C_drewN ?_ _) | (with_reducible refine Kd.C_drew ?_))); (case side2 => exact HC0_0.out); rintro e w21 ⟨rfl, hb⟩; refine ⟨_, rfl, ?_⟩; have n0_ := am (Kd.S_below (HO_3.out) hb); have n1_ := am (Kd.R_below (HO_5.out) hb); have n2_ := am (blk_below (g := gb166) (o := .cells #[.slice A0_0 l0_0.length c0_0] 36 (0, 0)) (BK166.out) hb); have n3_ := am (below_step (HB.out) hb); clear HO_3; clear HO_5; clear BK166; clear HB; have HO_3 := n0_; have HO_5 := n1_; have BK166 := n2_; have HB := n3_; clear n0_ n1_ n2_ n3_; (try clear hb); (try clear hb2); (try clear hk); (try clear hi)))
      go_roundg k2
      case measure => have := HK1.out; have := HK2.out; omega
      case rel => exact ⟨(x5_2), (wrap64 (x6_2 + 1)), (rfl), H', ⟨by have := HK1.out; have := HK2.out; omega⟩, ⟨HO_3.out⟩, ⟨HO_5.out⟩, ⟨BK166.out⟩, ⟨HB.out⟩⟩
     rw [if_pos c15] at H
     have c15b0 : decide (0 < t174) = true := decide_eq_true c15
     clear c15
     by_cases c16 : x5_2.length < 17592186044416
     rotate_left
     ·rw [if_neg c16] at H
      exact absurd H (by simp)
     rw [if_pos c16] at H
     have LMc16 := am c16
     clear c16
     obtain ⟨y175, hy175⟩ : ∃ y_ : List Int, y_ = (x5_2 ++ [x6_2]) := ⟨_, rfl⟩
     replace H : (q_Before.l1 k2 x3_1 x4_1 y175 (wrap64 (x6_2 + 1)) l0_0) = some r := by rw [hy175]; exact H
     have Ny175 := am hy175
     clear hy175
     have H' := am H
     clear H
     have hcz17_0 : wr.cell? ⟨gb166, 0, none⟩ = some (.slice A0_0 l0_0.length c0_0) := (blk_cell BK166.out 0).trans rfl
     have hfz17_0 := blk_frozen BK166.out 0
     go_wp2_with (first | ((with_reducible refine gate_callee (f := 42) rfl ?_); refine goesL_ (some 30) rfl rfl Tryz.func42 (by kernel_rfl) rfl #[.agg #[.slice A0_0 l0_0.length c0_0], .int .i64 x6_2, .int .i64 x4_1] rfl (by (try simp only [List.map_toArray, List.map_cons, List.map_nil]); first | done | rfl | (simp only [List.length_drop, List.length_take]; rfl)) ?_; (with_reducible refine (q_to.calls k2 _ _ l0_0 x6_2 x4_1 t174 _ ?side1 ?side2 A14.out).mono ?_); (case side1 => repeat (first | exact (Kd.C_below HR0_0.out HB.out) | (with_reducible refine Kd.C_alloc ?_ _) | (with_reducible refine Kd.C_drewN ?_ _) | (with_reducible refine Kd.C_drew ?_))); (case side2 => exact HC0_0.out); rintro e w18 ⟨rfl, hb⟩; refine ⟨_, rfl, ?_⟩; have n0_ := am (Kd.S_below (HO_3.out) hb); have n1_ := am (Kd.R_below (HO_5.out) hb); have n2_ := am (blk_below (g := gb166) (o := .cells #[.slice A0_0 l0_0.length c0_0] 36 (0, 0)) (BK166.out) hb); have n3_ := am (below_step (HB.out) hb); clear HO_3; clear HO_5; clear BK166; clear HB; have HO_3 := n0_; have HO_5 := n1_; have BK166 := n2_; have HB := n3_; clear n0_ n1_ n2_ n3_; (try clear hb); (try clear hb2); (try clear hk); (try clear hi)) | ((with_reducible refine gate_builtin (b := .append) (xs := #[.tmp 32, .tmp 34]) rfl ?_); at_builtin; refine Kd.R_append (Kd.int .i64) (w0 := w) w.heap.size rfl (.tmp 32) (.tmp 34) 27 3 (.int .i64 0) 8 rfl Tryz.underlying27 info3 rfl (by decide) (by omega) u5 x5_2 x6_2 [.int .i64 x6_2] (fun _ => True) (fun _ => False) rfl rfl ?aP (fun _ hk => hk.elim) ?aF ?aO ?aB ?aS ?aL ?_; (case aP => exact rfl); (case aB => exact (HB.out)); (case aF => exact (fun _ _ => trivial)); (case aO => exact (HO_5.out)); (case aS => exact (below_size (HB.out))); (case aL => have := LMc16.out; omega); intro v176 w19 ho hb hg hat; rw [← Ny175.out] at ho; have n0_ := am (Kd.S_after (ok := (fun _ => True)) (Kd.S_mono HO_3.out (fun _ hk => ⟨trivial, hk⟩)) hg hat); have n1_ := am (blk_grown (g := gb166) (o := .cells #[.slice A0_0 l0_0.length c0_0] 36 (0, 0)) (BK166.out) hg (Kd.R_ne HO_5.out BK166.out (by decide))); have n2_ := am (hb); have n3_ := am (ho); clear HO_3; clear BK166; clear HB; clear HO_5; have HO_3 := n0_; have BK166 := n1_; have HB := n2_; have HO177 := n3_; clear n0_ n1_ n2_ n3_; clear ho hb hg hat))
     go_roundg k2
     case measure => have := HK1.out; have := HK2.out; omega
     case rel => exact ⟨(y175), (wrap64 (x6_2 + 1)), (rfl), H', ⟨by have := HK1.out; have := HK2.out; omega⟩, ⟨Kd.S_mono HO_3.out (fun _ hk => hk.2)⟩, ⟨HO177.out⟩, ⟨BK166.out⟩, ⟨HB.out⟩⟩
def sEq.l0 : Nat → List Bool → List Bool → Int → Int → Option (Bool)
 | 0, _, _, _, _ => none
 | k + 1, x0, x1, x12, x13 => if x13 < x12 then (if 0 ≤ x13 then (if x13 < (x0.length : Int) then (if x13 < (x1.length : Int) then (if ((rdOf false x0 x13) != (rdOf false x1 x13)) = true then (some false) else (sEq.l0 k x0 x1 x12 (wrap64 (x13 + 1)))) else (none)) else (none)) else (none)) else (some true)
def sEq.f (k : Nat) (l0 : List Bool) (l1 : List Bool) : Option (Bool) := if (l0.length : Int) = (l1.length : Int) then (sEq.l0 k l0 l1 (l0.length : Int) 0) else (some false)
set_option maxHeartbeats 8000000 in
set_option maxRecDepth 100000 in
theorem sEq.calls (k : Nat) (A0 : Option Addr) (c0 : Nat) (l0 : List Bool) (A1 : Option Addr) (c1 : Nat) (l1 : List Bool) (r : Bool) (w : World) (hr0 : Kd.C Kd.bool w A0 l0.length l0) (hc0 : l0.length ≤ c0) (hr1 : Kd.C Kd.bool w A1 l1.length l1) (hc1 : l1.length ≤ c1) (h : sEq.f k l0 l1 = some r) :
 Calls Tryz.prog 19 #[.slice A0 l0.length c0, .slice A1 l1.length c1] w fun e w' => e = .returned (.bool r) ∧ Drawn0 w w' := by
 have HR0 := am hr0
 have HC0 := am hc0
 clear hr0 hc0
 have HR1 := am hr1
 have HC1 := am hc1
 clear hr1 hc1
 have H : (if (l0.length : Int) = (l1.length : Int) then (sEq.l0 k l0 l1 (l0.length : Int) 0) else (some false)) = some r := h
 clear h
 by_cases c3 : (l0.length : Int) = (l1.length : Int)
 rotate_left
 ·rw [if_neg c3] at H
  have c3b0 : ((l0.length : Int) == (l1.length : Int)) = false := beq_eq_false_iff_ne.mpr c3
  have c3b1 : ((l0.length : Int) != (l1.length : Int)) = true := bne_iff_ne.mpr c3
  have c3b2 : (l0.length == l1.length) = false := by first | simpa using c3 | (simp at c3 ⊢; omega)
  obtain rfl := Option.some.inj H
  go_enter Tryz.func19, Tryz.ntmps19
  go_wp2
  repeat (go_quiet (fail); try go_wp2)
  go_ret
  exact ⟨rfl, by repeat (first | exact Drawn0.refl _ | apply Drawn0.step)⟩
 rw [if_pos c3] at H
 have c3b0 : ((l0.length : Int) == (l1.length : Int)) = true := beq_iff_eq.mpr c3
 have c3b1 : ((l0.length : Int) != (l1.length : Int)) = false := bne_eq_false_iff_eq.mpr c3
 have c3b2 : (l0.length == l1.length) = true := by first | simpa using c3 | (simp at c3 ⊢; omega)
 clear c3
 have H' := am H
 clear H
 go_enter Tryz.func19, Tryz.ntmps19
 go_wp2
 repeat (go_quiet (fail); try go_wp2)
 go_loopg [13] k (fun kq v13 w' => ∃ (x13_1 : Int), v13 = .int .i64 x13_1 ∧ Aside0 (sEq.l0 kq l0 l1 (l0.length : Int) x13_1 = some r) ∧ Aside0 (kq ≤ k) ∧ Drawn0 w w')
 case atStart => exact ⟨(0), (rfl), H', ⟨Nat.le_refl _⟩, by repeat (first | exact Drawn0.refl _ | apply Drawn0.step)⟩
 case round =>
  clear H'
  clear c3b0 c3b1 c3b2
  obtain ⟨x13_1, rfl, HA, HK1, ⟨m1, rfl⟩⟩ := hrel
  cases gk with
  | zero => exact absurd HA.out (by simp [sEq.l0])
  | succ k1 =>
   have H := HA.out
   clear HA
   simp only [sEq.l0] at H
   by_cases c4 : x13_1 < (l0.length : Int)
   rotate_left
   ·rw [if_neg c4] at H
    have c4b0 : decide (x13_1 < (l0.length : Int)) = false := decide_eq_false c4
    clear c4
    obtain rfl := Option.some.inj H
    go_wp2
    repeat (go_quiet (fail); try go_wp2)
    go_ret
    exact ⟨rfl, by repeat (first | exact Drawn0.refl _ | apply Drawn0.step)⟩
   rw [if_pos c4] at H
   have c4b0 : decide (x13_1 < (l0.length : Int)) = true := decide_eq_true c4
   clear c4
   by_cases c5 : 0 ≤ x13_1
   rotate_left
   ·rw [if_neg c5] at H
    exact absurd H (by simp)
   rw [if_pos c5] at H
   have c5b0 : decide (0 ≤ x13_1) = true := decide_eq_true c5
   clear c5
   by_cases c6 : x13_1 < (l0.length : Int)
   rotate_left
   ·rw [if_neg c6] at H
    exact absurd H (by simp)
   rw [if_pos c6] at H
   have c6b0 : decide (x13_1 < (l0.length : Int)) = true := decide_eq_true c6
   clear c6
   by_cases c7 : x13_1 < (l1.length : Int)
   rotate_left
   ·rw [if_neg c7] at H
    exact absurd H (by simp)
   rw [if_pos c7] at H
   have c7b0 : decide (x13_1 < (l1.length : Int)) = true := decide_eq_true c7
   clear c7
   by_cases c8 : ((rdOf false l0 x13_1) != (rdOf false l1 x13_1)) = true
   ·rw [if_pos c8] at H
    have c8b0 : ((rdOf false l0 x13_1) != (rdOf false l1 x13_1)) = true := c8
    (try (have c8b1 : decide ((rdOf false l0 x13_1) = (rdOf false l1 x13_1)) = false := by simpa using c8))
    (try (have c8b2 : ((rdOf false l0 x13_1) == (rdOf false l1 x13_1)) = false := by simpa using c8))
    (try (have c8b3 : ¬ ((rdOf false l0 x13_1) = (rdOf false l1 x13_1)) := by simpa using c8))
    clear c8
    obtain rfl := Option.some.inj H
    have p181 : 0 ≤ (x13_1 : Int) := odt ‹_›
    have q181 : x13_1 < (l0.length : Int) := odt ‹_›
    obtain ⟨ad181, e181, hx181_0⟩ := Kd.at_bool HR0.out x13_1 p181 q181
    cases e181
    replace p181 := eq_true p181
    replace q181 := eq_true q181
    have p182 : 0 ≤ (x13_1 : Int) := odt ‹_›
    have q182 : x13_1 < (l1.length : Int) := odt ‹_›
    obtain ⟨ad182, e182, hx182_0⟩ := Kd.at_bool HR1.out x13_1 p182 q182
    cases e182
    replace p182 := eq_true p182
    replace q182 := eq_true q182
    go_wp2
    repeat (go_quiet (fail); try go_wp2)
    go_ret
    exact ⟨rfl, by repeat (first | exact Drawn0.refl _ | apply Drawn0.step)⟩
   rw [if_neg c8] at H
   have c8b0 : ((rdOf false l0 x13_1) != (rdOf false l1 x13_1)) = false := by simpa using c8
   (try (have c8b1 : decide ((rdOf false l0 x13_1) = (rdOf false l1 x13_1)) = true := by simpa using c8))
   (try (have c8b2 : ((rdOf false l0 x13_1) == (rdOf false l1 x13_1)) = true := by simpa using c8))
   clear c8
   have H' := am H
   clear H
   have p181 : 0 ≤ (x13_1 : Int) := odt ‹_›
   have q181 : x13_1 < (l0.length : Int) := odt ‹_›
   obtain ⟨ad181, e181, hx181_0⟩ := Kd.at_bool HR0.out x13_1 p181 q181
   cases e181
   replace p181 := eq_true p181
   replace q181 := eq_true q181
   have p182 : 0 ≤ (x13_1 : Int) := odt ‹_›
   have q182 : x13_1 < (l1.length : Int) := odt ‹_›
   obtain ⟨ad182, e182, hx182_0⟩ := Kd.at_bool HR1.out x13_1 p182 q182
   cases e182
   replace p182 := eq_true p182
   replace q182 := eq_true q182
   go_wp2
   repeat (go_quiet (fail); try go_wp2)
   go_roundg k1
   case measure => have := HK1.out; omega
   case rel => exact ⟨(wrap64 (x13_1 + 1)), (rfl), H', ⟨by have := HK1.out; omega⟩, by repeat (first | exact Drawn0.refl _ | apply Drawn0.step)⟩
mutual
def flow_Reachable.l0 : Nat → List Bool → List Int → List (S58) → Option (List Bool)
 | 0, _, _, _ => none
 | k + 1, x3, x4, x184000 => if (x4.length : Int) > 0 then (if 0 ≤ (wrap64 ((x4.length : Int) - 1)) then (if (wrap64 ((x4.length : Int) - 1)) < (x4.length : Int) then (if (wrap64 ((x4.length : Int) - 1)) ≤ (x4.length : Int) then (if 0 ≤ (rd x4 (wrap64 ((x4.length : Int) - 1))) then (if (rd x4 (wrap64 ((x4.length : Int) - 1))) < (x184000.length : Int) then (flow_Reachable.l1 k x3 (x4.take ((wrap64 ((x4.length : Int) - 1)) : Int).toNat) ((rd_T58 x184000 (rd x4 (wrap64 ((x4.length : Int) - 1)))).f2) (((rd_T58 x184000 (rd x4 (wrap64 ((x4.length : Int) - 1)))).f2).length : Int) 0 x184000) else (none)) else (none)) else (none)) else (none)) else (none)) else (some x3)
def flow_Reachable.l1 : Nat → List Bool → List Int → List Int → Int → Int → List (S58) → Option (List Bool)
 | 0, _, _, _, _, _, _ => none
 | k + 1, x3, x4, x37, x38, x39, x184000 => if x39 < x38 then (if 0 ≤ x39 then (if x39 < (x37.length : Int) then (if 0 ≤ (rd x37 x39) then (if (rd x37 x39) < (x3.length : Int) then (if (rdOf false x3 (rd x37 x39) = true) then (flow_Reachable.l1 k x3 x4 x37 x38 (wrap64 (x39 + 1)) x184000) else (if x4.length < 17592186044416 then (flow_Reachable.l1 k (x3.set ((rd x37 x39) : Int).toNat true) (x4 ++ [rd x37 x39]) x37 x38 (wrap64 (x39 + 1)) x184000) else (none))) else (none)) else (none)) else (none)) else (none)) else (flow_Reachable.l0 k x3 x4 x184000)
end
def flow_Reachable.f (k : Nat) (l0_0 : List (S58)) : Option (List Bool) := (flow_valid.f k l0_0).bind fun t184 => (if t184 = true then (if 0 ≤ (l0_0.length : Int) then (if ((l0_0.length : Int) : Int).toNat ≤ 281474976710656 then ((some (List.replicate ((l0_0.length : Int) : Int).toNat false : List Bool)).bind fun y185 => (if 0 < (y185.length : Int) then (flow_Reachable.l0 k (y185.set (0 : Int).toNat true) (([0] : List Int)) l0_0) else (none))) else (none)) else (none)) else (some ([] : List Bool)))
set_option maxHeartbeats 8000000 in
set_option maxRecDepth 100000 in
theorem flow_Reachable.calls (k : Nat) (A0_0 : Option Addr) (c0_0 : Nat) (l0_0 : List (S58)) (r : List Bool) (w : World) (hr0_0 : Kd.C k58 w A0_0 l0_0.length l0_0) (hc0_0 : l0_0.length ≤ c0_0) (h : flow_Reachable.f k l0_0 = some r) :
 Calls Tryz.prog 20 #[.agg #[.slice A0_0 l0_0.length c0_0]] w fun e w' => ∃ v0_ : Value, e = .returned (v0_) ∧ Kd.R Kd.bool 4 w' w.heap.size (fun _ => True) v0_ r ∧ Below w.heap.size w w' := by
 have hu36 := Tryz.underlying36
 have HR0_0 := am hr0_0
 have HC0_0 := am hc0_0
 clear hr0_0 hc0_0
 have HB := am (Below.refl w.heap.size w)
 have H : ((flow_valid.f k l0_0).bind fun t184 => (if t184 = true then (if 0 ≤ (l0_0.length : Int) then (if ((l0_0.length : Int) : Int).toNat ≤ 281474976710656 then ((some (List.replicate ((l0_0.length : Int) : Int).toNat false : List Bool)).bind fun y185 => (if 0 < (y185.length : Int) then (flow_Reachable.l0 k (y185.set (0 : Int).toNat true) (([0] : List Int)) l0_0) else (none))) else (none)) else (none)) else (some ([] : List Bool)))) = some r := h
 clear h
 replace H := Option.bind_eq_some_iff.mp H
 obtain ⟨t184, A20, H⟩ := H
 try dsimp only at H
 have A2 := am A20
 clear A20
 by_cases c3 : t184 = true
 rotate_left
 ·replace c3 := Bool.eq_false_iff.mpr c3
  subst c3
  rw [if_neg (show ¬ (false = true) by decide)] at H
  obtain rfl := Option.some.inj H
  go_enter Tryz.func20, Tryz.ntmps20
  go_wp2_with (first | ((with_reducible refine gate_dst (N := 1) rfl ?_); refine box_event ?hg (N := 1) ?hd (cs := #[.slice A0_0 l0_0.length c0_0]) (t := 36) ?hr ?_; (case hd => rfl); (case hg => rfl); (case hr => first | (go_simp; done) | (go_simp; rfl)); intro gb183 hg w41 hbox hb; have n0_ := am (below_step (HB.out) hb); have n1_ := am (hbox); have n2_ := am ((by rw [hg]; exact (below_size (HB.out)) : w.heap.size ≤ gb183)); have n3_ := am ((by rw [hg]; exact (below_size (HB.out)) : w.heap.size ≤ gb183)); clear HB; have HB := n0_; have BK183 := n1_; have GW183 := n2_; have GE183 := n3_; clear n0_ n1_ n2_ n3_; clear hb hbox hg; have hcz42_0 : w41.cell? ⟨gb183, 0, none⟩ = some (.slice A0_0 l0_0.length c0_0) := (blk_cell BK183.out 0).trans rfl; have hfz42_0 := blk_frozen BK183.out 0) | ((with_reducible refine gate_callee (f := 41) rfl ?_); refine goesL_ (some 9) rfl rfl Tryz.func41 (by kernel_rfl) rfl #[.agg #[.slice A0_0 l0_0.length c0_0]] rfl (by (try simp only [List.map_toArray, List.map_cons, List.map_nil]); first | done | rfl | (simp only [List.length_drop, List.length_take]; rfl)) ?_; (with_reducible refine (flow_valid.calls k _ _ l0_0 false _ ?side1 ?side2 A2.out).mono ?_); (case side1 => repeat (first | exact (Kd.C_below HR0_0.out HB.out) | (with_reducible refine Kd.C_alloc ?_ _) | (with_reducible refine Kd.C_drewN ?_ _) | (with_reducible refine Kd.C_drew ?_))); (case side2 => exact HC0_0.out); rintro e w43 ⟨rfl, hb⟩; refine ⟨_, rfl, ?_⟩; have n0_ := am (blk_below (g := gb183) (o := .cells #[.slice A0_0 l0_0.length c0_0] 36 (0, 0)) (BK183.out) hb); have n1_ := am (below_step (HB.out) hb); clear BK183; clear HB; have BK183 := n0_; have HB := n1_; clear n0_ n1_; (try clear hb); (try clear hb2); (try clear hk); (try clear hi)))
  go_ret
  exact ⟨_, rfl, by first | exact Kd.R_nil _ _ _ _ _ | exact Kd.N_nil _ _ _ _ _ | exact Kd.V_nil _ _ _ _ _ | exact Kd.Q_nil _ _ _ _ _ | exact Kd.S_nil _ _ _ _ _, HB.out⟩
 subst c3
 rw [if_pos rfl] at H
 by_cases c4 : 0 ≤ (l0_0.length : Int)
 rotate_left
 ·rw [if_neg c4] at H
  exact absurd H (by simp)
 rw [if_pos c4] at H
 have c4b0 := eq_true c4
 have c4b1 : decide (0 ≤ (l0_0.length : Int)) = true := decide_eq_true c4
 clear c4
 by_cases c5 : ((l0_0.length : Int) : Int).toNat ≤ 281474976710656
 rotate_left
 ·rw [if_neg c5] at H
  exact absurd H (by simp)
 rw [if_pos c5] at H
 have c5b0 := eq_true c5
 have c5b1 : decide (((l0_0.length : Int) : Int).toNat ≤ 281474976710656) = true := decide_eq_true c5
 clear c5
 obtain ⟨y185, hy185⟩ : ∃ y_ : List Bool, y_ = (List.replicate ((l0_0.length : Int) : Int).toNat false) := ⟨_, rfl⟩
 replace H : (if 0 < (y185.length : Int) then (flow_Reachable.l0 k (y185.set (0 : Int).toNat true) (([0] : List Int)) l0_0) else (none)) = some r := by rw [hy185]; exact H
 have Ny185 := am hy185
 clear hy185
 by_cases c6 : 0 < (y185.length : Int)
 rotate_left
 ·rw [if_neg c6] at H
  exact absurd H (by simp)
 rw [if_pos c6] at H
 have c6b0 : decide (0 < (y185.length : Int)) = true := decide_eq_true c6
 have c6b1 : decide (0 < y185.length) = true := decide_eq_true (by omega)
 clear c6
 obtain ⟨y188, hy188⟩ : ∃ y_ : List Bool, y_ = (y185.set (0 : Int).toNat true) := ⟨_, rfl⟩
 replace H : (flow_Reachable.l0 k y188 (([0] : List Int)) l0_0) = some r := by rw [hy188]; exact H
 have Ny188 := am hy188
 clear hy188
 obtain ⟨y189, hy189⟩ : ∃ y_ : List Int, y_ = (([0] : List Int)) := ⟨_, rfl⟩
 replace H : (flow_Reachable.l0 k y188 y189 l0_0) = some r := by rw [hy189]; exact H
 have Ny189 := am hy189
 clear hy189
 have H' := am H
 clear H
 go_enter Tryz.func20, Tryz.ntmps20
 go_wp2_with (first | ((with_reducible refine gate_dst (N := 1) rfl ?_); refine box_event ?hg (N := 1) ?hd (cs := #[.slice A0_0 l0_0.length c0_0]) (t := 36) ?hr ?_; (case hd => rfl); (case hg => rfl); (case hr => first | (go_simp; done) | (go_simp; rfl)); intro gb183 hg w8 hbox hb; have n0_ := am (below_step (HB.out) hb); have n1_ := am (hbox); have n2_ := am ((by rw [hg]; exact (below_size (HB.out)) : w.heap.size ≤ gb183)); have n3_ := am ((by rw [hg]; exact (below_size (HB.out)) : w.heap.size ≤ gb183)); clear HB; have HB := n0_; have BK183 := n1_; have GW183 := n2_; have GE183 := n3_; clear n0_ n1_ n2_ n3_; clear hb hbox hg; have hcz9_0 : w8.cell? ⟨gb183, 0, none⟩ = some (.slice A0_0 l0_0.length c0_0) := (blk_cell BK183.out 0).trans rfl; have hfz9_0 := blk_frozen BK183.out 0) | ((with_reducible refine gate_callee (f := 41) rfl ?_); refine goesL_ (some 9) rfl rfl Tryz.func41 (by kernel_rfl) rfl #[.agg #[.slice A0_0 l0_0.length c0_0]] rfl (by (try simp only [List.map_toArray, List.map_cons, List.map_nil]); first | done | rfl | (simp only [List.length_drop, List.length_take]; rfl)) ?_; (with_reducible refine (flow_valid.calls k _ _ l0_0 true _ ?side1 ?side2 A2.out).mono ?_); (case side1 => repeat (first | exact (Kd.C_below HR0_0.out HB.out) | (with_reducible refine Kd.C_alloc ?_ _) | (with_reducible refine Kd.C_drewN ?_ _) | (with_reducible refine Kd.C_drew ?_))); (case side2 => exact HC0_0.out); rintro e w10 ⟨rfl, hb⟩; refine ⟨_, rfl, ?_⟩; have n0_ := am (blk_below (g := gb183) (o := .cells #[.slice A0_0 l0_0.length c0_0] 36 (0, 0)) (BK183.out) hb); have n1_ := am (below_step (HB.out) hb); clear BK183; clear HB; have BK183 := n0_; have HB := n1_; clear n0_ n1_; (try clear hb); (try clear hb2); (try clear hk); (try clear hi); have hcz11_0 : w10.cell? ⟨gb183, 0, none⟩ = some (.slice A0_0 l0_0.length c0_0) := (blk_cell BK183.out 0).trans rfl; have hfz11_0 := blk_frozen BK183.out 0) | ((with_reducible refine gate_dst (N := 14) rfl ?_); refine Kd.R_make Kd.bool _ 4 rfl (N := 14) rfl 49 _ _ rfl (l0_0.length : Int) rfl rfl Tryz.underlying49 (.bool false) 1 info4 rfl (by decide) (by omega) false (ok := fun _ => True) (okp := fun _ => True) rfl (fun _ hk => hk) trivial (odt ‹_›) (Nat.le_trans (Nat.mul_le_mul_right _ (odt ‹_› : (l0_0.length : Int).toNat ≤ 281474976710656)) (by omega)) (Below.refl _ _) (Nat.le_refl _) ?_; intro v186 w12 ho13 hb hg_ hnew_; clear hg_ hnew_; (first | rw [← Ny185.out] at ho13 | (simp only [Int.reduceToNat] at ho13; rw [← Ny185.out] at ho13)); have n0_ := am (Kd.R_lower ho13 (below_size (HB.out))); have n1_ := am (blk_below (g := gb183) (o := .cells #[.slice A0_0 l0_0.length c0_0] 36 (0, 0)) (BK183.out) hb); have n2_ := am (below_step (HB.out) hb); clear BK183; clear HB; have HO187 := n0_; have BK183 := n1_; have HB := n2_; clear n0_ n1_ n2_; clear hb ho13; have p7 : 0 ≤ (0 : Int) := (by omega); have q7 : (0 : Int) < ((y185.length : Int) : Int) := odt ‹_›; have qi7 : (0 < y185.length) = True := eq_true (by omega); obtain ⟨go7, co7, eo7, gb7, gl7, cl7, HG7⟩ := Kd.R_form HO187.out (by omega); (first | cases eo7 | (injection eo7 with ea_ en_ ec_; (first | subst ea_ | (injection ea_ with ea_; subst ea_)); subst ec_; clear en_)); have GB7 := am gb7; have GG7 := am HG7; clear gb7 gl7 HG7; obtain ⟨hx7_0, hf7_0⟩ := Kd.R_celln false HO187.out (0 : Int) p7 q7; (try rw [show ((0 : Int)).toNat = 0 from rfl] at hx7_0); (try simp only [Nat.reduceMul, Nat.zero_mul, Nat.zero_add, Nat.reduceAdd] at hx7_0); (try rw [show ((0 : Int)).toNat = 0 from rfl] at hf7_0); (try simp only [Nat.reduceMul, Nat.zero_mul, Nat.zero_add, Nat.reduceAdd] at hf7_0); replace p7 := eq_true p7; replace q7 := eq_true q7; obtain ⟨hy14_, hz14_⟩ := Kd.R_celln false HO187.out (0 : Int) (by omega) (odt ‹_›); (try simp only [Int.reduceToNat, Int.toNat_zero, Int.toNat_ofNat, Nat.reduceMul, Nat.zero_mul, Nat.zero_add] at hy14_ hz14_); (try rw [show ((0 : Int)).toNat = 0 from rfl] at hy14_); (try rw [show ((0 : Int)).toNat = 0 from rfl] at hz14_); have HP14 := Kd.R_putg HO187.out (0 : Int) true) | ((with_reducible refine gate_store (t := 4) (p := 16) rfl ?_); refine store_event (t := 4) (p := 16) (v := ?vo_w15) (w1 := (w12.setCell ⟨go7, (0 : Int).toNat, none⟩ (.bool true))) ?hg ?ho ?hn ?hr ?_; (case ho => rfl); (case hg => rfl); (case hn => rfl); (case hr => first | (go_simp; done) | (go_simp; rfl)); intro w15 hw; have hg : w12.grownBy w15 (some go7) := (by rw [hw]; exact HP14.2); have hp_ : Kd.R Kd.bool 4 w15 w.heap.size (fun _ => True) (.slice (some ⟨go7, 0, none⟩) y185.length co7) y188 := (by rw [hw, Ny188.out]; exact HP14.1); clear HP14; have n0_ := am (blk_grown (g := gb183) (o := .cells #[.slice A0_0 l0_0.length c0_0] 36 (0, 0)) (BK183.out) hg (Kd.R_ne HO187.out BK183.out (by decide))); have n1_ := am (hp_); have n2_ := am ((by rw [hw]; exact below_set (HB.out) GB7.out : Below w.heap.size w w15)); clear BK183; clear HO187; clear HB; have BK183 := n0_; have HO187 := n1_; have HB := n2_; clear n0_ n1_ n2_; clear hg hw hp_) | ((with_reducible refine gate_dst (N := 17) rfl ?_); refine Kd.R_lit (Kd.int .i64) _ 3 ?hg (N := 17) ?hd (xs := ([0] : List Int)) (inner := [.int .i64 0]) (ok := fun _ => True) (okp := fun _ => True) ?hr ?hp (fun _ hk => hk) trivial (Below.refl _ _) (Nat.le_refl _) (by simp) ?_; (case hd => rfl); (case hg => rfl); (case hr => first | (go_simp; done) | (go_simp; rfl)); (case hp => exact (Reps.one (show Kd.M (Kd.int .i64) _ _ _ 0 [.int .i64 0] from rfl) (Reps.none _ _))); intro v190 w16 ho17 hb hg_ hnew_; clear hg_ hnew_; (first | rw [← Ny189.out] at ho17 | (simp only [Int.reduceToNat] at ho17; rw [← Ny189.out] at ho17)); have n0_ := am (Kd.R_below (HO187.out) hb); have n1_ := am (Kd.R_lower ho17 (below_size (HB.out))); have n2_ := am (blk_below (g := gb183) (o := .cells #[.slice A0_0 l0_0.length c0_0] 36 (0, 0)) (BK183.out) hb); have n3_ := am (below_step (HB.out) hb); clear HO187; clear BK183; clear HB; have HO187 := n0_; have HO191 := n1_; have BK183 := n2_; have HB := n3_; clear n0_ n1_ n2_ n3_; clear hb ho17))
 go_loopg [4] k (fun kq v4 w' => ∃ (x3_1 : List Bool) (x4_1 : List Int), Aside0 (flow_Reachable.l0 kq x3_1 x4_1 l0_0 = some r) ∧ Aside0 (kq ≤ k) ∧ Aside0 (Kd.R Kd.bool 4 w' w.heap.size (fun _ => True) (.slice (some ⟨go7, 0, none⟩) y185.length co7) x3_1) ∧ Aside0 (Kd.R (Kd.int .i64) 3 w' w.heap.size (fun _ => True) v4 x4_1) ∧ Aside0 (w'.heap[gb183]? = some (.cells #[(.slice A0_0 l0_0.length c0_0)] 36 (0, 0))) ∧ Aside0 (Below w.heap.size w w'))
 case atStart => exact ⟨(y188), (y189), H', ⟨Nat.le_refl _⟩, ⟨HO187.out⟩, ⟨HO191.out⟩, ⟨BK183.out⟩, ⟨HB.out⟩⟩
 case round =>
  clear H'
  clear c4b0 c4b1 c5b0 c5b1 c6b0 c6b1 p7 q7 qi7 hcz11_0 hcz9_0 hfz11_0 hfz9_0 hx7_0
  obtain ⟨x3_1, x4_1, HA, HK1, HO_3, HO_4, BK183, HB⟩ := hrel
  have hl3_1 := (Kd.R_reads' HO_3.out).1
  rw [hl3_1] at HO_3
  (try simp only [hl3_1])
  (try simp only [hl3_1] at BK183)
  (try simp only [hl3_1] at HO_4)
  cases gk with
  | zero => exact absurd HA.out (by simp [flow_Reachable.l0])
  | succ k1 =>
   have H := HA.out
   clear HA
   simp only [flow_Reachable.l0] at H
   by_cases c18 : (x4_1.length : Int) > 0
   rotate_left
   ·rw [if_neg c18] at H
    have c18b0 : decide (0 < (x4_1.length : Int)) = false := decide_eq_false c18
    have c18b1 : decide (0 < x4_1.length) = false := decide_eq_false (by omega)
    clear c18
    obtain rfl := Option.some.inj H
    obtain ⟨Ao40, co40, eo40⟩ := Kd.R_slice HO_4.out
    subst eo40
    go_wp2
    go_ret
    exact ⟨_, rfl, by (with_reducible repeat (first | apply Kd.R_alloc | apply Kd.R_drewN | apply Kd.R_drew)); exact HO_3.out, HB.out⟩
   rw [if_pos c18] at H
   have c18b0 : decide (0 < (x4_1.length : Int)) = true := decide_eq_true c18
   have c18b1 : decide (0 < x4_1.length) = true := decide_eq_true (by omega)
   clear c18
   obtain ⟨ji19, hji19⟩ : ∃ j_ : Int, (wrap64 ((x4_1.length : Int) - 1)) = j_ := ⟨_, rfl⟩
   replace H : (if 0 ≤ (ji19) then (if (ji19) < (x4_1.length : Int) then (if (ji19) ≤ (x4_1.length : Int) then (if 0 ≤ (rd x4_1 (ji19)) then (if (rd x4_1 (ji19)) < (l0_0.length : Int) then (flow_Reachable.l1 k1 x3_1 (x4_1.take ((ji19) : Int).toNat) ((rd_T58 l0_0 (rd x4_1 (ji19))).f2) (((rd_T58 l0_0 (rd x4_1 (ji19))).f2).length : Int) 0 l0_0) else (none)) else (none)) else (none)) else (none)) else (none)) = some r := by first | (rw [hji19] at H; exact H) | (simp only [hji19] at H ⊢; exact H)
   have hji19w : (IntKind.i64.wrap ((x4_1.length : Int) - 1)) = ji19 := (i64_w _).trans hji19
   by_cases c20 : 0 ≤ (ji19)
   rotate_left
   ·rw [if_neg c20] at H
    exact absurd H (by simp)
   rw [if_pos c20] at H
   have c20b0 : decide (0 ≤ (ji19)) = true := decide_eq_true c20
   clear c20
   by_cases c21 : (ji19) < (x4_1.length : Int)
   rotate_left
   ·rw [if_neg c21] at H
    exact absurd H (by simp)
   rw [if_pos c21] at H
   have c21b0 : decide ((ji19) < (x4_1.length : Int)) = true := decide_eq_true c21
   clear c21
   by_cases c22 : (ji19) ≤ (x4_1.length : Int)
   rotate_left
   ·rw [if_neg c22] at H
    exact absurd H (by simp)
   rw [if_pos c22] at H
   have c22b0 := eq_true c22
   have c22b1 : decide ((ji19) ≤ (x4_1.length : Int)) = true := decide_eq_true c22
   clear c22
   obtain ⟨y193, hy193⟩ : ∃ y_ : List Int, y_ = (x4_1.take ((ji19) : Int).toNat) := ⟨_, rfl⟩
   replace H : (if 0 ≤ (rd x4_1 (ji19)) then (if (rd x4_1 (ji19)) < (l0_0.length : Int) then (flow_Reachable.l1 k1 x3_1 y193 ((rd_T58 l0_0 (rd x4_1 (ji19))).f2) (((rd_T58 l0_0 (rd x4_1 (ji19))).f2).length : Int) 0 l0_0) else (none)) else (none)) = some r := by rw [hy193]; exact H
   have Ny193 := am hy193
   clear hy193
   by_cases c23 : 0 ≤ (rd x4_1 (ji19))
   rotate_left
   ·rw [if_neg c23] at H
    exact absurd H (by simp)
   rw [if_pos c23] at H
   have c23b0 : decide (0 ≤ (rd x4_1 (ji19))) = true := decide_eq_true c23
   clear c23
   by_cases c24 : (rd x4_1 (ji19)) < (l0_0.length : Int)
   rotate_left
   ·rw [if_neg c24] at H
    exact absurd H (by simp)
   rw [if_pos c24] at H
   have c24b0 : decide ((rd x4_1 (ji19)) < (l0_0.length : Int)) = true := decide_eq_true c24
   clear c24
   have H' := am H
   clear H
   obtain ⟨Ao25, co25, eo25⟩ := Kd.R_slice HO_4.out
   subst eo25
   have p192 : 0 ≤ ((ji19) : Int) := odt ‹_›
   have q192 : (ji19) < (x4_1.length : Int) := odt ‹_›
   obtain ⟨ad192, e192, hx192_0⟩ := Kd.at_int (Kd.R_reads' HO_4.out).2.2 (ji19) p192 q192
   cases e192
   replace p192 := eq_true p192
   replace q192 := eq_true q192
   have q26 : ((ji19) : Int) ≤ ((x4_1.length : Int) : Int) := odt ‹_›
   obtain ⟨i026, hi026, _, hsz26, _⟩ := info_parts info3
   have hcut26 := cut_to (P := Tryz.prog) 27 3 .i64 Tryz.underlying27 hi026 (some ad192) x4_1.length co25 (ji19) (odt ‹_›) q26 (Kd.R_reads' HO_4.out).2.1
   have hr26 := Kd.R_take (m := ((ji19) : Int).toNat) HO_4.out (by omega)
   have hy26 : y193.length = ((ji19) : Int).toNat := (by rw [Ny193.out, List.length_take]; omega)
   rw [← Ny193.out] at hr26
   rw [← hy26] at hr26 hcut26
   clear hy26 hi026 hsz26 HO_4
   have HO195 := am hr26
   clear hr26
   replace q26 := eq_true q26
   have hcz27_0 : wr.cell? ⟨gb183, 0, none⟩ = some (.slice A0_0 l0_0.length c0_0) := (blk_cell BK183.out 0).trans rfl
   have hfz27_0 := blk_frozen BK183.out 0
   have p196 : 0 ≤ ((rd x4_1 (ji19)) : Int) := odt ‹_›
   have q196 : (rd x4_1 (ji19)) < (l0_0.length : Int) := odt ‹_›
   obtain ⟨ad196, A196_2, c196_2, e196, hx196_0, hx196_1, hx196_2, hl196_2, hi196_2⟩ := at_T58 HR0_0.out (rd x4_1 (ji19)) p196 q196
   cases e196
   replace hx196_0 := (HB.out.cell (blc w _ hx196_0)).trans hx196_0
   replace hx196_1 := (HB.out.cell (blc w _ hx196_1)).trans hx196_1
   replace hx196_2 := (HB.out.cell (blc w _ hx196_2)).trans hx196_2
   have HR196_2 := am hi196_2
   have HC196_2 := am hl196_2
   clear hi196_2 hl196_2
   replace p196 := eq_true p196
   replace q196 := eq_true q196
   go_wp2
   go_loopg [4, 39] k1 (fun kq v4 v39 w' => ∃ (x3_2 : List Bool) (x4_2 : List Int) (x39_2 : Int), v39 = .int .i64 x39_2 ∧ Aside0 (flow_Reachable.l1 kq x3_2 x4_2 ((rd_T58 l0_0 (rd x4_1 (ji19))).f2) (((rd_T58 l0_0 (rd x4_1 (ji19))).f2).length : Int) x39_2 l0_0 = some r) ∧ Aside0 (kq ≤ k1) ∧ Aside0 (Kd.R Kd.bool 4 w' w.heap.size (fun _ => True) (.slice (some ⟨go7, 0, none⟩) x3_1.length co7) x3_2) ∧ Aside0 (Kd.R (Kd.int .i64) 3 w' w.heap.size (fun _ => True) v4 x4_2) ∧ Aside0 (w'.heap[gb183]? = some (.cells #[(.slice (some ad196) l0_0.length c0_0)] 36 (0, 0))) ∧ Aside0 (Below w.heap.size w w'))
   case atStart => exact ⟨(x3_1), (y193), (0), (rfl), H', ⟨Nat.le_refl _⟩, ⟨by (try simp only [hl3_1]); (with_reducible repeat (first | apply Kd.R_alloc | apply Kd.R_drewN | apply Kd.R_drew)); exact HO_3.out⟩, ⟨by (try simp only [hl3_1]); (with_reducible repeat (first | apply Kd.R_alloc | apply Kd.R_drewN | apply Kd.R_drew)); exact HO195.out⟩, ⟨by (try simp only [hl3_1]); (with_reducible repeat (first | refine blk_drewN ?_ _ | refine blk_drew ?_ | refine blk_alloc ?_ _)); exact BK183.out⟩, ⟨HB.out⟩⟩
   case round =>
    clear H'
    clear c18b0 c18b1 c20b0 c21b0 c22b0 c22b1 c23b0 c24b0 q26 hcz27_0 hfz27_0 hx192_0 hx196_0 hx196_1 hx196_2 p192 p196 q192 q196
    obtain ⟨x3_2, x4_2, x39_2, rfl, HA, HK2, HO_3, HO_4, BK183, HB⟩ := hrel
    have hl3_2 := (Kd.R_reads' HO_3.out).1
    rw [hl3_2] at HO_3
    (try simp only [hl3_2])
    (try simp only [hl3_2] at BK183)
    (try simp only [hl3_2] at HO_4)
    cases gk with
    | zero => exact absurd HA.out (by simp [flow_Reachable.l1])
    | succ k2 =>
     have H := HA.out
     clear HA
     simp only [flow_Reachable.l1] at H
     by_cases c28 : x39_2 < (((rd_T58 l0_0 (rd x4_1 (ji19))).f2).length : Int)
     rotate_left
     ·rw [if_neg c28] at H
      have c28b0 : decide (x39_2 < (((rd_T58 l0_0 (rd x4_1 (ji19))).f2).length : Int)) = false := decide_eq_false c28
      clear c28
      have H' := am H
      clear H
      go_wp2
      (try simp only [← hl3_1, ← hl3_2])
      go_roundg k2
      case measure => have := HK1.out; have := HK2.out; omega
      case rel => exact ⟨(x3_2), (x4_2), H', ⟨by have := HK1.out; have := HK2.out; omega⟩, ⟨by (try simp only [hl3_1]); (try simp only [hl3_2]); (with_reducible repeat (first | apply Kd.R_alloc | apply Kd.R_drewN | apply Kd.R_drew)); exact HO_3.out⟩, ⟨by (try simp only [hl3_1]); (try simp only [hl3_2]); (with_reducible repeat (first | apply Kd.R_alloc | apply Kd.R_drewN | apply Kd.R_drew)); exact HO_4.out⟩, ⟨by (try simp only [hl3_1]); (try simp only [hl3_2]); (with_reducible repeat (first | refine blk_drewN ?_ _ | refine blk_drew ?_ | refine blk_alloc ?_ _)); exact BK183.out⟩, ⟨HB.out⟩⟩
     rw [if_pos c28] at H
     have c28b0 : decide (x39_2 < (((rd_T58 l0_0 (rd x4_1 (ji19))).f2).length : Int)) = true := decide_eq_true c28
     clear c28
     by_cases c29 : 0 ≤ x39_2
     rotate_left
     ·rw [if_neg c29] at H
      exact absurd H (by simp)
     rw [if_pos c29] at H
     have c29b0 : decide (0 ≤ x39_2) = true := decide_eq_true c29
     clear c29
     by_cases c30 : x39_2 < (((rd_T58 l0_0 (rd x4_1 (ji19))).f2).length : Int)
     rotate_left
     ·rw [if_neg c30] at H
      exact absurd H (by simp)
     rw [if_pos c30] at H
     have c30b0 : decide (x39_2 < (((rd_T58 l0_0 (rd x4_1 (ji19))).f2).length : Int)) = true := decide_eq_true c30
     clear c30
     by_cases c31 : 0 ≤ (rd ((rd_T58 l0_0 (rd x4_1 (ji19))).f2) x39_2)
     rotate_left
     ·rw [if_neg c31] at H
      exact absurd H (by simp)
     rw [if_pos c31] at H
     have c31b0 : decide (0 ≤ (rd ((rd_T58 l0_0 (rd x4_1 (ji19))).f2) x39_2)) = true := decide_eq_true c31
     clear c31
     by_cases c32 : (rd ((rd_T58 l0_0 (rd x4_1 (ji19))).f2) x39_2) < (x3_2.length : Int)
     rotate_left
     ·rw [if_neg c32] at H
      exact absurd H (by simp)
     rw [if_pos c32] at H
     have c32b0 : decide ((rd ((rd_T58 l0_0 (rd x4_1 (ji19))).f2) x39_2) < (x3_2.length : Int)) = true := decide_eq_true c32
     clear c32
     obtain ⟨bq33, hbq33⟩ : ∃ b_ : Bool, b_ = (rdOf false x3_2 (rd ((rd_T58 l0_0 (rd x4_1 (ji19))).f2) x39_2)) := ⟨_, rfl⟩
     replace H : (if (bq33 = true) then (flow_Reachable.l1 k2 x3_2 x4_2 ((rd_T58 l0_0 (rd x4_1 (ji19))).f2) (((rd_T58 l0_0 (rd x4_1 (ji19))).f2).length : Int) (wrap64 (x39_2 + 1)) l0_0) else (if x4_2.length < 17592186044416 then (flow_Reachable.l1 k2 (x3_2.set ((rd ((rd_T58 l0_0 (rd x4_1 (ji19))).f2) x39_2) : Int).toNat true) (x4_2 ++ [rd ((rd_T58 l0_0 (rd x4_1 (ji19))).f2) x39_2]) ((rd_T58 l0_0 (rd x4_1 (ji19))).f2) (((rd_T58 l0_0 (rd x4_1 (ji19))).f2).length : Int) (wrap64 (x39_2 + 1)) l0_0) else (none))) = some r := by rw [← hbq33] at H; exact H
     have Nbq33 := am hbq33
     clear hbq33
     by_cases c34 : (bq33 = true)
     ·subst c34
      rw [if_pos rfl] at H
      have H' := am H
      clear H
      have p197 : 0 ≤ (x39_2 : Int) := odt ‹_›
      have q197 : x39_2 < (((rd_T58 l0_0 (rd x4_1 (ji19))).f2).length : Int) := odt ‹_›
      obtain ⟨ad197, e197, hx197_0⟩ := Kd.at_int HR196_2.out x39_2 p197 q197
      cases e197
      replace hx197_0 := (HB.out.cell (blc w _ hx197_0)).trans hx197_0
      replace p197 := eq_true p197
      replace q197 := eq_true q197
      have p198 : 0 ≤ ((rd ((rd_T58 l0_0 (rd x4_1 (ji19))).f2) x39_2) : Int) := odt ‹_›
      have q198 : (rd ((rd_T58 l0_0 (rd x4_1 (ji19))).f2) x39_2) < (x3_2.length : Int) := odt ‹_›
      obtain ⟨ad198, e198, hx198_0⟩ := Kd.at_bool (Kd.R_reads' HO_3.out).2.2 (rd ((rd_T58 l0_0 (rd x4_1 (ji19))).f2) x39_2) p198 q198
      (try rw [← Nbq33.out] at hx198_0)
      obtain rfl : (⟨go7, 0, none⟩ : Addr) = ad198 := (by injection e198)
      (first | simp only [add_plain] at hx198_0 | simp only [add_at] at hx198_0 | simp only [Addr.add, Nat.zero_add] at hx198_0 | skip)
      replace p198 := eq_true p198
      replace q198 := eq_true q198
      go_wp2
      (try simp only [← hl3_2])
      go_roundg k2
      case measure => have := HK1.out; have := HK2.out; omega
      case rel => exact ⟨(x3_2), (x4_2), (wrap64 (x39_2 + 1)), (rfl), H', ⟨by have := HK1.out; have := HK2.out; omega⟩, ⟨by (try simp only [hl3_1]); (try simp only [hl3_2]); (with_reducible repeat (first | apply Kd.R_alloc | apply Kd.R_drewN | apply Kd.R_drew)); exact HO_3.out⟩, ⟨by (try simp only [hl3_1]); (try simp only [hl3_2]); (with_reducible repeat (first | apply Kd.R_alloc | apply Kd.R_drewN | apply Kd.R_drew)); exact HO_4.out⟩, ⟨by (try simp only [hl3_1]); (try simp only [hl3_2]); (with_reducible repeat (first | refine blk_drewN ?_ _ | refine blk_drew ?_ | refine blk_alloc ?_ _)); exact BK183.out⟩, ⟨HB.out⟩⟩
     replace c34 := Bool.eq_false_iff.mpr c34
     subst c34
     rw [if_neg (show ¬ (false = true) by decide)] at H
     obtain ⟨y199, hy199⟩ : ∃ y_ : List Bool, y_ = (x3_2.set ((rd ((rd_T58 l0_0 (rd x4_1 (ji19))).f2) x39_2) : Int).toNat true) := ⟨_, rfl⟩
     replace H : (if x4_2.length < 17592186044416 then (flow_Reachable.l1 k2 y199 (x4_2 ++ [rd ((rd_T58 l0_0 (rd x4_1 (ji19))).f2) x39_2]) ((rd_T58 l0_0 (rd x4_1 (ji19))).f2) (((rd_T58 l0_0 (rd x4_1 (ji19))).f2).length : Int) (wrap64 (x39_2 + 1)) l0_0) else (none)) = some r := by rw [hy199]; exact H
     have Ny199 := am hy199
     clear hy199
     by_cases c36 : x4_2.length < 17592186044416
     rotate_left
     ·rw [if_neg c36] at H
      exact absurd H (by simp)
     rw [if_pos c36] at H
     have LMc36 := am c36
     clear c36
     obtain ⟨y200, hy200⟩ : ∃ y_ : List Int, y_ = (x4_2 ++ [rd ((rd_T58 l0_0 (rd x4_1 (ji19))).f2) x39_2]) := ⟨_, rfl⟩
     replace H : (flow_Reachable.l1 k2 y199 y200 ((rd_T58 l0_0 (rd x4_1 (ji19))).f2) (((rd_T58 l0_0 (rd x4_1 (ji19))).f2).length : Int) (wrap64 (x39_2 + 1)) l0_0) = some r := by rw [hy200]; exact H
     have Ny200 := am hy200
     clear hy200
     have H' := am H
     clear H
     have p197 : 0 ≤ (x39_2 : Int) := odt ‹_›
     have q197 : x39_2 < (((rd_T58 l0_0 (rd x4_1 (ji19))).f2).length : Int) := odt ‹_›
     obtain ⟨ad197, e197, hx197_0⟩ := Kd.at_int HR196_2.out x39_2 p197 q197
     cases e197
     replace hx197_0 := (HB.out.cell (blc w _ hx197_0)).trans hx197_0
     replace p197 := eq_true p197
     replace q197 := eq_true q197
     have p198 : 0 ≤ ((rd ((rd_T58 l0_0 (rd x4_1 (ji19))).f2) x39_2) : Int) := odt ‹_›
     have q198 : (rd ((rd_T58 l0_0 (rd x4_1 (ji19))).f2) x39_2) < (x3_2.length : Int) := odt ‹_›
     obtain ⟨ad198, e198, hx198_0⟩ := Kd.at_bool (Kd.R_reads' HO_3.out).2.2 (rd ((rd_T58 l0_0 (rd x4_1 (ji19))).f2) x39_2) p198 q198
     (try rw [← Nbq33.out] at hx198_0)
     obtain rfl : (⟨go7, 0, none⟩ : Addr) = ad198 := (by injection e198)
     (first | simp only [add_plain] at hx198_0 | simp only [add_at] at hx198_0 | simp only [Addr.add, Nat.zero_add] at hx198_0 | skip)
     replace p198 := eq_true p198
     replace q198 := eq_true q198
     have p35 : 0 ≤ ((rd ((rd_T58 l0_0 (rd x4_1 (ji19))).f2) x39_2) : Int) := odt ‹_›
     have q35 : ((rd ((rd_T58 l0_0 (rd x4_1 (ji19))).f2) x39_2) : Int) < ((x3_2.length : Int) : Int) := odt ‹_›
     obtain ⟨hx35_0, hf35_0⟩ := Kd.R_celln false HO_3.out ((rd ((rd_T58 l0_0 (rd x4_1 (ji19))).f2) x39_2) : Int) p35 q35
     replace p35 := eq_true p35
     replace q35 := eq_true q35
     have HP37 := Kd.R_putg HO_3.out ((rd ((rd_T58 l0_0 (rd x4_1 (ji19))).f2) x39_2) : Int) true
     go_wp2_with (first | ((with_reducible refine gate_store (t := 4) (p := 50) rfl ?_); refine store_event (t := 4) (p := 50) (v := ?vo_w38) (w1 := (wr.setCell ⟨go7, ((rd ((rd_T58 l0_0 (rd x4_1 (ji19))).f2) x39_2) : Int).toNat, none⟩ (.bool true))) ?hg ?ho ?hn ?hr ?_; (case ho => rfl); (case hg => rfl); (case hn => rfl); (case hr => first | (go_simp; done) | (go_simp; rfl)); intro w38 hw; have hg : wr.grownBy w38 (some go7) := (by rw [hw]; exact HP37.2); have hp_ : Kd.R Kd.bool 4 w38 w.heap.size (fun _ => True) (.slice (some ⟨go7, 0, none⟩) x3_2.length co7) y199 := (by rw [hw, Ny199.out]; exact HP37.1); clear HP37; have n0_ := am (hp_); have n1_ := am (Kd.R_over' (v := (.slice (some ⟨go7, 0, none⟩) x3_2.length co7)) (HO_4.out) (Kd.R_typed HO_3.out) (by decide) hg); have n2_ := am (blk_grown (g := gb183) (o := .cells #[.slice (some ad196) l0_0.length c0_0] 36 (0, 0)) (BK183.out) hg (Kd.R_ne HO_3.out BK183.out (by decide))); have n3_ := am ((by rw [hw]; exact below_set (HB.out) GB7.out : Below w.heap.size w w38)); clear HO_3; clear HO_4; clear BK183; clear HB; have HO_3 := n0_; have HO_4 := n1_; have BK183 := n2_; have HB := n3_; clear n0_ n1_ n2_ n3_; clear hg hw hp_) | ((with_reducible refine gate_builtin (b := .append) (xs := #[.tmp 51, .tmp 53]) rfl ?_); at_builtin; refine Kd.R_append (Kd.int .i64) (w0 := w) w.heap.size rfl (.tmp 51) (.tmp 53) 27 3 (.int .i64 0) 8 rfl Tryz.underlying27 info3 rfl (by decide) (by omega) u4 x4_2 (rd ((rd_T58 l0_0 (rd x4_1 (ji19))).f2) x39_2) [.int .i64 (rd ((rd_T58 l0_0 (rd x4_1 (ji19))).f2) x39_2)] (fun _ => True) (fun _ => False) rfl rfl ?aP (fun _ hk => hk.elim) ?aF ?aO ?aB ?aS ?aL ?_; (case aP => exact rfl); (case aB => exact (HB.out)); (case aF => exact (fun _ _ => trivial)); (case aO => exact (HO_4.out)); (case aS => exact (below_size (HB.out))); (case aL => have := LMc36.out; omega); intro v201 w39 ho hb hg hat; rw [← Ny200.out] at ho; have n0_ := am (Kd.R_over' (HO_3.out) (Kd.R_typed (HO_4.out)) (by decide) hg); have n1_ := am (blk_grown (g := gb183) (o := .cells #[.slice (some ad196) l0_0.length c0_0] 36 (0, 0)) (BK183.out) hg (Kd.R_ne HO_4.out BK183.out (by decide))); have n2_ := am (hb); have n3_ := am (ho); clear HO_3; clear BK183; clear HB; clear HO_4; have HO_3 := n0_; have BK183 := n1_; have HB := n2_; have HO202 := n3_; clear n0_ n1_ n2_ n3_; clear ho hb hg hat))
     (try simp only [← hl3_2])
     go_roundg k2
     case measure => have := HK1.out; have := HK2.out; omega
     case rel => exact ⟨(y199), (y200), (wrap64 (x39_2 + 1)), (rfl), H', ⟨by have := HK1.out; have := HK2.out; omega⟩, ⟨by (try simp only [hl3_1]); (try simp only [hl3_2]); (with_reducible repeat (first | apply Kd.R_alloc | apply Kd.R_drewN | apply Kd.R_drew)); exact HO_3.out⟩, ⟨by (try simp only [hl3_1]); (try simp only [hl3_2]); (with_reducible repeat (first | apply Kd.R_alloc | apply Kd.R_drewN | apply Kd.R_drew)); exact HO202.out⟩, ⟨by (try simp only [hl3_1]); (try simp only [hl3_2]); (with_reducible repeat (first | refine blk_drewN ?_ _ | refine blk_drew ?_ | refine blk_alloc ?_ _)); exact BK183.out⟩, ⟨HB.out⟩⟩
end Go.Proofs.YtfcjeoihfphphaaGreatDoor.PFlow
end

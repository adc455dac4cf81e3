/- A part of the proof, written by programs of this seat and by hand: P9. -/
import Derived.Test.YtfcjeoihfphphaaGreatDoorPtP0
import Derived.Test.YtfcjeoihfphphaaGreatDoorPtP2
import Derived.Test.YtfcjeoihfphphaaGreatDoorPtP8
set_option linter.unusedVariables false
set_option linter.unusedSimpArgs false
section
namespace Go.Proofs.YtfcjeoihfphphaaGreatDoor.PFlow
open Go.RowKit Go.Proofs.YtfcjeoihfphphaaGreatDoorW.PrintWords Go.Proofs.YtfcjeoihfphphaaGreatDoorW.PrintLast Go.Proofs.YtfcjeoihfphphaaGreatDoorW.PrintMore
attribute [local go_sem] max2_int min2_int max_two min_two max_three min_three max_four min_four   -- for this text's walks alone
set_option linter.unusedVariables false
set_option linter.unusedSimpArgs false
mutual
def q_Blocks.l0 : Nat → List (List Int) → Int → List (S58) → Option ((List (List Int)))
 | 0, _, _, _ => none
 | k + 1, x3, x4, x285000 => if x4 < (x285000.length : Int) then ((q_begins.f k x285000 x4).bind fun t289 => (if t289 = true then (q_Blocks.l1 k x3 x4 (([x4] : List Int)) x4 x285000) else (q_Blocks.l0 k x3 (wrap64 (x4 + 1)) x285000))) else (some x3)
def q_Blocks.l1 : Nat → List (List Int) → Int → List Int → Int → List (S58) → Option ((List (List Int)))
 | 0, _, _, _, _, _ => none
 | k + 1, x3, x4, x5, x6, x285000 => if 0 ≤ x6 then (if x6 < (x285000.length : Int) then (if (((rd_T58 x285000 x6).f2).length : Int) = 1 then (if 0 < (((rd_T58 x285000 x6).f2).length : Int) then ((q_begins.f k x285000 (rd ((rd_T58 x285000 x6).f2) 0)).bind fun t296 => (if t296 = true then (if x3.length < 5864062014805 then (q_Blocks.l0 k (x3 ++ [x5]) (wrap64 (x4 + 1)) x285000) else (none)) else (if x5.length < 17592186044416 then ((some (x5 ++ [rd ((rd_T58 x285000 x6).f2) 0] : List Int)).bind fun y302 => (if 0 ≤ (wrap64 ((y302.length : Int) - 1)) then (if (wrap64 ((y302.length : Int) - 1)) < (y302.length : Int) then (q_Blocks.l1 k x3 x4 y302 (rd y302 (wrap64 ((y302.length : Int) - 1))) x285000) else (none)) else (none))) else (none)))) else (none)) else (if x3.length < 5864062014805 then (q_Blocks.l0 k (x3 ++ [x5]) (wrap64 (x4 + 1)) x285000) else (none))) else (none)) else (none)
end
def q_Blocks.f (k : Nat) (l0_0 : List (S58)) : Option ((List (List Int))) := (some (([] : List (List Int)) : List (List Int))).bind fun y285 => ((q_Valid.f k l0_0).bind fun t288 => (if t288 = true then (q_Blocks.l0 k y285 0 l0_0) else (some y285)))
def q_Blocks.T10 : Bool × List (List Nat × List Nat) := (true, [([], []), ([0], [0]), ([], []), ([1, 2], [1, 2]), ([3], [3]), ([4], [4]), ([5], [5]), ([6], [6]), ([7], [7]), ([8], [8]), ([8], [8]), ([10, 8], [8, 10]), ([8], [8]), ([11, 12, 8], [8, 11, 12]), ([13, 8], [8, 13]), ([14, 8], [8, 14]), ([15, 8], [8, 15]), ([16, 8], [8, 16]), ([9, 17, 8, 8], [8, 9, 17]), ([18, 8], [8, 18]), ([8, 19], [8, 19])])
def q_Blocks.B10 : List Nat := [0, 1, 0, 7, 15, 31, 63, 127, 255, 511, 511, 1535, 511, 7679, 15871, 32255, 65023, 130559, 262143, 524287, 1048575]
theorem q_Blocks.tab10 : rtab .any (opsOf Tryz.f23 10) = q_Blocks.T10 := by kernel_rfl
theorem q_Blocks.bits10 : waitsOk q_Blocks.T10.2 q_Blocks.B10 = true := by kernel_rfl
set_option maxHeartbeats 8000000 in
set_option maxRecDepth 100000 in
theorem q_Blocks.calls (k : Nat) (A0_0 : Option Addr) (c0_0 : Nat) (l0_0 : List (S58)) (r : List (List Int)) (w : World) (hr0_0 : Kd.C k58 w A0_0 l0_0.length l0_0) (hc0_0 : l0_0.length ≤ c0_0) (h : q_Blocks.f k l0_0 = some r) :
 Calls Tryz.prog 23 #[.agg #[.slice A0_0 l0_0.length c0_0]] w fun e w' => ∃ v0_ : Value, e = .returned (v0_) ∧ Kd.S (Kd.slice 3 (Kd.int .i64)) 27 w' w.heap.size (fun _ => True) v0_ r ∧ Below w.heap.size w w' := by
 have hu36 := Tryz.underlying36
 have HR0_0 := am hr0_0
 have HC0_0 := am hc0_0
 clear hr0_0 hc0_0
 have HB := am (Below.refl w.heap.size w)
 have H : ((some (([] : List (List Int)) : List (List Int))).bind fun y285 => ((q_Valid.f k l0_0).bind fun t288 => (if t288 = true then (q_Blocks.l0 k y285 0 l0_0) else (some y285)))) = some r := h
 clear h
 obtain ⟨y285, hy285⟩ : ∃ y_ : List (List Int), y_ = (([] : List (List Int))) := ⟨_, rfl⟩
 replace H : ((q_Valid.f k l0_0).bind fun t288 => (if t288 = true then (q_Blocks.l0 k y285 0 l0_0) else (some y285))) = some r := by rw [hy285]; exact H
 have Ny285 := am hy285
 clear hy285
 replace H := Option.bind_eq_some_iff.mp H
 obtain ⟨t288, A20, H⟩ := H
 try dsimp only at H
 have A2 := am A20
 clear A20
 by_cases c3 : t288 = true
 rotate_left
 ·replace c3 := Bool.eq_false_iff.mpr c3
  subst c3
  rw [if_neg (show ¬ (false = true) by decide)] at H
  obtain rfl := Option.some.inj H
  go_enter Tryz.func23, Tryz.ntmps23
  go_wp2_with (first | ((with_reducible refine gate_dst (N := 1) rfl ?_); refine box_event ?hg (N := 1) ?hd (cs := #[.slice A0_0 l0_0.length c0_0]) (t := 36) ?hr ?_; (case hd => rfl); (case hg => rfl); (case hr => first | (go_simp; done) | (go_simp; rfl)); intro gb284 hg w43 hbox hb; have n0_ := am (below_step (HB.out) hb); have n1_ := am (hbox); have n2_ := am ((by rw [hg]; exact (below_size (HB.out)) : w.heap.size ≤ gb284)); have n3_ := am ((by rw [hg]; exact (below_size (HB.out)) : w.heap.size ≤ gb284)); clear HB; have HB := n0_; have BK284 := n1_; have GW284 := n2_; have GE284 := n3_; clear n0_ n1_ n2_ n3_; clear hb hbox hg) | ((with_reducible refine gate_dst (N := 7) rfl ?_); refine Kd.S_lit (Kd.slice 3 (Kd.int .i64)) _ 27 ?hg (N := 7) ?hd (xs := ([] : List (List Int))) (inner := []) (ok := fun _ => True) (okp := fun _ => True) ?hr ?hp (fun _ hk => hk) trivial (Below.refl _ _) (Nat.le_refl _) (by simp) ?_; (case hd => rfl); (case hg => rfl); (case hr => first | (go_simp; done) | (go_simp; rfl)); (case hp => exact (Reps.none _ _)); intro v286 w44 ho45 hb hg_ hnew_; clear hg_ hnew_; (first | rw [← Ny285.out] at ho45 | (simp only [Int.reduceToNat] at ho45; rw [← Ny285.out] at ho45)); have n0_ := am (Kd.S_lower ho45 (below_size (HB.out))); have n1_ := am (blk_below (g := gb284) (o := .cells #[.slice A0_0 l0_0.length c0_0] 36 (0, 0)) (BK284.out) hb); have n2_ := am (below_step (HB.out) hb); clear BK284; clear HB; have HO287 := n0_; have BK284 := n1_; have HB := n2_; clear n0_ n1_ n2_; clear hb ho45; have hcz46_0 : w44.cell? ⟨gb284, 0, none⟩ = some (.slice A0_0 l0_0.length c0_0) := (blk_cell BK284.out 0).trans rfl; have hfz46_0 := blk_frozen BK284.out 0) | ((with_reducible refine gate_callee (f := 24) rfl ?_); refine goesL_ (some 9) rfl rfl Tryz.func24 (by kernel_rfl) rfl #[.agg #[.slice A0_0 l0_0.length c0_0]] rfl (by (try simp only [List.map_toArray, List.map_cons, List.map_nil]); first | done | rfl | (simp only [List.length_drop, List.length_take]; rfl)) ?_; (with_reducible refine (q_Valid.calls k _ _ l0_0 false _ ?side1 ?side2 A2.out).mono ?_); (case side1 => repeat (first | exact (Kd.C_below HR0_0.out HB.out) | (with_reducible refine Kd.C_alloc ?_ _) | (with_reducible refine Kd.C_drewN ?_ _) | (with_reducible refine Kd.C_drew ?_))); (case side2 => exact HC0_0.out); rintro e w47 ⟨rfl, hb⟩; refine ⟨_, rfl, ?_⟩; have n0_ := am (Kd.S_below (HO287.out) hb); have n1_ := am (blk_below (g := gb284) (o := .cells #[.slice A0_0 l0_0.length c0_0] 36 (0, 0)) (BK284.out) hb); have n2_ := am (below_step (HB.out) hb); clear HO287; clear BK284; clear HB; have HO287 := n0_; have BK284 := n1_; have HB := n2_; clear n0_ n1_ n2_; (try clear hb); (try clear hb2); (try clear hk); (try clear hi)))
  go_ret
  exact ⟨_, rfl, by (with_reducible repeat (first | apply Kd.S_alloc | apply Kd.S_drewN | apply Kd.S_drew)); exact HO287.out, HB.out⟩
 subst c3
 rw [if_pos rfl] at H
 have H' := am H
 clear H
 go_enter Tryz.func23, Tryz.ntmps23
 go_wp2_with (first | ((with_reducible refine gate_dst (N := 1) rfl ?_); refine box_event ?hg (N := 1) ?hd (cs := #[.slice A0_0 l0_0.length c0_0]) (t := 36) ?hr ?_; (case hd => rfl); (case hg => rfl); (case hr => first | (go_simp; done) | (go_simp; rfl)); intro gb284 hg w4 hbox hb; have n0_ := am (below_step (HB.out) hb); have n1_ := am (hbox); have n2_ := am ((by rw [hg]; exact (below_size (HB.out)) : w.heap.size ≤ gb284)); have n3_ := am ((by rw [hg]; exact (below_size (HB.out)) : w.heap.size ≤ gb284)); clear HB; have HB := n0_; have BK284 := n1_; have GW284 := n2_; have GE284 := n3_; clear n0_ n1_ n2_ n3_; clear hb hbox hg) | ((with_reducible refine gate_dst (N := 7) rfl ?_); refine Kd.S_lit (Kd.slice 3 (Kd.int .i64)) _ 27 ?hg (N := 7) ?hd (xs := ([] : List (List Int))) (inner := []) (ok := fun _ => True) (okp := fun _ => True) ?hr ?hp (fun _ hk => hk) trivial (Below.refl _ _) (Nat.le_refl _) (by simp) ?_; (case hd => rfl); (case hg => rfl); (case hr => first | (go_simp; done) | (go_simp; rfl)); (case hp => exact (Reps.none _ _)); intro v286 w5 ho6 hb hg_ hnew_; clear hg_ hnew_; (first | rw [← Ny285.out] at ho6 | (simp only [Int.reduceToNat] at ho6; rw [← Ny285.out] at ho6)); have n0_ := am (Kd.S_lower ho6 (below_size (HB.out))); have n1_ := am (blk_below (g := gb284) (o := .cells #[.slice A0_0 l0_0.length c0_0] 36 (0, 0)) (BK284.out) hb); have n2_ := am (below_step (HB.out) hb); clear BK284; clear HB; have HO287 := n0_; have BK284 := n1_; have HB := n2_; clear n0_ n1_ n2_; clear hb ho6; have hcz7_0 : w5.cell? ⟨gb284, 0, none⟩ = some (.slice A0_0 l0_0.length c0_0) := (blk_cell BK284.out 0).trans rfl; have hfz7_0 := blk_frozen BK284.out 0) | ((with_reducible refine gate_callee (f := 24) rfl ?_); refine goesL_ (some 9) rfl rfl Tryz.func24 (by kernel_rfl) rfl #[.agg #[.slice A0_0 l0_0.length c0_0]] rfl (by (try simp only [List.map_toArray, List.map_cons, List.map_nil]); first | done | rfl | (simp only [List.length_drop, List.length_take]; rfl)) ?_; (with_reducible refine (q_Valid.calls k _ _ l0_0 true _ ?side1 ?side2 A2.out).mono ?_); (case side1 => repeat (first | exact (Kd.C_below HR0_0.out HB.out) | (with_reducible refine Kd.C_alloc ?_ _) | (with_reducible refine Kd.C_drewN ?_ _) | (with_reducible refine Kd.C_drew ?_))); (case side2 => exact HC0_0.out); rintro e w8 ⟨rfl, hb⟩; refine ⟨_, rfl, ?_⟩; have n0_ := am (Kd.S_below (HO287.out) hb); have n1_ := am (blk_below (g := gb284) (o := .cells #[.slice A0_0 l0_0.length c0_0] 36 (0, 0)) (BK284.out) hb); have n2_ := am (below_step (HB.out) hb); clear HO287; clear BK284; clear HB; have HO287 := n0_; have BK284 := n1_; have HB := n2_; clear n0_ n1_ n2_; (try clear hb); (try clear hb2); (try clear hk); (try clear hi)))
 go_loopg [3, 4] k (fun kq v3 v4 w' => ∃ (x3_1 : List (List Int)) (x4_1 : Int), v4 = .int .i64 x4_1 ∧ Aside0 (q_Blocks.l0 kq x3_1 x4_1 l0_0 = some r) ∧ Aside0 (kq ≤ k) ∧ Aside0 (Kd.S (Kd.slice 3 (Kd.int .i64)) 27 w' w.heap.size (fun _ => True) v3 x3_1) ∧ Aside0 (w'.heap[gb284]? = some (.cells #[(.slice A0_0 l0_0.length c0_0)] 36 (0, 0))) ∧ Aside0 (Below w.heap.size w w'))
 case atStart => exact ⟨(y285), (0), (rfl), H', ⟨Nat.le_refl _⟩, ⟨HO287.out⟩, ⟨BK284.out⟩, ⟨HB.out⟩⟩
 case round =>
  clear H'
  clear hcz7_0 hfz7_0
  obtain ⟨x3_1, x4_1, rfl, HA, HK1, HO_3, BK284, HB⟩ := hrel
  cases gk with
  | zero => exact absurd HA.out (by simp [q_Blocks.l0])
  | succ k1 =>
   have H := HA.out
   clear HA
   simp only [q_Blocks.l0] at H
   by_cases c9 : x4_1 < (l0_0.length : Int)
   rotate_left
   ·rw [if_neg c9] at H
    have c9b0 : decide (x4_1 < (l0_0.length : Int)) = false := decide_eq_false c9
    clear c9
    obtain rfl := Option.some.inj H
    have hcz42_0 : wr.cell? ⟨gb284, 0, none⟩ = some (.slice A0_0 l0_0.length c0_0) := (blk_cell BK284.out 0).trans rfl
    have hfz42_0 := blk_frozen BK284.out 0
    go_wp2
    go_ret
    exact ⟨_, rfl, by (with_reducible repeat (first | apply Kd.S_alloc | apply Kd.S_drewN | apply Kd.S_drew)); exact HO_3.out, HB.out⟩
   rw [if_pos c9] at H
   have c9b0 : decide (x4_1 < (l0_0.length : Int)) = true := decide_eq_true c9
   clear c9
   replace H := Option.bind_eq_some_iff.mp H
   obtain ⟨t289, A100, H⟩ := H
   try dsimp only at H
   have A10 := am A100
   clear A100
   by_cases c11 : t289 = true
   rotate_left
   ·replace c11 := Bool.eq_false_iff.mpr c11
    subst c11
    rw [if_neg (show ¬ (false = true) by decide)] at H
    have H' := am H
    clear H
    have hcz40_0 : wr.cell? ⟨gb284, 0, none⟩ = some (.slice A0_0 l0_0.length c0_0) := (blk_cell BK284.out 0).trans rfl
    have hfz40_0 := blk_frozen BK284.out 0
    go_wp2_with (first | ((with_reducible refine gate_callee (f := 44) rfl ?_); refine goesL_ (some 21) rfl rfl Tryz.func44 (by kernel_rfl) rfl #[.agg #[.slice A0_0 l0_0.length c0_0], .int .i64 x4_1] rfl (by (try simp only [List.map_toArray, List.map_cons, List.map_nil]); first | done | rfl | (simp only [List.length_drop, List.length_take]; rfl)) ?_; (with_reducible refine (q_begins.calls k1 _ _ l0_0 x4_1 false _ ?side1 ?side2 A10.out).mono ?_); (case side1 => repeat (first | exact (Kd.C_below HR0_0.out HB.out) | (with_reducible refine Kd.C_alloc ?_ _) | (with_reducible refine Kd.C_drewN ?_ _) | (with_reducible refine Kd.C_drew ?_))); (case side2 => exact HC0_0.out); rintro e w41 ⟨rfl, hb⟩; refine ⟨_, rfl, ?_⟩; have n0_ := am (Kd.S_below (HO_3.out) hb); have n1_ := am (blk_below (g := gb284) (o := .cells #[.slice A0_0 l0_0.length c0_0] 36 (0, 0)) (BK284.out) hb); have n2_ := am (below_step (HB.out) hb); clear HO_3; clear BK284; clear HB; have HO_3 := n0_; have BK284 := n1_; have HB := n2_; clear n0_ n1_ n2_; (try clear hb); (try clear hb2); (try clear hk); (try clear hi)))
    go_roundg k1
    case measure => have := HK1.out; omega
    case rel => exact ⟨(x3_1), (wrap64 (x4_1 + 1)), (rfl), H', ⟨by have := HK1.out; omega⟩, ⟨HO_3.out⟩, ⟨BK284.out⟩, ⟨HB.out⟩⟩
   subst c11
   rw [if_pos rfl] at H
   obtain ⟨y290, hy290⟩ : ∃ y_ : List Int, y_ = (([x4_1] : List Int)) := ⟨_, rfl⟩
   replace H : (q_Blocks.l1 k1 x3_1 x4_1 y290 x4_1 l0_0) = some r := by rw [hy290]; exact H
   have Ny290 := am hy290
   clear hy290
   have H' := am H
   clear H
   have hcz12_0 : wr.cell? ⟨gb284, 0, none⟩ = some (.slice A0_0 l0_0.length c0_0) := (blk_cell BK284.out 0).trans rfl
   have hfz12_0 := blk_frozen BK284.out 0
   go_wp2_with (first | ((with_reducible refine gate_callee (f := 44) rfl ?_); refine goesL_ (some 21) rfl rfl Tryz.func44 (by kernel_rfl) rfl #[.agg #[.slice A0_0 l0_0.length c0_0], .int .i64 x4_1] rfl (by (try simp only [List.map_toArray, List.map_cons, List.map_nil]); first | done | rfl | (simp only [List.length_drop, List.length_take]; rfl)) ?_; (with_reducible refine (q_begins.calls k1 _ _ l0_0 x4_1 true _ ?side1 ?side2 A10.out).mono ?_); (case side1 => repeat (first | exact (Kd.C_below HR0_0.out HB.out) | (with_reducible refine Kd.C_alloc ?_ _) | (with_reducible refine Kd.C_drewN ?_ _) | (with_reducible refine Kd.C_drew ?_))); (case side2 => exact HC0_0.out); rintro e w13 ⟨rfl, hb⟩; refine ⟨_, rfl, ?_⟩; have n0_ := am (Kd.S_below (HO_3.out) hb); have n1_ := am (blk_below (g := gb284) (o := .cells #[.slice A0_0 l0_0.length c0_0] 36 (0, 0)) (BK284.out) hb); have n2_ := am (below_step (HB.out) hb); clear HO_3; clear BK284; clear HB; have HO_3 := n0_; have BK284 := n1_; have HB := n2_; clear n0_ n1_ n2_; (try clear hb); (try clear hb2); (try clear hk); (try clear hi)) | ((with_reducible refine gate_dst (N := 24) rfl ?_); refine Kd.R_lit (Kd.int .i64) _ 3 ?hg (N := 24) ?hd (xs := ([x4_1] : List Int)) (inner := [.int .i64 x4_1]) (ok := fun _ => True) (okp := fun _ => True) ?hr ?hp (fun _ hk => hk) trivial (Below.refl _ _) (Nat.le_refl _) (by simp) ?_; (case hd => rfl); (case hg => rfl); (case hr => first | (go_simp; done) | (go_simp; rfl)); (case hp => exact (Reps.one (show Kd.M (Kd.int .i64) _ _ _ x4_1 [.int .i64 x4_1] from rfl) (Reps.none _ _))); intro v291 w14 ho15 hb hg_ hnew_; clear hg_ hnew_; (first | rw [← Ny290.out] at ho15 | (simp only [Int.reduceToNat] at ho15; rw [← Ny290.out] at ho15)); have n0_ := am (Kd.S_elder' (HO_3.out) (Kd.R_base ho15) hb); have n1_ := am (Kd.R_lower ho15 (below_size (HB.out))); have n2_ := am (blk_below (g := gb284) (o := .cells #[.slice A0_0 l0_0.length c0_0] 36 (0, 0)) (BK284.out) hb); have n3_ := am (below_step (HB.out) hb); clear HO_3; clear BK284; clear HB; have HO_3 := n0_; have HO292 := n1_; have BK284 := n2_; have HB := n3_; clear n0_ n1_ n2_ n3_; clear hb ho15))
   go_loopg [5, 6] k1 (fun kq v5 v6 w' => ∃ (x5_2 : List Int) (x6_2 : Int), v6 = .int .i64 x6_2 ∧ Aside0 (q_Blocks.l1 kq x3_1 x4_1 x5_2 x6_2 l0_0 = some r) ∧ Aside0 (kq ≤ k1) ∧ Aside0 (Kd.S (Kd.slice 3 (Kd.int .i64)) 27 w' w.heap.size (fun k_ => some k_ ≠ (v5 : Value).ownBlock) u3 x3_1) ∧ Aside0 (Kd.R (Kd.int .i64) 3 w' w.heap.size (fun _ => True) v5 x5_2) ∧ Aside0 (w'.heap[gb284]? = some (.cells #[(.slice A0_0 l0_0.length c0_0)] 36 (0, 0))) ∧ Aside0 (Below w.heap.size w w'))
   case atStart => exact ⟨(y290), (x4_1), (rfl), H', ⟨Nat.le_refl _⟩, ⟨Kd.S_mono HO_3.out (fun _ hk => hk.2)⟩, ⟨HO292.out⟩, ⟨BK284.out⟩, ⟨HB.out⟩⟩
   case round =>
    clear H'
    clear c9b0 hcz12_0 hfz12_0
    obtain ⟨x5_2, x6_2, rfl, HA, HK2, HO_3, HO_5, BK284, HB⟩ := hrel
    cases gk with
    | zero => exact absurd HA.out (by simp [q_Blocks.l1])
    | succ k2 =>
     have H := HA.out
     clear HA
     simp only [q_Blocks.l1] at H
     by_cases c16 : 0 ≤ x6_2
     rotate_left
     ·rw [if_neg c16] at H
      exact absurd H (by simp)
     rw [if_pos c16] at H
     have c16b0 : decide (0 ≤ x6_2) = true := decide_eq_true c16
     clear c16
     by_cases c17 : x6_2 < (l0_0.length : Int)
     rotate_left
     ·rw [if_neg c17] at H
      exact absurd H (by simp)
     rw [if_pos c17] at H
     have c17b0 : decide (x6_2 < (l0_0.length : Int)) = true := decide_eq_true c17
     clear c17
     by_cases c18 : (((rd_T58 l0_0 x6_2).f2).length : Int) = 1
     rotate_left
     ·rw [if_neg c18] at H
      have c18b0 : ((((rd_T58 l0_0 x6_2).f2).length : Int) == 1) = false := beq_eq_false_iff_ne.mpr c18
      have c18b1 : ((((rd_T58 l0_0 x6_2).f2).length : Int) != 1) = true := bne_iff_ne.mpr c18
      by_cases c36 : x3_1.length < 5864062014805
      rotate_left
      ·rw [if_neg c36] at H
       exact absurd H (by simp)
      rw [if_pos c36] at H
      have LMc36 := am c36
      clear c36
      obtain ⟨y306, hy306⟩ : ∃ y_ : List (List Int), y_ = (x3_1 ++ [x5_2]) := ⟨_, rfl⟩
      replace H : (q_Blocks.l0 k2 y306 (wrap64 (x4_1 + 1)) l0_0) = some r := by rw [hy306]; exact H
      have Ny306 := am hy306
      clear hy306
      have H' := am H
      clear H
      try go_wp2
      have n0_ := am (Kd.S_drew HO_3.out)
      have n1_ := am (Kd.R_drew HO_5.out)
      have n2_ := am (blk_drew BK284.out)
      have n3_ := am (below_drew1 HB.out)
      clear HO_3 HO_5 BK284 HB
      have HO_3 := n0_
      have HO_5 := n1_
      have BK284 := n2_
      have HB := n3_
      clear n0_ n1_ n2_ n3_
      have p293 : 0 ≤ (x6_2 : Int) := odt ‹_›
      have q293 : x6_2 < (l0_0.length : Int) := odt ‹_›
      obtain ⟨ad293, A293_2, c293_2, e293, hx293_0, hx293_1, hx293_2, hl293_2, hi293_2⟩ := at_T58 HR0_0.out x6_2 p293 q293
      have hw293_2 := hx293_2
      have hw293_1 := hx293_1
      have hw293_0 := hx293_0
      cases e293
      replace hx293_0 := (HB.out.cell (blc w _ hx293_0)).trans hx293_0
      replace hx293_1 := (HB.out.cell (blc w _ hx293_1)).trans hx293_1
      replace hx293_2 := (HB.out.cell (blc w _ hx293_2)).trans hx293_2
      have HR293_2 := am hi293_2
      have HC293_2 := am hl293_2
      clear hi293_2 hl293_2
      replace p293 := eq_true p293
      replace q293 := eq_true q293
      refine start_ (n := 21) (S := fun w' => w'.cell? ⟨gb284, 0, none⟩ = some (.slice (some ad293) l0_0.length c0_0) ∧ w'.cell? (ad293.add ((x6_2).toNat * 3)) = some (.int .i64 ((rd_T58 l0_0 x6_2).f0)) ∧ w'.cell? ⟨(ad293.add ((x6_2).toNat * 3)).block, (ad293.add ((x6_2).toNat * 3)).off + 1, none⟩ = some (.int .i64 ((rd_T58 l0_0 x6_2).f1)) ∧ w'.cell? ⟨(ad293.add ((x6_2).toNat * 3)).block, (ad293.add ((x6_2).toNat * 3)).off + 2, none⟩ = some (.slice A293_2 ((rd_T58 l0_0 x6_2).f2).length c293_2)) (ds := []) #[false, false, false, false, false, false, false, false, false, false, false, false, false, false, false, false, false, false, false, false, false] (by kernel_rfl) rfl rfl ⟨(blk_cell BK284.out 0).trans rfl, ((HB.out.cell (blc w _ hw293_0)).trans hw293_0), ((HB.out.cell (blc w _ hw293_1)).trans hw293_1), ((HB.out.cell (blc w _ hw293_2)).trans hw293_2)⟩ (fun hHeld => ?_); refine with_tabW q_Blocks.tab10 q_Blocks.bits10 (fun HT_ HW_ => ?_)
      generalize wr.drew = w37 at HO_3 HO_5 BK284 HB HR293_2 hx293_0 hx293_1 hx293_2 hHeld ⊢
      refine pure_ (i := 0) (N := some 26) (v := ?_) (a' := ?_) #[true, false, false, false, false, false, false, false, false, false, false, false, false, false, false, false, false, false, false, false, false] rfl rfl (any_of HT_.out (by kernel_rfl)) (fun _ _ _ h => h) (Or.inl ⟨by rfl, ?_⟩) ?_ ?_
      rotate_left
      ·intro w'
       go_simp
       with_reducible rfl
      rotate_left
      ·simp only [Act.put, List.setIfInBounds_toArray, List.set_cons_zero, List.set_cons_succ, i64_w, i32_w]
       rfl
      refine pure_ (i := 2) (N := some 28) (v := ?_) (a' := ?_) #[true, false, true, false, false, false, false, false, false, false, false, false, false, false, false, false, false, false, false, false, false] rfl rfl (any_of HT_.out (by kernel_rfl)) (fun _ _ _ h => h) (Or.inl ⟨by rfl, ?_⟩) ?_ ?_
      rotate_left
      ·intro w'
       go_simp
       with_reducible rfl
      rotate_left
      ·simp only [Act.put, List.setIfInBounds_toArray, List.set_cons_zero, List.set_cons_succ, i64_w, i32_w]
       rfl
      refine take_ (i := 1) (N := some 27) (v := ?_) (a' := ?_) #[true, true, true, false, false, false, false, false, false, false, false, false, false, false, false, false, false, false, false, false, false] rfl rfl (take_ofW HT_.out HW_.out (by kernel_rfl)) (fun _ _ _ h => h) (Or.inl ⟨by rfl, ?_⟩) hHeld ?_ ?_
      rotate_left
      ·rintro w' ⟨s0, s1, s2, s3⟩
       go_simp
       with_reducible rfl
      rotate_left
      ·simp only [Act.put, List.setIfInBounds_toArray, List.set_cons_zero, List.set_cons_succ, i64_w, i32_w]
       rfl
      refine pure_ (i := 3) (N := some 29) (v := ?_) (a' := ?_) #[true, true, true, true, false, false, false, false, false, false, false, false, false, false, false, false, false, false, false, false, false] rfl rfl (any_of HT_.out (by kernel_rfl)) (fun _ _ _ h => h) (Or.inl ⟨by rfl, ?_⟩) ?_ ?_
      rotate_left
      ·intro w'
       go_simp
       with_reducible rfl
      rotate_left
      ·simp only [Act.put, List.setIfInBounds_toArray, List.set_cons_zero, List.set_cons_succ, i64_w, i32_w]
       rfl
      refine pure_ (i := 4) (N := some 30) (v := ?_) (a' := ?_) #[true, true, true, true, true, false, false, false, false, false, false, false, false, false, false, false, false, false, false, false, false] rfl rfl (any_of HT_.out (by kernel_rfl)) (fun _ _ _ h => h) (Or.inl ⟨by rfl, ?_⟩) ?_ ?_
      rotate_left
      ·intro w'
       go_simp
       with_reducible rfl
      rotate_left
      ·simp only [Act.put, List.setIfInBounds_toArray, List.set_cons_zero, List.set_cons_succ, i64_w, i32_w]
       rfl
      refine take_ (i := 5) (N := some 31) (v := ?_) (a' := ?_) #[true, true, true, true, true, true, false, false, false, false, false, false, false, false, false, false, false, false, false, false, false] rfl rfl (take_ofW HT_.out HW_.out (by kernel_rfl)) (fun _ _ _ h => h) (Or.inl ⟨by rfl, ?_⟩) hHeld ?_ ?_
      rotate_left
      ·rintro w' ⟨s0, s1, s2, s3⟩
       go_simp
       with_reducible rfl
      rotate_left
      ·simp only [Act.put, List.setIfInBounds_toArray, List.set_cons_zero, List.set_cons_succ, i64_w, i32_w]
       rfl
      refine pure_ (i := 6) (N := some 32) (v := ?_) (a' := ?_) #[true, true, true, true, true, true, true, false, false, false, false, false, false, false, false, false, false, false, false, false, false] rfl rfl (any_of HT_.out (by kernel_rfl)) (fun _ _ _ h => h) (Or.inl ⟨by rfl, ?_⟩) ?_ ?_
      rotate_left
      ·intro w'
       go_simp
       with_reducible rfl
      rotate_left
      ·simp only [Act.put, List.setIfInBounds_toArray, List.set_cons_zero, List.set_cons_succ, i64_w, i32_w]
       rfl
      refine pure_ (i := 7) (N := some 33) (v := ?_) (a' := ?_) #[true, true, true, true, true, true, true, true, false, false, false, false, false, false, false, false, false, false, false, false, false] rfl rfl (any_of HT_.out (by kernel_rfl)) (fun _ _ _ h => h) (Or.inl ⟨by rfl, ?_⟩) ?_ ?_
      rotate_left
      ·intro w'
       go_simp
       with_reducible rfl
      rotate_left
      ·simp only [Act.put, List.setIfInBounds_toArray, List.set_cons_zero, List.set_cons_succ, i64_w, i32_w]
       rfl
      refine pure_ (i := 8) (N := some 34) (v := ?_) (a' := ?_) #[true, true, true, true, true, true, true, true, true, false, false, false, false, false, false, false, false, false, false, false, false] rfl rfl (any_of HT_.out (by kernel_rfl)) (fun _ _ _ h => h) (Or.inl ⟨by rfl, ?_⟩) ?_ ?_
      rotate_left
      ·intro w'
       go_simp
       with_reducible rfl
      rotate_left
      ·simp only [Act.put, List.setIfInBounds_toArray, List.set_cons_zero, List.set_cons_succ, i64_w, i32_w]
       rfl
      refine pure_ (i := 9) (N := some 35) (v := undef) (a' := ?_) #[true, true, true, true, true, true, true, true, true, true, false, false, false, false, false, false, false, false, false, false, false] rfl rfl (any_of HT_.out (by kernel_rfl)) (fun _ _ _ h => h) (Or.inr ⟨by rfl, rfl⟩) ?_ ?_
      rotate_left
      ·simp only [Act.put, List.setIfInBounds_toArray, List.set_cons_zero, List.set_cons_succ, i64_w, i32_w]
       rfl
      refine pure_ (i := 10) (N := some 36) (v := undef) (a' := ?_) #[true, true, true, true, true, true, true, true, true, true, true, false, false, false, false, false, false, false, false, false, false] rfl rfl (any_of HT_.out (by kernel_rfl)) (fun _ _ _ h => h) (Or.inr ⟨by rfl, rfl⟩) ?_ ?_
      rotate_left
      ·simp only [Act.put, List.setIfInBounds_toArray, List.set_cons_zero, List.set_cons_succ, i64_w, i32_w]
       rfl
      refine pure_ (i := 11) (N := some 37) (v := undef) (a' := ?_) #[true, true, true, true, true, true, true, true, true, true, true, true, false, false, false, false, false, false, false, false, false] rfl rfl (any_of HT_.out (by kernel_rfl)) (fun _ _ _ h => h) (Or.inr ⟨by rfl, rfl⟩) ?_ ?_
      rotate_left
      ·simp only [Act.put, List.setIfInBounds_toArray, List.set_cons_zero, List.set_cons_succ, i64_w, i32_w]
       rfl
      refine pure_ (i := 12) (N := some 38) (v := undef) (a' := ?_) #[true, true, true, true, true, true, true, true, true, true, true, true, true, false, false, false, false, false, false, false, false] rfl rfl (any_of HT_.out (by kernel_rfl)) (fun _ _ _ h => h) (Or.inr ⟨by rfl, rfl⟩) ?_ ?_
      rotate_left
      ·simp only [Act.put, List.setIfInBounds_toArray, List.set_cons_zero, List.set_cons_succ, i64_w, i32_w]
       rfl
      refine pure_ (i := 13) (N := some 39) (v := undef) (a' := ?_) #[true, true, true, true, true, true, true, true, true, true, true, true, true, true, false, false, false, false, false, false, false] rfl rfl (any_of HT_.out (by kernel_rfl)) (fun _ _ _ h => h) (Or.inr ⟨by rfl, rfl⟩) ?_ ?_
      rotate_left
      ·simp only [Act.put, List.setIfInBounds_toArray, List.set_cons_zero, List.set_cons_succ, i64_w, i32_w]
       rfl
      refine pure_ (i := 14) (N := some 40) (v := undef) (a' := ?_) #[true, true, true, true, true, true, true, true, true, true, true, true, true, true, true, false, false, false, false, false, false] rfl rfl (any_of HT_.out (by kernel_rfl)) (fun _ _ _ h => h) (Or.inr ⟨by rfl, rfl⟩) ?_ ?_
      rotate_left
      ·simp only [Act.put, List.setIfInBounds_toArray, List.set_cons_zero, List.set_cons_succ, i64_w, i32_w]
       rfl
      refine pure_ (i := 15) (N := some 41) (v := undef) (a' := ?_) #[true, true, true, true, true, true, true, true, true, true, true, true, true, true, true, true, false, false, false, false, false] rfl rfl (any_of HT_.out (by kernel_rfl)) (fun _ _ _ h => h) (Or.inr ⟨by rfl, rfl⟩) ?_ ?_
      rotate_left
      ·simp only [Act.put, List.setIfInBounds_toArray, List.set_cons_zero, List.set_cons_succ, i64_w, i32_w]
       rfl
      refine pure_ (i := 16) (N := some 42) (v := undef) (a' := ?_) #[true, true, true, true, true, true, true, true, true, true, true, true, true, true, true, true, true, false, false, false, false] rfl rfl (any_of HT_.out (by kernel_rfl)) (fun _ _ _ h => h) (Or.inr ⟨by rfl, rfl⟩) ?_ ?_
      rotate_left
      ·simp only [Act.put, List.setIfInBounds_toArray, List.set_cons_zero, List.set_cons_succ, i64_w, i32_w]
       rfl
      refine pure_ (i := 17) (N := some 43) (v := undef) (a' := ?_) #[true, true, true, true, true, true, true, true, true, true, true, true, true, true, true, true, true, true, false, false, false] rfl rfl (any_of HT_.out (by kernel_rfl)) (fun _ _ _ h => h) (Or.inr ⟨by rfl, rfl⟩) ?_ ?_
      rotate_left
      ·simp only [Act.put, List.setIfInBounds_toArray, List.set_cons_zero, List.set_cons_succ, i64_w, i32_w]
       rfl
      refine pure_ (i := 18) (N := some 44) (v := undef) (a' := ?_) #[true, true, true, true, true, true, true, true, true, true, true, true, true, true, true, true, true, true, true, false, false] rfl rfl (any_of HT_.out (by kernel_rfl)) (fun _ _ _ h => h) (Or.inr ⟨by rfl, rfl⟩) ?_ ?_
      rotate_left
      ·simp only [Act.put, List.setIfInBounds_toArray, List.set_cons_zero, List.set_cons_succ, i64_w, i32_w]
       rfl
      refine pure_ (i := 19) (N := some 45) (v := undef) (a' := ?_) #[true, true, true, true, true, true, true, true, true, true, true, true, true, true, true, true, true, true, true, true, false] rfl rfl (any_of HT_.out (by kernel_rfl)) (fun _ _ _ h => h) (Or.inr ⟨by rfl, rfl⟩) ?_ ?_
      rotate_left
      ·simp only [Act.put, List.setIfInBounds_toArray, List.set_cons_zero, List.set_cons_succ, i64_w, i32_w]
       rfl
      refine pure_ (i := 20) (N := some 46) (v := ?_) (a' := ?_) #[true, true, true, true, true, true, true, true, true, true, true, true, true, true, true, true, true, true, true, true, true] rfl rfl (any_of HT_.out (by kernel_rfl)) (fun _ _ _ h => h) (Or.inl ⟨by rfl, ?_⟩) ?_ ?_
      rotate_left
      ·intro w'
       go_simp
       with_reducible rfl
      rotate_left
      ·simp only [Act.put, List.setIfInBounds_toArray, List.set_cons_zero, List.set_cons_succ, i64_w, i32_w]
       rfl
      refine done_ (done_of HT_.out (by kernel_rfl)) ?_
      obtain ⟨Ao39, co39, eo39⟩ := Kd.R_slice HO_5.out
      subst eo39
      try go_wp2_with (first | ((with_reducible refine gate_builtin (b := .append) (xs := #[.tmp 64, .tmp 66]) rfl ?_); at_builtin; refine Kd.S_append (Kd.slice 3 (Kd.int .i64)) (w0 := w) w.heap.size rfl (.tmp 64) (.tmp 66) 46 27 (.slice none 0 0) 24 rfl Tryz.underlying46 info27 rfl (by decide) (by omega) u3 x3_1 x5_2 [.slice Ao39 x5_2.length co39] (fun _ => True) (fun k_ => some k_ = (.slice Ao39 x5_2.length co39 : Value).ownBlock) rfl rfl ?aP (fun k_ hk_ => ((Kd.R_mono (ok' := fun k_ => ((fun _ => True)) k_ ∧ some k_ ≠ (u3 : Value).ownBlock) (Kd.R_apart' (HO_5.out) (Kd.S_typed HO_3.out) (by decide)) (fun k_ hk => ⟨trivial, hk.2⟩))).1 k_ hk_.symm) ?aF ?aO ?aB ?aS ?aL ?_; (case aP => exact Kd.M_row (Kd.R_mono (Kd.R_tight rfl (Kd.R_mono (ok' := fun k_ => ((fun _ => True)) k_ ∧ some k_ ≠ (u3 : Value).ownBlock) (Kd.R_apart' (HO_5.out) (Kd.S_typed HO_3.out) (by decide)) (fun k_ hk => ⟨trivial, hk.2⟩))) (fun _ h_ => h_))); (case aB => exact (HB.out)); (case aF => exact (fun _ _ => trivial)); (case aO => exact (by (with_reducible repeat (first | apply Kd.S_alloc | apply Kd.S_drewN | apply Kd.S_drew)); exact Kd.S_mono HO_3.out (fun k_ hk => ⟨trivial, fun e_ => hk e_⟩))); (case aS => exact (below_size (HB.out))); (case aL => have := LMc36.out; omega); intro v307 w38 ho hb hg hat; rw [← Ny306.out] at ho; have n0_ := am (blk_grown (g := gb284) (o := .cells #[.slice (some ad293) l0_0.length c0_0] 36 (0, 0)) (BK284.out) hg (Kd.S_ne HO_3.out BK284.out (by decide))); have n1_ := am (hb); have n2_ := am (ho); clear BK284; clear HB; clear HO_3; clear HO_5; have BK284 := n0_; have HB := n1_; have HO308 := n2_; clear n0_ n1_ n2_; clear ho hb hg hat))
      go_roundg k2
      case measure => have := HK1.out; have := HK2.out; omega
      case rel => exact ⟨(y306), (wrap64 (x4_1 + 1)), (rfl), H', ⟨by have := HK1.out; have := HK2.out; omega⟩, ⟨HO308.out⟩, ⟨BK284.out⟩, ⟨HB.out⟩⟩
     rw [if_pos c18] at H
     have c18b0 : ((((rd_T58 l0_0 x6_2).f2).length : Int) == 1) = true := beq_iff_eq.mpr c18
     have c18b1 : ((((rd_T58 l0_0 x6_2).f2).length : Int) != 1) = false := bne_eq_false_iff_eq.mpr c18
     clear c18
     by_cases c19 : 0 < (((rd_T58 l0_0 x6_2).f2).length : Int)
     rotate_left
     ·rw [if_neg c19] at H
      exact absurd H (by simp)
     rw [if_pos c19] at H
     have c19b0 : decide (0 < (((rd_T58 l0_0 x6_2).f2).length : Int)) = true := decide_eq_true c19
     have c19b1 : decide (0 < ((rd_T58 l0_0 x6_2).f2).length) = true := decide_eq_true (by omega)
     clear c19
     replace H := Option.bind_eq_some_iff.mp H
     obtain ⟨t296, A200, H⟩ := H
     try dsimp only at H
     have A20 := am A200
     clear A200
     by_cases c21 : t296 = true
     ·subst c21
      rw [if_pos rfl] at H
      by_cases c22 : x3_1.length < 5864062014805
      rotate_left
      ·rw [if_neg c22] at H
       exact absurd H (by simp)
      rw [if_pos c22] at H
      have LMc22 := am c22
      clear c22
      obtain ⟨y297, hy297⟩ : ∃ y_ : List (List Int), y_ = (x3_1 ++ [x5_2]) := ⟨_, rfl⟩
      replace H : (q_Blocks.l0 k2 y297 (wrap64 (x4_1 + 1)) l0_0) = some r := by rw [hy297]; exact H
      have Ny297 := am hy297
      clear hy297
      have H' := am H
      clear H
      try go_wp2
      have n0_ := am (Kd.S_drew HO_3.out)
      have n1_ := am (Kd.R_drew HO_5.out)
      have n2_ := am (blk_drew BK284.out)
      have n3_ := am (below_drew1 HB.out)
      clear HO_3 HO_5 BK284 HB
      have HO_3 := n0_
      have HO_5 := n1_
      have BK284 := n2_
      have HB := n3_
      clear n0_ n1_ n2_ n3_
      have p293 : 0 ≤ (x6_2 : Int) := odt ‹_›
      have q293 : x6_2 < (l0_0.length : Int) := odt ‹_›
      obtain ⟨ad293, A293_2, c293_2, e293, hx293_0, hx293_1, hx293_2, hl293_2, hi293_2⟩ := at_T58 HR0_0.out x6_2 p293 q293
      have hw293_2 := hx293_2
      have hw293_1 := hx293_1
      have hw293_0 := hx293_0
      cases e293
      replace hx293_0 := (HB.out.cell (blc w _ hx293_0)).trans hx293_0
      replace hx293_1 := (HB.out.cell (blc w _ hx293_1)).trans hx293_1
      replace hx293_2 := (HB.out.cell (blc w _ hx293_2)).trans hx293_2
      have HR293_2 := am hi293_2
      have HC293_2 := am hl293_2
      clear hi293_2 hl293_2
      replace p293 := eq_true p293
      replace q293 := eq_true q293
      have p294 : 0 ≤ (x6_2 : Int) := odt ‹_›
      have q294 : x6_2 < (l0_0.length : Int) := odt ‹_›
      obtain ⟨ad294, A294_2, c294_2, e294, hx294_0, hx294_1, hx294_2, hl294_2, hi294_2⟩ := at_T58 HR0_0.out x6_2 p294 q294
      have hw294_2 := hx294_2
      have hw294_1 := hx294_1
      have hw294_0 := hx294_0
      obtain rfl : ad293 = ad294 := (by injection e294)
      replace hx294_0 := (HB.out.cell (blc w _ hx294_0)).trans hx294_0
      replace hx294_1 := (HB.out.cell (blc w _ hx294_1)).trans hx294_1
      replace hx294_2 := (HB.out.cell (blc w _ hx294_2)).trans hx294_2
      have HR294_2 := am hi294_2
      have HC294_2 := am hl294_2
      clear hi294_2 hl294_2
      replace p294 := eq_true p294
      replace q294 := eq_true q294
      have ea_ := Option.some.inj (hx293_2.symm.trans hx294_2)
      injection ea_ with ea_ en_ ec_
      subst ea_
      subst ec_
      clear en_
      have p295 : 0 ≤ (0 : Int) := (by omega)
      have q295 : 0 < (((rd_T58 l0_0 x6_2).f2).length : Int) := odt ‹_›
      obtain ⟨ad295, e295, hx295_0⟩ := Kd.at_int HR294_2.out 0 p295 q295
      have hw295_0 := hx295_0
      (try rw [show ((0 : Int)).toNat = 0 from rfl] at hw295_0)
      (try rw [show 0 * 1 = 0 from rfl] at hw295_0)
      (try rw [Addr.add_zero'] at hw295_0)
      cases e295
      have qi295 : (0 < ((rd_T58 l0_0 x6_2).f2).length) = True := eq_true (by omega)
      (try rw [show ((0 : Int)).toNat = 0 from rfl] at hx295_0)
      (try rw [Addr.add_zero'] at hx295_0)
      replace hx295_0 := (HB.out.cell (blc w _ hx295_0)).trans hx295_0
      replace p295 := eq_true p295
      replace q295 := eq_true q295
      refine start_ (n := 21) (S := fun w' => w'.cell? ⟨gb284, 0, none⟩ = some (.slice (some ad293) l0_0.length c0_0) ∧ w'.cell? (ad293.add ((x6_2).toNat * 3)) = some (.int .i64 ((rd_T58 l0_0 x6_2).f0)) ∧ w'.cell? ⟨(ad293.add ((x6_2).toNat * 3)).block, (ad293.add ((x6_2).toNat * 3)).off + 1, none⟩ = some (.int .i64 ((rd_T58 l0_0 x6_2).f1)) ∧ w'.cell? ⟨(ad293.add ((x6_2).toNat * 3)).block, (ad293.add ((x6_2).toNat * 3)).off + 2, none⟩ = some (.slice (some ad295) ((rd_T58 l0_0 x6_2).f2).length c293_2) ∧ w'.cell? (ad293.add ((x6_2).toNat * 3)) = some (.int .i64 ((rd_T58 l0_0 x6_2).f0)) ∧ w'.cell? ⟨(ad293.add ((x6_2).toNat * 3)).block, (ad293.add ((x6_2).toNat * 3)).off + 1, none⟩ = some (.int .i64 ((rd_T58 l0_0 x6_2).f1)) ∧ w'.cell? ⟨(ad293.add ((x6_2).toNat * 3)).block, (ad293.add ((x6_2).toNat * 3)).off + 2, none⟩ = some (.slice (some ad295) ((rd_T58 l0_0 x6_2).f2).length c293_2) ∧ w'.cell? ad295 = some (.int .i64 (rd ((rd_T58 l0_0 x6_2).f2) 0))) (ds := []) #[false, false, false, false, false, false, false, false, false, false, false, false, false, false, false, false, false, false, false, false, false] (by kernel_rfl) rfl rfl ⟨(blk_cell BK284.out 0).trans rfl, ((HB.out.cell (blc w _ hw293_0)).trans hw293_0), ((HB.out.cell (blc w _ hw293_1)).trans hw293_1), ((HB.out.cell (blc w _ hw293_2)).trans hw293_2), ((HB.out.cell (blc w _ hw294_0)).trans hw294_0), ((HB.out.cell (blc w _ hw294_1)).trans hw294_1), ((HB.out.cell (blc w _ hw294_2)).trans hw294_2), ((HB.out.cell (blc w _ hw295_0)).trans hw295_0)⟩ (fun hHeld => ?_); refine with_tabW q_Blocks.tab10 q_Blocks.bits10 (fun HT_ HW_ => ?_)
      generalize wr.drew = w23 at HO_3 HO_5 BK284 HB HR293_2 HR294_2 hx293_0 hx293_1 hx293_2 hx294_0 hx294_1 hx294_2 hx295_0 hHeld ⊢
      refine pure_ (i := 0) (N := some 26) (v := ?_) (a' := ?_) #[true, false, false, false, false, false, false, false, false, false, false, false, false, false, false, false, false, false, false, false, false] rfl rfl (any_of HT_.out (by kernel_rfl)) (fun _ _ _ h => h) (Or.inl ⟨by rfl, ?_⟩) ?_ ?_
      rotate_left
      ·intro w'
       go_simp
       with_reducible rfl
      rotate_left
      ·simp only [Act.put, List.setIfInBounds_toArray, List.set_cons_zero, List.set_cons_succ, i64_w, i32_w]
       rfl
      refine pure_ (i := 2) (N := some 28) (v := ?_) (a' := ?_) #[true, false, true, false, false, false, false, false, false, false, false, false, false, false, false, false, false, false, false, false, false] rfl rfl (any_of HT_.out (by kernel_rfl)) (fun _ _ _ h => h) (Or.inl ⟨by rfl, ?_⟩) ?_ ?_
      rotate_left
      ·intro w'
       go_simp
       with_reducible rfl
      rotate_left
      ·simp only [Act.put, List.setIfInBounds_toArray, List.set_cons_zero, List.set_cons_succ, i64_w, i32_w]
       rfl
      refine take_ (i := 1) (N := some 27) (v := ?_) (a' := ?_) #[true, true, true, false, false, false, false, false, false, false, false, false, false, false, false, false, false, false, false, false, false] rfl rfl (take_ofW HT_.out HW_.out (by kernel_rfl)) (fun _ _ _ h => h) (Or.inl ⟨by rfl, ?_⟩) hHeld ?_ ?_
      rotate_left
      ·rintro w' ⟨s0, s1, s2, s3, s4, s5, s6, s7⟩
       go_simp
       with_reducible rfl
      rotate_left
      ·simp only [Act.put, List.setIfInBounds_toArray, List.set_cons_zero, List.set_cons_succ, i64_w, i32_w]
       rfl
      refine pure_ (i := 3) (N := some 29) (v := ?_) (a' := ?_) #[true, true, true, true, false, false, false, false, false, false, false, false, false, false, false, false, false, false, false, false, false] rfl rfl (any_of HT_.out (by kernel_rfl)) (fun _ _ _ h => h) (Or.inl ⟨by rfl, ?_⟩) ?_ ?_
      rotate_left
      ·intro w'
       go_simp
       with_reducible rfl
      rotate_left
      ·simp only [Act.put, List.setIfInBounds_toArray, List.set_cons_zero, List.set_cons_succ, i64_w, i32_w]
       rfl
      refine pure_ (i := 4) (N := some 30) (v := ?_) (a' := ?_) #[true, true, true, true, true, false, false, false, false, false, false, false, false, false, false, false, false, false, false, false, false] rfl rfl (any_of HT_.out (by kernel_rfl)) (fun _ _ _ h => h) (Or.inl ⟨by rfl, ?_⟩) ?_ ?_
      rotate_left
      ·intro w'
       go_simp
       with_reducible rfl
      rotate_left
      ·simp only [Act.put, List.setIfInBounds_toArray, List.set_cons_zero, List.set_cons_succ, i64_w, i32_w]
       rfl
      refine take_ (i := 5) (N := some 31) (v := ?_) (a' := ?_) #[true, true, true, true, true, true, false, false, false, false, false, false, false, false, false, false, false, false, false, false, false] rfl rfl (take_ofW HT_.out HW_.out (by kernel_rfl)) (fun _ _ _ h => h) (Or.inl ⟨by rfl, ?_⟩) hHeld ?_ ?_
      rotate_left
      ·rintro w' ⟨s0, s1, s2, s3, s4, s5, s6, s7⟩
       go_simp
       with_reducible rfl
      rotate_left
      ·simp only [Act.put, List.setIfInBounds_toArray, List.set_cons_zero, List.set_cons_succ, i64_w, i32_w]
       rfl
      refine pure_ (i := 6) (N := some 32) (v := ?_) (a' := ?_) #[true, true, true, true, true, true, true, false, false, false, false, false, false, false, false, false, false, false, false, false, false] rfl rfl (any_of HT_.out (by kernel_rfl)) (fun _ _ _ h => h) (Or.inl ⟨by rfl, ?_⟩) ?_ ?_
      rotate_left
      ·intro w'
       go_simp
       with_reducible rfl
      rotate_left
      ·simp only [Act.put, List.setIfInBounds_toArray, List.set_cons_zero, List.set_cons_succ, i64_w, i32_w]
       rfl
      refine pure_ (i := 7) (N := some 33) (v := ?_) (a' := ?_) #[true, true, true, true, true, true, true, true, false, false, false, false, false, false, false, false, false, false, false, false, false] rfl rfl (any_of HT_.out (by kernel_rfl)) (fun _ _ _ h => h) (Or.inl ⟨by rfl, ?_⟩) ?_ ?_
      rotate_left
      ·intro w'
       go_simp
       with_reducible rfl
      rotate_left
      ·simp only [Act.put, List.setIfInBounds_toArray, List.set_cons_zero, List.set_cons_succ, i64_w, i32_w]
       rfl
      refine pure_ (i := 8) (N := some 34) (v := ?_) (a' := ?_) #[true, true, true, true, true, true, true, true, true, false, false, false, false, false, false, false, false, false, false, false, false] rfl rfl (any_of HT_.out (by kernel_rfl)) (fun _ _ _ h => h) (Or.inl ⟨by rfl, ?_⟩) ?_ ?_
      rotate_left
      ·intro w'
       go_simp
       with_reducible rfl
      rotate_left
      ·simp only [Act.put, List.setIfInBounds_toArray, List.set_cons_zero, List.set_cons_succ, i64_w, i32_w]
       rfl
      refine pure_ (i := 10) (N := some 36) (v := ?_) (a' := ?_) #[true, true, true, true, true, true, true, true, true, false, true, false, false, false, false, false, false, false, false, false, false] rfl rfl (any_of HT_.out (by kernel_rfl)) (fun _ _ _ h => h) (Or.inl ⟨by rfl, ?_⟩) ?_ ?_
      rotate_left
      ·intro w'
       go_simp
       with_reducible rfl
      rotate_left
      ·simp only [Act.put, List.setIfInBounds_toArray, List.set_cons_zero, List.set_cons_succ, i64_w, i32_w]
       rfl
      refine pure_ (i := 12) (N := some 38) (v := ?_) (a' := ?_) #[true, true, true, true, true, true, true, true, true, false, true, false, true, false, false, false, false, false, false, false, false] rfl rfl (any_of HT_.out (by kernel_rfl)) (fun _ _ _ h => h) (Or.inl ⟨by rfl, ?_⟩) ?_ ?_
      rotate_left
      ·intro w'
       go_simp
       with_reducible rfl
      rotate_left
      ·simp only [Act.put, List.setIfInBounds_toArray, List.set_cons_zero, List.set_cons_succ, i64_w, i32_w]
       rfl
      refine take_ (i := 9) (N := some 35) (v := ?_) (a' := ?_) #[true, true, true, true, true, true, true, true, true, true, true, false, true, false, false, false, false, false, false, false, false] rfl rfl (take_ofW HT_.out HW_.out (by kernel_rfl)) (fun _ _ _ h => h) (Or.inl ⟨by rfl, ?_⟩) hHeld ?_ ?_
      rotate_left
      ·rintro w' ⟨s0, s1, s2, s3, s4, s5, s6, s7⟩
       go_simp
       with_reducible rfl
      rotate_left
      ·simp only [Act.put, List.setIfInBounds_toArray, List.set_cons_zero, List.set_cons_succ, i64_w, i32_w]
       rfl
      refine take_ (i := 11) (N := some 37) (v := ?_) (a' := ?_) #[true, true, true, true, true, true, true, true, true, true, true, true, true, false, false, false, false, false, false, false, false] rfl rfl (take_ofW HT_.out HW_.out (by kernel_rfl)) (fun _ _ _ h => h) (Or.inl ⟨by rfl, ?_⟩) hHeld ?_ ?_
      rotate_left
      ·rintro w' ⟨s0, s1, s2, s3, s4, s5, s6, s7⟩
       go_simp
       with_reducible rfl
      rotate_left
      ·simp only [Act.put, List.setIfInBounds_toArray, List.set_cons_zero, List.set_cons_succ, i64_w, i32_w]
       rfl
      refine pure_ (i := 13) (N := some 39) (v := ?_) (a' := ?_) #[true, true, true, true, true, true, true, true, true, true, true, true, true, true, false, false, false, false, false, false, false] rfl rfl (any_of HT_.out (by kernel_rfl)) (fun _ _ _ h => h) (Or.inl ⟨by rfl, ?_⟩) ?_ ?_
      rotate_left
      ·intro w'
       go_simp
       with_reducible rfl
      rotate_left
      ·simp only [Act.put, List.setIfInBounds_toArray, List.set_cons_zero, List.set_cons_succ, i64_w, i32_w]
       rfl
      refine pure_ (i := 14) (N := some 40) (v := ?_) (a' := ?_) #[true, true, true, true, true, true, true, true, true, true, true, true, true, true, true, false, false, false, false, false, false] rfl rfl (any_of HT_.out (by kernel_rfl)) (fun _ _ _ h => h) (Or.inl ⟨by rfl, ?_⟩) ?_ ?_
      rotate_left
      ·intro w'
       go_simp
       with_reducible rfl
      rotate_left
      ·simp only [Act.put, List.setIfInBounds_toArray, List.set_cons_zero, List.set_cons_succ, i64_w, i32_w]
       rfl
      refine take_ (i := 15) (N := some 41) (v := ?_) (a' := ?_) #[true, true, true, true, true, true, true, true, true, true, true, true, true, true, true, true, false, false, false, false, false] rfl rfl (take_ofW HT_.out HW_.out (by kernel_rfl)) (fun _ _ _ h => h) (Or.inl ⟨by rfl, ?_⟩) hHeld ?_ ?_
      rotate_left
      ·rintro w' ⟨s0, s1, s2, s3, s4, s5, s6, s7⟩
       go_simp
       with_reducible rfl
      rotate_left
      ·simp only [Act.put, List.setIfInBounds_toArray, List.set_cons_zero, List.set_cons_succ, i64_w, i32_w]
       rfl
      refine pure_ (i := 16) (N := some 42) (v := ?_) (a' := ?_) #[true, true, true, true, true, true, true, true, true, true, true, true, true, true, true, true, true, false, false, false, false] rfl rfl (any_of HT_.out (by kernel_rfl)) (fun _ _ _ h => h) (Or.inl ⟨by rfl, ?_⟩) ?_ ?_
      rotate_left
      ·intro w'
       go_simp
       with_reducible rfl
      rotate_left
      ·simp only [Act.put, List.setIfInBounds_toArray, List.set_cons_zero, List.set_cons_succ, i64_w, i32_w]
       rfl
      refine take_ (i := 17) (N := some 43) (v := ?_) (a' := ?_) #[true, true, true, true, true, true, true, true, true, true, true, true, true, true, true, true, true, true, false, false, false] rfl rfl (take_ofW HT_.out HW_.out (by kernel_rfl)) (fun _ _ _ h => h) (Or.inl ⟨by rfl, ?_⟩) hHeld ?_ ?_
      rotate_left
      ·rintro w' ⟨s0, s1, s2, s3, s4, s5, s6, s7⟩
       go_simp
       with_reducible rfl
      rotate_left
      ·simp only [Act.put, List.setIfInBounds_toArray, List.set_cons_zero, List.set_cons_succ, i64_w, i32_w]
       rfl
      refine one_ (i := 18) (N := some 44) #[true, true, true, true, true, true, true, true, true, true, true, true, true, true, true, true, true, true, true, false, false] rfl rfl (one_of HT_.out (by kernel_rfl)) (by decide) (fun K hK => ?_)
      refine goes_ Tryz.func44 (by kernel_rfl) rfl #[.agg #[.slice (some ad293) l0_0.length c0_0], .int .i64 (rd ((rd_T58 l0_0 x6_2).f2) 0)] (by rfl) rfl rfl (by (try simp only [List.map_toArray, List.map_cons, List.map_nil]); first | done | rfl | (simp only [List.length_drop, List.length_take]; rfl)) ?_
      with_reducible refine (q_begins.calls k2 _ _ l0_0 (rd ((rd_T58 l0_0 x6_2).f2) 0) true _ ?side1 ?side2 A20.out).mono ?_
      (case side1 => repeat (first | exact (Kd.C_below HR0_0.out HB.out) | (with_reducible refine Kd.C_alloc ?_ _) | (with_reducible refine Kd.C_drewN ?_ _) | (with_reducible refine Kd.C_drew ?_)))
      (case side2 => exact HC0_0.out)
      rintro e w24 ⟨rfl, hb⟩
      refine ⟨_, rfl, ?_⟩
      have n0_ := am (Kd.S_below (HO_3.out) hb)
      have n1_ := am (Kd.R_below (HO_5.out) hb)
      have n2_ := am (blk_below (g := gb284) (o := .cells #[.slice (some ad293) l0_0.length c0_0] 36 (0, 0)) (BK284.out) hb)
      have n3_ := am (below_step (HB.out) hb)
      clear HO_3 HO_5 BK284 HB
      have HO_3 := n0_
      have HO_5 := n1_
      have BK284 := n2_
      have HB := n3_
      clear n0_ n1_ n2_ n3_
      (try clear hb)
      (try clear hb2)
      (try clear hk)
      (try clear hi)
      refine hK.out _ _ ⟨(blk_cell BK284.out 0).trans rfl, ((HB.out.cell (blc w _ hw293_0)).trans hw293_0), ((HB.out.cell (blc w _ hw293_1)).trans hw293_1), ((HB.out.cell (blc w _ hw293_2)).trans hw293_2), ((HB.out.cell (blc w _ hw294_0)).trans hw294_0), ((HB.out.cell (blc w _ hw294_1)).trans hw294_1), ((HB.out.cell (blc w _ hw294_2)).trans hw294_2), ((HB.out.cell (blc w _ hw295_0)).trans hw295_0)⟩ (fun hHeld => ?_)
      clear hK K
      refine norm_ (a' := ?_) ?_ ?_
      rotate_left
      ·show Act.put _ (some 44) _ = _
       simp only [Act.put, List.setIfInBounds_toArray, List.set_cons_zero, List.set_cons_succ, i64_w, i32_w]
       rfl
      refine pure_ (i := 19) (N := some 45) (v := ?_) (a' := ?_) #[true, true, true, true, true, true, true, true, true, true, true, true, true, true, true, true, true, true, true, true, false] rfl rfl (any_of HT_.out (by kernel_rfl)) (fun _ _ _ h => h) (Or.inl ⟨by rfl, ?_⟩) ?_ ?_
      rotate_left
      ·intro w'
       go_simp
       with_reducible rfl
      rotate_left
      ·simp only [Act.put, List.setIfInBounds_toArray, List.set_cons_zero, List.set_cons_succ, i64_w, i32_w]
       rfl
      refine pure_ (i := 20) (N := some 46) (v := ?_) (a' := ?_) #[true, true, true, true, true, true, true, true, true, true, true, true, true, true, true, true, true, true, true, true, true] rfl rfl (any_of HT_.out (by kernel_rfl)) (fun _ _ _ h => h) (Or.inl ⟨by rfl, ?_⟩) ?_ ?_
      rotate_left
      ·intro w'
       go_simp
       with_reducible rfl
      rotate_left
      ·simp only [Act.put, List.setIfInBounds_toArray, List.set_cons_zero, List.set_cons_succ, i64_w, i32_w]
       rfl
      refine done_ (done_of HT_.out (by kernel_rfl)) ?_
      obtain ⟨Ao26, co26, eo26⟩ := Kd.R_slice HO_5.out
      subst eo26
      try go_wp2_with (first | ((with_reducible refine gate_builtin (b := .append) (xs := #[.tmp 64, .tmp 66]) rfl ?_); at_builtin; refine Kd.S_append (Kd.slice 3 (Kd.int .i64)) (w0 := w) w.heap.size rfl (.tmp 64) (.tmp 66) 46 27 (.slice none 0 0) 24 rfl Tryz.underlying46 info27 rfl (by decide) (by omega) u3 x3_1 x5_2 [.slice Ao26 x5_2.length co26] (fun _ => True) (fun k_ => some k_ = (.slice Ao26 x5_2.length co26 : Value).ownBlock) rfl rfl ?aP (fun k_ hk_ => ((Kd.R_mono (ok' := fun k_ => ((fun _ => True)) k_ ∧ some k_ ≠ (u3 : Value).ownBlock) (Kd.R_apart' (HO_5.out) (Kd.S_typed HO_3.out) (by decide)) (fun k_ hk => ⟨trivial, hk.2⟩))).1 k_ hk_.symm) ?aF ?aO ?aB ?aS ?aL ?_; (case aP => exact Kd.M_row (Kd.R_mono (Kd.R_tight rfl (Kd.R_mono (ok' := fun k_ => ((fun _ => True)) k_ ∧ some k_ ≠ (u3 : Value).ownBlock) (Kd.R_apart' (HO_5.out) (Kd.S_typed HO_3.out) (by decide)) (fun k_ hk => ⟨trivial, hk.2⟩))) (fun _ h_ => h_))); (case aB => exact (HB.out)); (case aF => exact (fun _ _ => trivial)); (case aO => exact (by (with_reducible repeat (first | apply Kd.S_alloc | apply Kd.S_drewN | apply Kd.S_drew)); exact Kd.S_mono HO_3.out (fun k_ hk => ⟨trivial, fun e_ => hk e_⟩))); (case aS => exact (below_size (HB.out))); (case aL => have := LMc22.out; omega); intro v298 w25 ho hb hg hat; rw [← Ny297.out] at ho; have n0_ := am (blk_grown (g := gb284) (o := .cells #[.slice (some ad293) l0_0.length c0_0] 36 (0, 0)) (BK284.out) hg (Kd.S_ne HO_3.out BK284.out (by decide))); have n1_ := am (hb); have n2_ := am (ho); clear BK284; clear HB; clear HO_3; clear HO_5; have BK284 := n0_; have HB := n1_; have HO299 := n2_; clear n0_ n1_ n2_; clear ho hb hg hat))
      go_roundg k2
      case measure => have := HK1.out; have := HK2.out; omega
      case rel => exact ⟨(y297), (wrap64 (x4_1 + 1)), (rfl), H', ⟨by have := HK1.out; have := HK2.out; omega⟩, ⟨HO299.out⟩, ⟨BK284.out⟩, ⟨HB.out⟩⟩
     replace c21 := Bool.eq_false_iff.mpr c21
     subst c21
     rw [if_neg (show ¬ (false = true) by decide)] at H
     by_cases c27 : x5_2.length < 17592186044416
     rotate_left
     ·rw [if_neg c27] at H
      exact absurd H (by simp)
     rw [if_pos c27] at H
     have LMc27 := am c27
     clear c27
     obtain ⟨y302, hy302⟩ : ∃ y_ : List Int, y_ = (x5_2 ++ [rd ((rd_T58 l0_0 x6_2).f2) 0]) := ⟨_, rfl⟩
     replace H : (if 0 ≤ (wrap64 ((y302.length : Int) - 1)) then (if (wrap64 ((y302.length : Int) - 1)) < (y302.length : Int) then (q_Blocks.l1 k2 x3_1 x4_1 y302 (rd y302 (wrap64 ((y302.length : Int) - 1))) l0_0) else (none)) else (none)) = some r := by rw [hy302]; exact H
     have Ny302 := am hy302
     clear hy302
     obtain ⟨ji28, hji28⟩ : ∃ j_ : Int, (wrap64 ((y302.length : Int) - 1)) = j_ := ⟨_, rfl⟩
     replace H : (if 0 ≤ (ji28) then (if (ji28) < (y302.length : Int) then (q_Blocks.l1 k2 x3_1 x4_1 y302 (rd y302 (ji28)) l0_0) else (none)) else (none)) = some r := by first | (rw [hji28] at H; exact H) | (simp only [hji28] at H ⊢; exact H)
     (try rw [hji28] at A20)
     have hji28w : (IntKind.i64.wrap ((y302.length : Int) - 1)) = ji28 := (i64_w _).trans hji28
     by_cases c29 : 0 ≤ (ji28)
     rotate_left
     ·rw [if_neg c29] at H
      exact absurd H (by simp)
     rw [if_pos c29] at H
     have c29b0 : decide (0 ≤ (ji28)) = true := decide_eq_true c29
     clear c29
     by_cases c30 : (ji28) < (y302.length : Int)
     rotate_left
     ·rw [if_neg c30] at H
      exact absurd H (by simp)
     rw [if_pos c30] at H
     have c30b0 : decide ((ji28) < (y302.length : Int)) = true := decide_eq_true c30
     clear c30
     have H' := am H
     clear H
     try go_wp2
     have n0_ := am (Kd.S_drew HO_3.out)
     have n1_ := am (Kd.R_drew HO_5.out)
     have n2_ := am (blk_drew BK284.out)
     have n3_ := am (below_drew1 HB.out)
     clear HO_3 HO_5 BK284 HB
     have HO_3 := n0_
     have HO_5 := n1_
     have BK284 := n2_
     have HB := n3_
     clear n0_ n1_ n2_ n3_
     have p293 : 0 ≤ (x6_2 : Int) := odt ‹_›
     have q293 : x6_2 < (l0_0.length : Int) := odt ‹_›
     obtain ⟨ad293, A293_2, c293_2, e293, hx293_0, hx293_1, hx293_2, hl293_2, hi293_2⟩ := at_T58 HR0_0.out x6_2 p293 q293
     have hw293_2 := hx293_2
     have hw293_1 := hx293_1
     have hw293_0 := hx293_0
     cases e293
     replace hx293_0 := (HB.out.cell (blc w _ hx293_0)).trans hx293_0
     replace hx293_1 := (HB.out.cell (blc w _ hx293_1)).trans hx293_1
     replace hx293_2 := (HB.out.cell (blc w _ hx293_2)).trans hx293_2
     have HR293_2 := am hi293_2
     have HC293_2 := am hl293_2
     clear hi293_2 hl293_2
     replace p293 := eq_true p293
     replace q293 := eq_true q293
     have p294 : 0 ≤ (x6_2 : Int) := odt ‹_›
     have q294 : x6_2 < (l0_0.length : Int) := odt ‹_›
     obtain ⟨ad294, A294_2, c294_2, e294, hx294_0, hx294_1, hx294_2, hl294_2, hi294_2⟩ := at_T58 HR0_0.out x6_2 p294 q294
     have hw294_2 := hx294_2
     have hw294_1 := hx294_1
     have hw294_0 := hx294_0
     obtain rfl : ad293 = ad294 := (by injection e294)
     replace hx294_0 := (HB.out.cell (blc w _ hx294_0)).trans hx294_0
     replace hx294_1 := (HB.out.cell (blc w _ hx294_1)).trans hx294_1
     replace hx294_2 := (HB.out.cell (blc w _ hx294_2)).trans hx294_2
     have HR294_2 := am hi294_2
     have HC294_2 := am hl294_2
     clear hi294_2 hl294_2
     replace p294 := eq_true p294
     replace q294 := eq_true q294
     have ea_ := Option.some.inj (hx293_2.symm.trans hx294_2)
     injection ea_ with ea_ en_ ec_
     subst ea_
     subst ec_
     clear en_
     have p295 : 0 ≤ (0 : Int) := (by omega)
     have q295 : 0 < (((rd_T58 l0_0 x6_2).f2).length : Int) := odt ‹_›
     obtain ⟨ad295, e295, hx295_0⟩ := Kd.at_int HR294_2.out 0 p295 q295
     have hw295_0 := hx295_0
     (try rw [show ((0 : Int)).toNat = 0 from rfl] at hw295_0)
     (try rw [show 0 * 1 = 0 from rfl] at hw295_0)
     (try rw [Addr.add_zero'] at hw295_0)
     cases e295
     have qi295 : (0 < ((rd_T58 l0_0 x6_2).f2).length) = True := eq_true (by omega)
     (try rw [show ((0 : Int)).toNat = 0 from rfl] at hx295_0)
     (try rw [Addr.add_zero'] at hx295_0)
     replace hx295_0 := (HB.out.cell (blc w _ hx295_0)).trans hx295_0
     replace p295 := eq_true p295
     replace q295 := eq_true q295
     refine start_ (n := 21) (S := fun w' => w'.cell? ⟨gb284, 0, none⟩ = some (.slice (some ad293) l0_0.length c0_0) ∧ w'.cell? (ad293.add ((x6_2).toNat * 3)) = some (.int .i64 ((rd_T58 l0_0 x6_2).f0)) ∧ w'.cell? ⟨(ad293.add ((x6_2).toNat * 3)).block, (ad293.add ((x6_2).toNat * 3)).off + 1, none⟩ = some (.int .i64 ((rd_T58 l0_0 x6_2).f1)) ∧ w'.cell? ⟨(ad293.add ((x6_2).toNat * 3)).block, (ad293.add ((x6_2).toNat * 3)).off + 2, none⟩ = some (.slice (some ad295) ((rd_T58 l0_0 x6_2).f2).length c293_2) ∧ w'.cell? (ad293.add ((x6_2).toNat * 3)) = some (.int .i64 ((rd_T58 l0_0 x6_2).f0)) ∧ w'.cell? ⟨(ad293.add ((x6_2).toNat * 3)).block, (ad293.add ((x6_2).toNat * 3)).off + 1, none⟩ = some (.int .i64 ((rd_T58 l0_0 x6_2).f1)) ∧ w'.cell? ⟨(ad293.add ((x6_2).toNat * 3)).block, (ad293.add ((x6_2).toNat * 3)).off + 2, none⟩ = some (.slice (some ad295) ((rd_T58 l0_0 x6_2).f2).length c293_2) ∧ w'.cell? ad295 = some (.int .i64 (rd ((rd_T58 l0_0 x6_2).f2) 0))) (ds := []) #[false, false, false, false, false, false, false, false, false, false, false, false, false, false, false, false, false, false, false, false, false] (by kernel_rfl) rfl rfl ⟨(blk_cell BK284.out 0).trans rfl, ((HB.out.cell (blc w _ hw293_0)).trans hw293_0), ((HB.out.cell (blc w _ hw293_1)).trans hw293_1), ((HB.out.cell (blc w _ hw293_2)).trans hw293_2), ((HB.out.cell (blc w _ hw294_0)).trans hw294_0), ((HB.out.cell (blc w _ hw294_1)).trans hw294_1), ((HB.out.cell (blc w _ hw294_2)).trans hw294_2), ((HB.out.cell (blc w _ hw295_0)).trans hw295_0)⟩ (fun hHeld => ?_); refine with_tabW q_Blocks.tab10 q_Blocks.bits10 (fun HT_ HW_ => ?_)
     generalize wr.drew = w31 at HO_3 HO_5 BK284 HB HR293_2 HR294_2 hx293_0 hx293_1 hx293_2 hx294_0 hx294_1 hx294_2 hx295_0 hHeld ⊢
     refine pure_ (i := 0) (N := some 26) (v := ?_) (a' := ?_) #[true, false, false, false, false, false, false, false, false, false, false, false, false, false, false, false, false, false, false, false, false] rfl rfl (any_of HT_.out (by kernel_rfl)) (fun _ _ _ h => h) (Or.inl ⟨by rfl, ?_⟩) ?_ ?_
     rotate_left
     ·intro w'
      go_simp
      with_reducible rfl
     rotate_left
     ·simp only [Act.put, List.setIfInBounds_toArray, List.set_cons_zero, List.set_cons_succ, i64_w, i32_w]
      rfl
     refine pure_ (i := 2) (N := some 28) (v := ?_) (a' := ?_) #[true, false, true, false, false, false, false, false, false, false, false, false, false, false, false, false, false, false, false, false, false] rfl rfl (any_of HT_.out (by kernel_rfl)) (fun _ _ _ h => h) (Or.inl ⟨by rfl, ?_⟩) ?_ ?_
     rotate_left
     ·intro w'
      go_simp
      with_reducible rfl
     rotate_left
     ·simp only [Act.put, List.setIfInBounds_toArray, List.set_cons_zero, List.set_cons_succ, i64_w, i32_w]
      rfl
     refine take_ (i := 1) (N := some 27) (v := ?_) (a' := ?_) #[true, true, true, false, false, false, false, false, false, false, false, false, false, false, false, false, false, false, false, false, false] rfl rfl (take_ofW HT_.out HW_.out (by kernel_rfl)) (fun _ _ _ h => h) (Or.inl ⟨by rfl, ?_⟩) hHeld ?_ ?_
     rotate_left
     ·rintro w' ⟨s0, s1, s2, s3, s4, s5, s6, s7⟩
      go_simp
      with_reducible rfl
     rotate_left
     ·simp only [Act.put, List.setIfInBounds_toArray, List.set_cons_zero, List.set_cons_succ, i64_w, i32_w]
      rfl
     refine pure_ (i := 3) (N := some 29) (v := ?_) (a' := ?_) #[true, true, true, true, false, false, false, false, false, false, false, false, false, false, false, false, false, false, false, false, false] rfl rfl (any_of HT_.out (by kernel_rfl)) (fun _ _ _ h => h) (Or.inl ⟨by rfl, ?_⟩) ?_ ?_
     rotate_left
     ·intro w'
      go_simp
      with_reducible rfl
     rotate_left
     ·simp only [Act.put, List.setIfInBounds_toArray, List.set_cons_zero, List.set_cons_succ, i64_w, i32_w]
      rfl
     refine pure_ (i := 4) (N := some 30) (v := ?_) (a' := ?_) #[true, true, true, true, true, false, false, false, false, false, false, false, false, false, false, false, false, false, false, false, false] rfl rfl (any_of HT_.out (by kernel_rfl)) (fun _ _ _ h => h) (Or.inl ⟨by rfl, ?_⟩) ?_ ?_
     rotate_left
     ·intro w'
      go_simp
      with_reducible rfl
     rotate_left
     ·simp only [Act.put, List.setIfInBounds_toArray, List.set_cons_zero, List.set_cons_succ, i64_w, i32_w]
      rfl
     refine take_ (i := 5) (N := some 31) (v := ?_) (a' := ?_) #[true, true, true, true, true, true, false, false, false, false, false, false, false, false, false, false, false, false, false, false, false] rfl rfl (take_ofW HT_.out HW_.out (by kernel_rfl)) (fun _ _ _ h => h) (Or.inl ⟨by rfl, ?_⟩) hHeld ?_ ?_
     rotate_left
     ·rintro w' ⟨s0, s1, s2, s3, s4, s5, s6, s7⟩
      go_simp
      with_reducible rfl
     rotate_left
     ·simp only [Act.put, List.setIfInBounds_toArray, List.set_cons_zero, List.set_cons_succ, i64_w, i32_w]
      rfl
     refine pure_ (i := 6) (N := some 32) (v := ?_) (a' := ?_) #[true, true, true, true, true, true, true, false, false, false, false, false, false, false, false, false, false, false, false, false, false] rfl rfl (any_of HT_.out (by kernel_rfl)) (fun _ _ _ h => h) (Or.inl ⟨by rfl, ?_⟩) ?_ ?_
     rotate_left
     ·intro w'
      go_simp
      with_reducible rfl
     rotate_left
     ·simp only [Act.put, List.setIfInBounds_toArray, List.set_cons_zero, List.set_cons_succ, i64_w, i32_w]
      rfl
     refine pure_ (i := 7) (N := some 33) (v := ?_) (a' := ?_) #[true, true, true, true, true, true, true, true, false, false, false, false, false, false, false, false, false, false, false, false, false] rfl rfl (any_of HT_.out (by kernel_rfl)) (fun _ _ _ h => h) (Or.inl ⟨by rfl, ?_⟩) ?_ ?_
     rotate_left
     ·intro w'
      go_simp
      with_reducible rfl
     rotate_left
     ·simp only [Act.put, List.setIfInBounds_toArray, List.set_cons_zero, List.set_cons_succ, i64_w, i32_w]
      rfl
     refine pure_ (i := 8) (N := some 34) (v := ?_) (a' := ?_) #[true, true, true, true, true, true, true, true, true, false, false, false, false, false, false, false, false, false, false, false, false] rfl rfl (any_of HT_.out (by kernel_rfl)) (fun _ _ _ h => h) (Or.inl ⟨by rfl, ?_⟩) ?_ ?_
     rotate_left
     ·intro w'
      go_simp
      with_reducible rfl
     rotate_left
     ·simp only [Act.put, List.setIfInBounds_toArray, List.set_cons_zero, List.set_cons_succ, i64_w, i32_w]
      rfl
     refine pure_ (i := 10) (N := some 36) (v := ?_) (a' := ?_) #[true, true, true, true, true, true, true, true, true, false, true, false, false, false, false, false, false, false, false, false, false] rfl rfl (any_of HT_.out (by kernel_rfl)) (fun _ _ _ h => h) (Or.inl ⟨by rfl, ?_⟩) ?_ ?_
     rotate_left
     ·intro w'
      go_simp
      with_reducible rfl
     rotate_left
     ·simp only [Act.put, List.setIfInBounds_toArray, List.set_cons_zero, List.set_cons_succ, i64_w, i32_w]
      rfl
     refine pure_ (i := 12) (N := some 38) (v := ?_) (a' := ?_) #[true, true, true, true, true, true, true, true, true, false, true, false, true, false, false, false, false, false, false, false, false] rfl rfl (any_of HT_.out (by kernel_rfl)) (fun _ _ _ h => h) (Or.inl ⟨by rfl, ?_⟩) ?_ ?_
     rotate_left
     ·intro w'
      go_simp
      with_reducible rfl
     rotate_left
     ·simp only [Act.put, List.setIfInBounds_toArray, List.set_cons_zero, List.set_cons_succ, i64_w, i32_w]
      rfl
     refine take_ (i := 9) (N := some 35) (v := ?_) (a' := ?_) #[true, true, true, true, true, true, true, true, true, true, true, false, true, false, false, false, false, false, false, false, false] rfl rfl (take_ofW HT_.out HW_.out (by kernel_rfl)) (fun _ _ _ h => h) (Or.inl ⟨by rfl, ?_⟩) hHeld ?_ ?_
     rotate_left
     ·rintro w' ⟨s0, s1, s2, s3, s4, s5, s6, s7⟩
      go_simp
      with_reducible rfl
     rotate_left
     ·simp only [Act.put, List.setIfInBounds_toArray, List.set_cons_zero, List.set_cons_succ, i64_w, i32_w]
      rfl
     refine take_ (i := 11) (N := some 37) (v := ?_) (a' := ?_) #[true, true, true, true, true, true, true, true, true, true, true, true, true, false, false, false, false, false, false, false, false] rfl rfl (take_ofW HT_.out HW_.out (by kernel_rfl)) (fun _ _ _ h => h) (Or.inl ⟨by rfl, ?_⟩) hHeld ?_ ?_
     rotate_left
     ·rintro w' ⟨s0, s1, s2, s3, s4, s5, s6, s7⟩
      go_simp
      with_reducible rfl
     rotate_left
     ·simp only [Act.put, List.setIfInBounds_toArray, List.set_cons_zero, List.set_cons_succ, i64_w, i32_w]
      rfl
     refine pure_ (i := 13) (N := some 39) (v := ?_) (a' := ?_) #[true, true, true, true, true, true, true, true, true, true, true, true, true, true, false, false, false, false, false, false, false] rfl rfl (any_of HT_.out (by kernel_rfl)) (fun _ _ _ h => h) (Or.inl ⟨by rfl, ?_⟩) ?_ ?_
     rotate_left
     ·intro w'
      go_simp
      with_reducible rfl
     rotate_left
     ·simp only [Act.put, List.setIfInBounds_toArray, List.set_cons_zero, List.set_cons_succ, i64_w, i32_w]
      rfl
     refine pure_ (i := 14) (N := some 40) (v := ?_) (a' := ?_) #[true, true, true, true, true, true, true, true, true, true, true, true, true, true, true, false, false, false, false, false, false] rfl rfl (any_of HT_.out (by kernel_rfl)) (fun _ _ _ h => h) (Or.inl ⟨by rfl, ?_⟩) ?_ ?_
     rotate_left
     ·intro w'
      go_simp
      with_reducible rfl
     rotate_left
     ·simp only [Act.put, List.setIfInBounds_toArray, List.set_cons_zero, List.set_cons_succ, i64_w, i32_w]
      rfl
     refine take_ (i := 15) (N := some 41) (v := ?_) (a' := ?_) #[true, true, true, true, true, true, true, true, true, true, true, true, true, true, true, true, false, false, false, false, false] rfl rfl (take_ofW HT_.out HW_.out (by kernel_rfl)) (fun _ _ _ h => h) (Or.inl ⟨by rfl, ?_⟩) hHeld ?_ ?_
     rotate_left
     ·rintro w' ⟨s0, s1, s2, s3, s4, s5, s6, s7⟩
      go_simp
      with_reducible rfl
     rotate_left
     ·simp only [Act.put, List.setIfInBounds_toArray, List.set_cons_zero, List.set_cons_succ, i64_w, i32_w]
      rfl
     refine pure_ (i := 16) (N := some 42) (v := ?_) (a' := ?_) #[true, true, true, true, true, true, true, true, true, true, true, true, true, true, true, true, true, false, false, false, false] rfl rfl (any_of HT_.out (by kernel_rfl)) (fun _ _ _ h => h) (Or.inl ⟨by rfl, ?_⟩) ?_ ?_
     rotate_left
     ·intro w'
      go_simp
      with_reducible rfl
     rotate_left
     ·simp only [Act.put, List.setIfInBounds_toArray, List.set_cons_zero, List.set_cons_succ, i64_w, i32_w]
      rfl
     refine take_ (i := 17) (N := some 43) (v := ?_) (a' := ?_) #[true, true, true, true, true, true, true, true, true, true, true, true, true, true, true, true, true, true, false, false, false] rfl rfl (take_ofW HT_.out HW_.out (by kernel_rfl)) (fun _ _ _ h => h) (Or.inl ⟨by rfl, ?_⟩) hHeld ?_ ?_
     rotate_left
     ·rintro w' ⟨s0, s1, s2, s3, s4, s5, s6, s7⟩
      go_simp
      with_reducible rfl
     rotate_left
     ·simp only [Act.put, List.setIfInBounds_toArray, List.set_cons_zero, List.set_cons_succ, i64_w, i32_w]
      rfl
     refine one_ (i := 18) (N := some 44) #[true, true, true, true, true, true, true, true, true, true, true, true, true, true, true, true, true, true, true, false, false] rfl rfl (one_of HT_.out (by kernel_rfl)) (by decide) (fun K hK => ?_)
     refine goes_ Tryz.func44 (by kernel_rfl) rfl #[.agg #[.slice (some ad293) l0_0.length c0_0], .int .i64 (rd ((rd_T58 l0_0 x6_2).f2) 0)] (by rfl) rfl rfl (by (try simp only [List.map_toArray, List.map_cons, List.map_nil]); first | done | rfl | (simp only [List.length_drop, List.length_take]; rfl)) ?_
     with_reducible refine (q_begins.calls k2 _ _ l0_0 (rd ((rd_T58 l0_0 x6_2).f2) 0) false _ ?side1 ?side2 A20.out).mono ?_
     (case side1 => repeat (first | exact (Kd.C_below HR0_0.out HB.out) | (with_reducible refine Kd.C_alloc ?_ _) | (with_reducible refine Kd.C_drewN ?_ _) | (with_reducible refine Kd.C_drew ?_)))
     (case side2 => exact HC0_0.out)
     rintro e w32 ⟨rfl, hb⟩
     refine ⟨_, rfl, ?_⟩
     have n0_ := am (Kd.S_below (HO_3.out) hb)
     have n1_ := am (Kd.R_below (HO_5.out) hb)
     have n2_ := am (blk_below (g := gb284) (o := .cells #[.slice (some ad293) l0_0.length c0_0] 36 (0, 0)) (BK284.out) hb)
     have n3_ := am (below_step (HB.out) hb)
     clear HO_3 HO_5 BK284 HB
     have HO_3 := n0_
     have HO_5 := n1_
     have BK284 := n2_
     have HB := n3_
     clear n0_ n1_ n2_ n3_
     (try clear hb)
     (try clear hb2)
     (try clear hk)
     (try clear hi)
     refine hK.out _ _ ⟨(blk_cell BK284.out 0).trans rfl, ((HB.out.cell (blc w _ hw293_0)).trans hw293_0), ((HB.out.cell (blc w _ hw293_1)).trans hw293_1), ((HB.out.cell (blc w _ hw293_2)).trans hw293_2), ((HB.out.cell (blc w _ hw294_0)).trans hw294_0), ((HB.out.cell (blc w _ hw294_1)).trans hw294_1), ((HB.out.cell (blc w _ hw294_2)).trans hw294_2), ((HB.out.cell (blc w _ hw295_0)).trans hw295_0)⟩ (fun hHeld => ?_)
     clear hK K
     refine norm_ (a' := ?_) ?_ ?_
     rotate_left
     ·show Act.put _ (some 44) _ = _
      simp only [Act.put, List.setIfInBounds_toArray, List.set_cons_zero, List.set_cons_succ, i64_w, i32_w]
      rfl
     refine pure_ (i := 19) (N := some 45) (v := ?_) (a' := ?_) #[true, true, true, true, true, true, true, true, true, true, true, true, true, true, true, true, true, true, true, true, false] rfl rfl (any_of HT_.out (by kernel_rfl)) (fun _ _ _ h => h) (Or.inl ⟨by rfl, ?_⟩) ?_ ?_
     rotate_left
     ·intro w'
      go_simp
      with_reducible rfl
     rotate_left
     ·simp only [Act.put, List.setIfInBounds_toArray, List.set_cons_zero, List.set_cons_succ, i64_w, i32_w]
      rfl
     refine pure_ (i := 20) (N := some 46) (v := ?_) (a' := ?_) #[true, true, true, true, true, true, true, true, true, true, true, true, true, true, true, true, true, true, true, true, true] rfl rfl (any_of HT_.out (by kernel_rfl)) (fun _ _ _ h => h) (Or.inl ⟨by rfl, ?_⟩) ?_ ?_
     rotate_left
     ·intro w'
      go_simp
      with_reducible rfl
     rotate_left
     ·simp only [Act.put, List.setIfInBounds_toArray, List.set_cons_zero, List.set_cons_succ, i64_w, i32_w]
      rfl
     refine done_ (done_of HT_.out (by kernel_rfl)) ?_
     have hcz33_0 : w32.cell? ⟨gb284, 0, none⟩ = some (.slice (some ad293) l0_0.length c0_0) := (blk_cell BK284.out 0).trans rfl
     have hfz33_0 := blk_frozen BK284.out 0
     have p300 : 0 ≤ (x6_2 : Int) := odt ‹_›
     have q300 : x6_2 < (l0_0.length : Int) := odt ‹_›
     obtain ⟨ad300, A300_2, c300_2, e300, hx300_0, hx300_1, hx300_2, hl300_2, hi300_2⟩ := at_T58 HR0_0.out x6_2 p300 q300
     obtain rfl : ad293 = ad300 := (by injection e300)
     replace hx300_0 := (HB.out.cell (blc w _ hx300_0)).trans hx300_0
     replace hx300_1 := (HB.out.cell (blc w _ hx300_1)).trans hx300_1
     replace hx300_2 := (HB.out.cell (blc w _ hx300_2)).trans hx300_2
     have HR300_2 := am hi300_2
     have HC300_2 := am hl300_2
     clear hi300_2 hl300_2
     replace p300 := eq_true p300
     replace q300 := eq_true q300
     have p301 : 0 ≤ (0 : Int) := (by omega)
     have q301 : 0 < (((rd_T58 l0_0 x6_2).f2).length : Int) := odt ‹_›
     obtain ⟨ad301, e301, hx301_0⟩ := Kd.at_int HR300_2.out 0 p301 q301
     cases e301
     have qi301 : (0 < ((rd_T58 l0_0 x6_2).f2).length) = True := eq_true (by omega)
     (try rw [show ((0 : Int)).toNat = 0 from rfl] at hx301_0)
     (try rw [Addr.add_zero'] at hx301_0)
     replace hx301_0 := (HB.out.cell (blc w _ hx301_0)).trans hx301_0
     replace p301 := eq_true p301
     replace q301 := eq_true q301
     try go_wp2_with (first | ((with_reducible refine gate_builtin (b := .append) (xs := #[.tmp 53, .tmp 62]) rfl ?_); at_builtin; refine Kd.R_append (Kd.int .i64) (w0 := w) w.heap.size rfl (.tmp 53) (.tmp 62) 27 3 (.int .i64 0) 8 rfl Tryz.underlying27 info3 rfl (by decide) (by omega) u5 x5_2 (rd ((rd_T58 l0_0 x6_2).f2) 0) [.int .i64 (rd ((rd_T58 l0_0 x6_2).f2) 0)] (fun _ => True) (fun _ => False) rfl rfl ?aP (fun _ hk => hk.elim) ?aF ?aO ?aB ?aS ?aL ?_; (case aP => exact rfl); (case aB => exact (HB.out)); (case aF => exact (fun _ _ => trivial)); (case aO => exact (HO_5.out)); (case aS => exact (below_size (HB.out))); (case aL => have := LMc27.out; omega); intro v303 w34 ho hb hg hat; rw [← Ny302.out] at ho; have n0_ := am (Kd.S_after (ok := (fun _ => True)) (Kd.S_mono HO_3.out (fun _ hk => ⟨trivial, hk⟩)) hg hat); have n1_ := am (blk_grown (g := gb284) (o := .cells #[.slice (some ad293) l0_0.length c0_0] 36 (0, 0)) (BK284.out) hg (Kd.R_ne HO_5.out BK284.out (by decide))); have n2_ := am (hb); have n3_ := am (ho); clear HO_3; clear BK284; clear HB; clear HO_5; have HO_3 := n0_; have BK284 := n1_; have HB := n2_; have HO304 := n3_; clear n0_ n1_ n2_ n3_; clear ho hb hg hat; obtain ⟨Ao35, co35, eo35⟩ := Kd.R_slice HO304.out; subst eo35; have p305 : 0 ≤ ((ji28) : Int) := odt ‹_›; have q305 : (ji28) < (y302.length : Int) := odt ‹_›; obtain ⟨ad305, e305, hx305_0⟩ := Kd.at_int (Kd.R_reads' HO304.out).2.2 (ji28) p305 q305; cases e305; replace p305 := eq_true p305; replace q305 := eq_true q305))
     go_roundg k2
     case measure => have := HK1.out; have := HK2.out; omega
     case rel => exact ⟨(y302), (rd y302 (ji28)), (rfl), H', ⟨by have := HK1.out; have := HK2.out; omega⟩, ⟨Kd.S_mono HO_3.out (fun _ hk => hk.2)⟩, ⟨HO304.out⟩, ⟨BK284.out⟩, ⟨HB.out⟩⟩
end Go.Proofs.YtfcjeoihfphphaaGreatDoor.PFlow
end

/- A part of the proof, written by programs of this seat and by hand: P7. -/
import Derived.Test.YtfcjeoihfphphaaGreatDoorPtP0
import Derived.Test.YtfcjeoihfphphaaGreatDoorPtP5
import Derived.Test.YtfcjeoihfphphaaGreatDoorPtP6
set_option linter.unusedVariables false
set_option linter.unusedSimpArgs false
section
namespace Go.Proofs.YtfcjeoihfphphaaGreatDoor.PFlow
open Go.RowKit Go.Proofs.YtfcjeoihfphphaaGreatDoorW.PrintWords Go.Proofs.YtfcjeoihfphphaaGreatDoorW.PrintLast Go.Proofs.YtfcjeoihfphphaaGreatDoorW.PrintMore
attribute [local go_sem] max2_int min2_int max_two min_two max_three min_three max_four min_four   -- for this text's walks alone
set_option linter.unusedVariables false
set_option linter.unusedSimpArgs false
mutual
def flow_Blocks.l0 : Nat → List Bool → List Int → List Bool → List Bool → Int → Int → List (S58) → Option ((List (List Int)))
 | 0, _, _, _, _, _, _, _ => none
 | k + 1, x3, x20, x23, x24, x25, x26, x236000 => if x26 < x25 then (if 0 ≤ x26 then (if x26 < (x24.length : Int) then (if rdOf false x24 x26 = true then (if x26 < (x236000.length : Int) then (flow_Blocks.l1 k x3 x26 x20 x23 x24 x25 x26 ((rd_T58 x236000 x26).f2) (((rd_T58 x236000 x26).f2).length : Int) 0 x236000) else (none)) else (flow_Blocks.l0 k x3 x20 x23 x24 x25 (wrap64 (x26 + 1)) x236000)) else (none)) else (none)) else (flow_Blocks.l2 k ([] : List (List Int)) x20 x23 x3 (x3.length : Int) 0 x236000)
def flow_Blocks.l1 : Nat → List Bool → Int → List Int → List Bool → List Bool → Int → Int → List Int → Int → Int → List (S58) → Option ((List (List Int)))
 | 0, _, _, _, _, _, _, _, _, _, _, _ => none
 | k + 1, x3, x6, x20, x23, x24, x25, x26, x38, x39, x40, x236000 => if x40 < x39 then (if 0 ≤ x40 then (if x40 < (x38.length : Int) then (if 0 ≤ (rd x38 x40) then (if (rd x38 x40) < (x20.length : Int) then ((some (x20.set ((rd x38 x40) : Int).toNat (wrap64 ((rd x20 (rd x38 x40)) + 1)) : List Int)).bind fun y251 => (if (rd x38 x40) < (x23.length : Int) then (if rdOf false x23 (rd x38 x40) = true then (flow_Blocks.l1 k x3 x6 y251 (x23.set ((rd x38 x40) : Int).toNat true) x24 x25 x26 x38 x39 (wrap64 (x40 + 1)) x236000) else (if 0 ≤ x6 then (if x6 < (x236000.length : Int) then (flow_Blocks.l1 k x3 x6 y251 (x23.set ((rd x38 x40) : Int).toNat (decide ((((rd_T58 x236000 x6).f2).length : Int) > 1))) x24 x25 x26 x38 x39 (wrap64 (x40 + 1)) x236000) else (none)) else (none))) else (none))) else (none)) else (none)) else (none)) else (none)) else (flow_Blocks.l0 k x3 x20 x23 x24 x25 (wrap64 (x26 + 1)) x236000)
def flow_Blocks.l2 : Nat → List (List Int) → List Int → List Bool → List Bool → Int → Int → List (S58) → Option ((List (List Int)))
 | 0, _, _, _, _, _, _, _ => none
 | k + 1, x11, x20, x23, x70, x71, x72, x236000 => if x72 < x71 then (if 0 ≤ x72 then (if x72 < (x70.length : Int) then (if rdOf false x70 x72 = true then ((flow_begins.f x72 x20 x23).bind fun t257 => (flow_Blocks.j3 k x11 x72 x20 x23 x70 x71 x72 (!t257) x236000)) else (flow_Blocks.j3 k x11 x72 x20 x23 x70 x71 x72 true x236000)) else (none)) else (none)) else (some x11)
def flow_Blocks.j3 : Nat → List (List Int) → Int → List Int → List Bool → List Bool → Int → Int → Bool → List (S58) → Option ((List (List Int)))
 | 0, _, _, _, _, _, _, _, _, _ => none
 | k + 1, x11, x12, x20, x23, x70, x71, x72, x84, x236000 => if x84 = true then (flow_Blocks.l2 k x11 x20 x23 x70 x71 (wrap64 (x72 + 1)) x236000) else (flow_Blocks.l3 k x11 (([x12] : List Int)) x20 x23 x70 x71 x72 x236000)
def flow_Blocks.l3 : Nat → List (List Int) → List Int → List Int → List Bool → List Bool → Int → Int → List (S58) → Option ((List (List Int)))
 | 0, _, _, _, _, _, _, _, _ => none
 | k + 1, x11, x14, x20, x23, x70, x71, x72, x236000 => if 0 ≤ (wrap64 ((x14.length : Int) - 1)) then (if (wrap64 ((x14.length : Int) - 1)) < (x14.length : Int) then (if 0 ≤ (rd x14 (wrap64 ((x14.length : Int) - 1))) then (if (rd x14 (wrap64 ((x14.length : Int) - 1))) < (x236000.length : Int) then (if (((rd_T58 x236000 (rd x14 (wrap64 ((x14.length : Int) - 1)))).f2).length : Int) = 1 then (if 0 < (((rd_T58 x236000 (rd x14 (wrap64 ((x14.length : Int) - 1)))).f2).length : Int) then ((flow_begins.f (rd ((rd_T58 x236000 (rd x14 (wrap64 ((x14.length : Int) - 1)))).f2) 0) x20 x23).bind fun t264 => (if t264 = true then (if x11.length < 5864062014805 then (flow_Blocks.l2 k (x11 ++ [x14]) x20 x23 x70 x71 (wrap64 (x72 + 1)) x236000) else (none)) else (if x14.length < 17592186044416 then (flow_Blocks.l3 k x11 (x14 ++ [rd ((rd_T58 x236000 (rd x14 (wrap64 ((x14.length : Int) - 1)))).f2) 0]) x20 x23 x70 x71 x72 x236000) else (none)))) else (none)) else (if x11.length < 5864062014805 then (flow_Blocks.l2 k (x11 ++ [x14]) x20 x23 x70 x71 (wrap64 (x72 + 1)) x236000) else (none))) else (none)) else (none)) else (none)) else (none)
end
def flow_Blocks.f (k : Nat) (l0_0 : List (S58)) : Option ((List (List Int))) := (flow_Reachable.f k l0_0).bind fun t236 => (if 0 ≤ (t236.length : Int) then (if ((t236.length : Int) : Int).toNat ≤ 35184372088832 then (if ((t236.length : Int) : Int).toNat ≤ 281474976710656 then (flow_Blocks.l0 k t236 (List.replicate ((t236.length : Int) : Int).toNat 0) (List.replicate ((t236.length : Int) : Int).toNat false) t236 (t236.length : Int) 0 l0_0) else (none)) else (none)) else (none))
def flow_Blocks.T12 : Bool × List (List Nat × List Nat) := (true, [([], []), ([], []), ([], []), ([], []), ([2, 3], [2, 3]), ([4], [4]), ([5], [5]), ([6], [6]), ([7, 6], [6, 7]), ([6], [6]), ([8, 9, 6], [6, 8, 9]), ([10, 6], [6, 10]), ([11, 6], [6, 11]), ([12, 6], [6, 12]), ([13, 6], [6, 13]), ([6, 14], [6, 14]), ([0, 1, 0, 1, 2, 3, 4, 5, 6, 7, 8, 9, 10, 11, 12, 13, 14, 15], [0, 1]), ([16, 15, 6, 0, 1, 2, 3, 4, 5, 6, 7, 8, 9, 10, 11, 12, 13, 14, 15], [15, 16])])
def flow_Blocks.B12 : List Nat := [0, 0, 0, 0, 12, 28, 60, 124, 252, 124, 1020, 2044, 4092, 8188, 16380, 32764, 65535, 131071]
theorem flow_Blocks.tab12 : rtab .any (opsOf Tryz.f22 12) = flow_Blocks.T12 := by kernel_rfl
theorem flow_Blocks.bits12 : waitsOk flow_Blocks.T12.2 flow_Blocks.B12 = true := by kernel_rfl
def flow_Blocks.T22 : Bool × List (List Nat × List Nat) := (true, [([], []), ([0], [0]), ([], []), ([], []), ([3], [3]), ([4], [4]), ([2, 5], [2, 5]), ([6], [6]), ([1, 7], [1, 7]), ([8], [8]), ([9], [9]), ([10, 0, 1, 2, 3, 4, 5, 6, 7, 8, 9, 10], [10])])
def flow_Blocks.B22 : List Nat := [0, 1, 0, 0, 8, 24, 60, 124, 255, 511, 1023, 2047]
theorem flow_Blocks.tab22 : rtab .any (opsOf Tryz.f22 22) = flow_Blocks.T22 := by kernel_rfl
theorem flow_Blocks.bits22 : waitsOk flow_Blocks.T22.2 flow_Blocks.B22 = true := by kernel_rfl
theorem carryB {g : Nat} {o : Obj} {w W w' : World} (H : Aside0 (w.heap[g]? = some o)) (T : w.heap[g]? = some o → W.heap[g]? = some o) (hb : Below W.heap.size W w') : w'.heap[g]? = some o := blk_below (T H.out) hb
theorem carryG {g : Nat} {o : Obj} {w W w' : World} {b : Option Nat} (H : Aside0 (w.heap[g]? = some o)) (T : w.heap[g]? = some o → W.heap[g]? = some o) (hg : W.grownBy w' b) (hn : some g ≠ b) : w'.heap[g]? = some o := blk_grown (T H.out) hg hn
theorem carryL {g : Nat} {o : Obj} {w W : World} (H : Aside0 (w.heap[g]? = some o)) (T : w.heap[g]? = some o → W.heap[g]? = some o) : g < W.heap.size := blk_lt (T H.out)
theorem carryN {g : Nat} {o : Obj} {w W : World} {v v1 : Value} (H : Aside0 (w.heap[g]? = some o)) (T : w.heap[g]? = some o → W.heap[g]? = some o) (hn : some g ≠ v.ownBlock) (hat : v1.ownBlock = v.ownBlock ∨ ∃ b, v1.ownBlock = some b ∧ W.heap.size ≤ b) : some g ≠ v1.ownBlock := by
 rcases hat with h | ⟨b, h, hb⟩
 · rw [h]; exact hn
 · rw [h]
   intro e
   have e2 : g = b := by injection e
   have := blk_lt (T H.out)
   omega
set_option maxHeartbeats 8000000 in
set_option maxRecDepth 100000 in
theorem flow_Blocks.calls (k : Nat) (A0_0 : Option Addr) (c0_0 : Nat) (l0_0 : List (S58)) (r : List (List Int)) (w : World) (hr0_0 : Kd.C k58 w A0_0 l0_0.length l0_0) (hc0_0 : l0_0.length ≤ c0_0) (h : flow_Blocks.f k l0_0 = some r) :
 Calls Tryz.prog 22 #[.agg #[.slice A0_0 l0_0.length c0_0]] w fun e w' => ∃ v0_ : Value, e = .returned (v0_) ∧ Kd.S (Kd.slice 3 (Kd.int .i64)) 27 w' w.heap.size (fun _ => True) v0_ r ∧ Below w.heap.size w w' := by
 have hu36 := Tryz.underlying36
 have HR0_0 := am hr0_0
 have HC0_0 := am hc0_0
 clear hr0_0 hc0_0
 have HB := am (Below.refl w.heap.size w)
 have H : ((flow_Reachable.f k l0_0).bind fun t236 => (if 0 ≤ (t236.length : Int) then (if ((t236.length : Int) : Int).toNat ≤ 35184372088832 then (if ((t236.length : Int) : Int).toNat ≤ 281474976710656 then (flow_Blocks.l0 k t236 (List.replicate ((t236.length : Int) : Int).toNat 0) (List.replicate ((t236.length : Int) : Int).toNat false) t236 (t236.length : Int) 0 l0_0) else (none)) else (none)) else (none))) = some r := h
 clear h
 replace H := Option.bind_eq_some_iff.mp H
 obtain ⟨t236, A20, H⟩ := H
 try dsimp only at H
 have A2 := am A20
 clear A20
 by_cases c3 : 0 ≤ (t236.length : Int)
 rotate_left
 ·rw [if_neg c3] at H
  exact absurd H (by simp)
 rw [if_pos c3] at H
 have c3b0 := eq_true c3
 have c3b1 : decide (0 ≤ (t236.length : Int)) = true := decide_eq_true c3
 clear c3
 by_cases c4 : ((t236.length : Int) : Int).toNat ≤ 35184372088832
 rotate_left
 ·rw [if_neg c4] at H
  exact absurd H (by simp)
 rw [if_pos c4] at H
 have c4b0 := eq_true c4
 have c4b1 : decide (((t236.length : Int) : Int).toNat ≤ 35184372088832) = true := decide_eq_true c4
 clear c4
 obtain ⟨y239, hy239⟩ : ∃ y_ : List Int, y_ = (List.replicate ((t236.length : Int) : Int).toNat 0) := ⟨_, rfl⟩
 replace H : (if ((t236.length : Int) : Int).toNat ≤ 281474976710656 then (flow_Blocks.l0 k t236 y239 (List.replicate ((t236.length : Int) : Int).toNat false) t236 (t236.length : Int) 0 l0_0) else (none)) = some r := by rw [hy239]; exact H
 have Ny239 := am hy239
 clear hy239
 by_cases c5 : ((t236.length : Int) : Int).toNat ≤ 281474976710656
 rotate_left
 ·rw [if_neg c5] at H
  exact absurd H (by simp)
 rw [if_pos c5] at H
 have c5b0 := eq_true c5
 have c5b1 : decide (((t236.length : Int) : Int).toNat ≤ 281474976710656) = true := decide_eq_true c5
 clear c5
 obtain ⟨y243, hy243⟩ : ∃ y_ : List Bool, y_ = (List.replicate ((t236.length : Int) : Int).toNat false) := ⟨_, rfl⟩
 replace H : (flow_Blocks.l0 k t236 y239 y243 t236 (t236.length : Int) 0 l0_0) = some r := by rw [hy243]; exact H
 have Ny243 := am hy243
 clear hy243
 have H' := am H
 clear H
 go_enter Tryz.func22, Tryz.ntmps22
 go_wp2_with (first | ((with_reducible refine gate_dst (N := 1) rfl ?_); (try (refine gate_guard (by rfl) ?_; dsimp only)); refine box_event ?hg (N := 1) ?hd (cs := #[.slice A0_0 l0_0.length c0_0]) (t := 36) ?hr ?_; (case hd => rfl); (case hg => rfl); (case hr => first | (go_simp; done) | (go_simp; rfl)); intro gb235 hg w6 hbox hb; have n0_ := am (below_step (HB.out) hb); have n1_ := am (hbox); have n2_ := am ((by rw [hg]; exact (below_size (HB.out)) : w.heap.size ≤ gb235)); have n3_ := am ((by rw [hg]; exact (below_size (HB.out)) : w.heap.size ≤ gb235)); clear HB; have HB := n0_; have BK235 := n1_; have GW235 := n2_; have GE235 := n3_; clear n0_ n1_ n2_ n3_; clear hb hbox hg; have hcz7_0 : w6.cell? ⟨gb235, 0, none⟩ = some (.slice A0_0 l0_0.length c0_0) := (blk_cell BK235.out 0).trans rfl; have hfz7_0 := blk_frozen BK235.out 0) | ((with_reducible refine gate_callee (f := 20) rfl ?_); refine goesL_ (some 17) rfl rfl Tryz.func20 (by kernel_rfl) rfl #[.agg #[.slice A0_0 l0_0.length c0_0]] rfl (by (try simp only [List.map_toArray, List.map_cons, List.map_nil]); first | done | rfl | (simp only [List.length_drop, List.length_take]; rfl)) ?_; (with_reducible refine (flow_Reachable.calls k _ _ l0_0 t236 _ ?side1 ?side2 A2.out).mono ?_); (case side1 => repeat (first | exact (Kd.C_below HR0_0.out HB.out) | (with_reducible refine Kd.C_alloc ?_ _) | (with_reducible refine Kd.C_drewN ?_ _) | (with_reducible refine Kd.C_drew ?_))); (case side2 => exact HC0_0.out); rintro e w8 ⟨v237, rfl, ho0, hb⟩; refine ⟨_, rfl, ?_⟩; have n0_ := am (Kd.R_lower ho0 (below_size (HB.out))); have n1_ := am (blk_below (g := gb235) (o := .cells #[.slice A0_0 l0_0.length c0_0] 36 (0, 0)) (BK235.out) hb); have n2_ := am (below_step (HB.out) hb); clear BK235; clear HB; have HO238 := n0_; have BK235 := n1_; have HB := n2_; clear n0_ n1_ n2_; (try clear hb); (try clear hb2); (try clear hk); (try clear hi); (try clear ho0); obtain ⟨Ao9, co9, eo9⟩ := Kd.R_slice HO238.out; subst eo9) | ((with_reducible refine gate_dst (N := 20) rfl ?_); (try (refine gate_guard (by rfl) ?_; dsimp only)); refine Kd.R_make (Kd.int .i64) _ 3 rfl (N := 20) rfl 27 _ _ rfl (t236.length : Int) rfl rfl Tryz.underlying27 (.int .i64 0) 8 info3 rfl (by decide) (by omega) 0 (ok := fun _ => True) (okp := fun _ => True) rfl (fun _ hk => hk) trivial (odt ‹_›) (Nat.le_trans (Nat.mul_le_mul_right _ (odt ‹_› : (t236.length : Int).toNat ≤ 35184372088832)) (by omega)) (Below.refl _ _) (Nat.le_refl _) ?_; intro v240 w10 ho11 hb hg_ hnew_; clear hg_ hnew_; (first | rw [← Ny239.out] at ho11 | (simp only [Int.reduceToNat] at ho11; rw [← Ny239.out] at ho11)); have n0_ := am (Kd.R_below (HO238.out) hb); have n1_ := am (Kd.R_lower ho11 (below_size (HB.out))); have n2_ := am (blk_below (g := gb235) (o := .cells #[.slice A0_0 l0_0.length c0_0] 36 (0, 0)) (BK235.out) hb); have n3_ := am (below_step (HB.out) hb); clear HO238; clear BK235; clear HB; have HO238 := n0_; have HO241 := n1_; have BK235 := n2_; have HB := n3_; clear n0_ n1_ n2_ n3_; clear hb ho11; obtain ⟨AoE_, coE_, eo_⟩ := Kd.R_slice HO241.out; subst eo_) | ((with_reducible refine gate_dst (N := 4) rfl ?_); (try (refine gate_guard (by rfl) ?_; dsimp only)); refine box_event ?hg (N := 4) ?hd (cs := #[.slice none 0 0]) (t := 27) ?hr ?_; (case hd => rfl); (case hg => rfl); (case hr => first | (go_simp; done) | (go_simp; rfl)); intro gb242 hg w12 hbox hb; have n0_ := am (Kd.R_below (HO238.out) hb); have n1_ := am (Kd.R_below (HO241.out) hb); have n2_ := am (blk_below (g := gb235) (o := .cells #[.slice A0_0 l0_0.length c0_0] 36 (0, 0)) (BK235.out) hb); have n3_ := am (below_step (HB.out) hb); have n4_ := am (hbox); have n5_ := am ((by rw [hg]; exact (below_size (HB.out)) : w.heap.size ≤ gb242)); have n6_ := am ((by rw [hg]; exact (below_size (HB.out)) : w.heap.size ≤ gb242)); have n7_ := am ((by rw [hg]; exact Nat.ne_of_lt (blk_lt (g := gb235) (o := .cells #[.slice A0_0 l0_0.length c0_0] 36 (0, 0)) (BK235.out)) : gb235 ≠ gb242)); have n8_ := am ((by rw [hg]; exact Nat.ne_of_gt (blk_lt (g := gb235) (o := .cells #[.slice A0_0 l0_0.length c0_0] 36 (0, 0)) (BK235.out)) : gb242 ≠ gb235)); clear HO238; clear HO241; clear BK235; clear HB; have HO238 := n0_; have HO241 := n1_; have BK235 := n2_; have HB := n3_; have BK242 := n4_; have GW242 := n5_; have GE242 := n6_; have NB235_242 := n7_; have NB242_235 := n8_; clear n0_ n1_ n2_ n3_ n4_ n5_ n6_ n7_ n8_; clear hb hbox hg; have hnb13 := NB242_235.out; have hnc13 := NB235_242.out; have hcz14_0 : w12.cell? ⟨gb242, 0, none⟩ = some (.slice none 0 0) := (blk_cell BK242.out 0).trans rfl; have hfz14_0 := blk_frozen BK242.out 0) | ((with_reducible refine gate_dst (N := 23) rfl ?_); (try (refine gate_guard (by rfl) ?_; dsimp only)); refine Kd.R_make Kd.bool _ 4 rfl (N := 23) rfl 49 _ _ rfl (t236.length : Int) rfl rfl Tryz.underlying49 (.bool false) 1 info4 rfl (by decide) (by omega) false (ok := fun _ => True) (okp := fun _ => True) rfl (fun _ hk => hk) trivial (odt ‹_›) (Nat.le_trans (Nat.mul_le_mul_right _ (odt ‹_› : (t236.length : Int).toNat ≤ 281474976710656)) (by omega)) (Below.refl _ _) (Nat.le_refl _) ?_; intro v244 w15 ho16 hb hg_ hnew_; clear hg_ hnew_; (first | rw [← Ny243.out] at ho16 | (simp only [Int.reduceToNat] at ho16; rw [← Ny243.out] at ho16)); have n0_ := am (Kd.R_elder' ((Kd.R_mono (Kd.R_far (p := ⟨gb242, 0, none⟩) (Kd.R_types HO238.out BK242.out (by decide)) (fun _ hk => hk.2) _) (fun _ h_ => h_.1))) (Kd.R_base ho16) hb); have n1_ := am (Kd.R_below ((Kd.R_mono (Kd.R_far (p := ⟨gb242, 0, none⟩) (Kd.R_types HO241.out BK242.out (by decide)) (fun _ hk => hk.2) _) (fun _ h_ => h_.1))) hb); have n2_ := am (Kd.R_lower (Kd.R_new' ho16 (Kd.R_lt ((Kd.R_mono (Kd.R_far (p := ⟨gb242, 0, none⟩) (Kd.R_types HO238.out BK242.out (by decide)) (fun _ hk => hk.2) _) (fun _ h_ => h_.1))))) (below_size (by repeat (first | (with_reducible first | exact HB.out | apply below_alloc | apply pw_below_drewN | apply below_drew1 | refine below_set ?_ GE235.out | refine below_set ?_ GE242.out) | exact HB.out)))); have n3_ := am (blk_below (g := gb235) (o := .cells #[.slice A0_0 l0_0.length c0_0] 36 (0, 0)) (by (with_reducible repeat (first | refine blk_drewN ?_ _ | refine blk_drew ?_ | refine blk_alloc ?_ _)); refine blk_far ?_ NB235_242.out _; (with_reducible repeat (first | refine blk_drewN ?_ _ | refine blk_drew ?_ | refine blk_alloc ?_ _)); exact BK235.out) hb); have n4_ := am (blk_below (g := gb242) (o := .cells #[.slice AoE_ y239.length coE_] 27 (0, 0)) (by (with_reducible repeat (first | refine blk_drewN ?_ _ | refine blk_drew ?_ | refine blk_alloc ?_ _)); refine blk_put (cs := #[.slice none 0 0]) ?_ 0 _ rfl; (with_reducible repeat (first | refine blk_drewN ?_ _ | refine blk_drew ?_ | refine blk_alloc ?_ _)); exact BK242.out) hb); have n5_ := am (below_step (by repeat (first | (with_reducible first | exact HB.out | apply below_alloc | apply pw_below_drewN | apply below_drew1 | refine below_set ?_ GE235.out | refine below_set ?_ GE242.out) | exact HB.out)) hb); clear HO238; clear HO241; clear BK235; clear BK242; clear HB; have HO238 := n0_; have HO241 := n1_; have HO245 := n2_; have BK235 := n3_; have BK242 := n4_; have HB := n5_; clear n0_ n1_ n2_ n3_ n4_ n5_; clear hb ho16; obtain ⟨AoF_, coF_, eo_⟩ := Kd.R_slice HO245.out; subst eo_) | ((with_reducible refine gate_dst (N := 5) rfl ?_); (try (refine gate_guard (by rfl) ?_; dsimp only)); refine box_event ?hg (N := 5) ?hd (cs := #[.slice none 0 0]) (t := 49) ?hr ?_; (case hd => rfl); (case hg => rfl); (case hr => first | (go_simp; done) | (go_simp; rfl)); intro gb246 hg w17 hbox hb; have n0_ := am (Kd.R_below (HO238.out) hb); have n1_ := am (Kd.R_below (HO241.out) hb); have n2_ := am (Kd.R_below (HO245.out) hb); have n3_ := am (blk_below (g := gb235) (o := .cells #[.slice A0_0 l0_0.length c0_0] 36 (0, 0)) (BK235.out) hb); have n4_ := am (carryB BK242 (fun h_ => h_) hb); have n5_ := am (below_step (HB.out) hb); have n6_ := am (hbox); have n7_ := am ((by rw [hg]; exact (below_size (HB.out)) : w.heap.size ≤ gb246)); have n8_ := am ((by rw [hg]; exact (below_size (HB.out)) : w.heap.size ≤ gb246)); have n9_ := am ((by rw [hg]; exact Nat.ne_of_lt (blk_lt (g := gb235) (o := .cells #[.slice A0_0 l0_0.length c0_0] 36 (0, 0)) (BK235.out)) : gb235 ≠ gb246)); have n10_ := am ((by rw [hg]; exact Nat.ne_of_gt (blk_lt (g := gb235) (o := .cells #[.slice A0_0 l0_0.length c0_0] 36 (0, 0)) (BK235.out)) : gb246 ≠ gb235)); have n11_ := am ((by rw [hg]; exact Nat.ne_of_lt (carryL BK242 (fun h_ => h_)) : gb242 ≠ gb246)); have n12_ := am ((by rw [hg]; exact Nat.ne_of_gt (carryL BK242 (fun h_ => h_)) : gb246 ≠ gb242)); clear HO238; clear HO241; clear HO245; clear BK235; clear BK242; clear HB; have HO238 := n0_; have HO241 := n1_; have HO245 := n2_; have BK235 := n3_; have BK242 := n4_; have HB := n5_; have BK246 := n6_; have GW246 := n7_; have GE246 := n8_; have NB235_246 := n9_; have NB246_235 := n10_; have NB242_246 := n11_; have NB246_242 := n12_; clear n0_ n1_ n2_ n3_ n4_ n5_ n6_ n7_ n8_ n9_ n10_ n11_ n12_; clear hb hbox hg; have hnb18 := NB246_235.out; have hnc18 := NB235_246.out; have hnb19 := NB246_242.out; have hnc19 := NB242_246.out; have hcz20_0 : w17.cell? ⟨gb246, 0, none⟩ = some (.slice none 0 0) := (blk_cell BK246.out 0).trans rfl; have hfz20_0 := blk_frozen BK246.out 0))
 generalize (Value.slice AoE_ y239.length coE_) = v240 at *
 generalize (Value.slice AoF_ y243.length coF_) = v244 at *
 go_loopg [26] k (fun kq v26 w' => ∃ (x20_1 : List Int) (x23_1 : List Bool) (x26_1 : Int), v26 = .int .i64 x26_1 ∧ Aside0 (flow_Blocks.l0 kq t236 x20_1 x23_1 t236 (t236.length : Int) x26_1 l0_0 = some r) ∧ Aside0 (kq ≤ k) ∧ Aside0 (Kd.R Kd.bool 4 w' w.heap.size (fun k_ => some k_ ≠ (v244 : Value).ownBlock) (.slice Ao9 t236.length co9) t236) ∧ Aside0 (Kd.R (Kd.int .i64) 3 w' w.heap.size (fun _ => True) v240 x20_1) ∧ Aside0 (Kd.R Kd.bool 4 w' w.heap.size (fun k_ => some k_ ≠ ((.slice Ao9 t236.length co9) : Value).ownBlock ∧ some k_ ≠ ((.slice Ao9 t236.length co9) : Value).ownBlock) v244 x23_1) ∧ Aside0 (Kd.R Kd.bool 4 w' w.heap.size (fun k_ => some k_ ≠ (v244 : Value).ownBlock) (.slice Ao9 t236.length co9) t236) ∧ Aside0 (w'.heap[gb235]? = some (.cells #[(.slice A0_0 l0_0.length c0_0)] 36 (0, 0))) ∧ Aside0 (w'.heap[gb242]? = some (.cells #[v240] 27 (0, 0))) ∧ Aside0 (w'.heap[gb246]? = some (.cells #[v244] 49 (0, 0))) ∧ Aside0 (Below w.heap.size w w'))
 case atStart => exact ⟨(y239), (y243), (0), (rfl), H', ⟨Nat.le_refl _⟩, ⟨Kd.R_mono (Kd.R_far (p := ⟨gb246, 0, none⟩) (Kd.R_types HO238.out BK246.out (by decide)) (fun _ hk => hk.2) _) (fun _ hk => hk.1.2)⟩, ⟨Kd.R_mono (Kd.R_far (p := ⟨gb246, 0, none⟩) (Kd.R_types HO241.out BK246.out (by decide)) (fun _ hk => hk.2) _) (fun _ hk => trivial)⟩, ⟨Kd.R_mono (Kd.R_far (p := ⟨gb246, 0, none⟩) (Kd.R_types HO245.out BK246.out (by decide)) (fun _ hk => hk.2) _) (fun _ hk => ⟨hk.1.2, hk.1.2⟩)⟩, ⟨Kd.R_mono (Kd.R_far (p := ⟨gb246, 0, none⟩) (Kd.R_types HO238.out BK246.out (by decide)) (fun _ hk => hk.2) _) (fun _ hk => hk.1.2)⟩, ⟨by (with_reducible repeat (first | refine blk_drewN ?_ _ | refine blk_drew ?_ | refine blk_alloc ?_ _)); refine blk_far ?_ NB235_246.out _; (with_reducible repeat (first | refine blk_drewN ?_ _ | refine blk_drew ?_ | refine blk_alloc ?_ _)); exact BK235.out⟩, ⟨by (with_reducible repeat (first | refine blk_drewN ?_ _ | refine blk_drew ?_ | refine blk_alloc ?_ _)); refine blk_far ?_ NB242_246.out _; (with_reducible repeat (first | refine blk_drewN ?_ _ | refine blk_drew ?_ | refine blk_alloc ?_ _)); exact BK242.out⟩, ⟨by (with_reducible repeat (first | refine blk_drewN ?_ _ | refine blk_drew ?_ | refine blk_alloc ?_ _)); refine blk_put (cs := #[.slice none 0 0]) ?_ 0 _ rfl; (with_reducible repeat (first | refine blk_drewN ?_ _ | refine blk_drew ?_ | refine blk_alloc ?_ _)); exact BK246.out⟩, ⟨by repeat (first | (with_reducible first | exact HB.out | apply below_alloc | apply pw_below_drewN | apply below_drew1 | refine below_set ?_ GE235.out | refine below_set ?_ GE242.out | refine below_set ?_ GE246.out) | exact HB.out)⟩⟩
 case round =>
  clear H'
  clear c3b0 c3b1 c4b0 c4b1 c5b0 c5b1 hcz14_0 hcz20_0 hcz7_0 hfz14_0 hfz20_0 hfz7_0
  obtain ⟨x20_1, x23_1, x26_1, rfl, HA, HK1, HO_3, HO_20, HO_23, HO_24, BK235, BK242, BK246, HB⟩ := hrel
  cases gk with
  | zero => exact absurd HA.out (by simp [flow_Blocks.l0])
  | succ k1 =>
   have H := HA.out
   clear HA
   simp only [flow_Blocks.l0] at H
   by_cases c21 : x26_1 < (t236.length : Int)
   ·rw [if_pos c21] at H
    have c21b0 : decide (x26_1 < (t236.length : Int)) = true := decide_eq_true c21
    clear c21
    by_cases c22 : 0 ≤ x26_1
    rotate_left
    ·rw [if_neg c22] at H
     exact absurd H (by simp)
    rw [if_pos c22] at H
    have c22b0 : decide (0 ≤ x26_1) = true := decide_eq_true c22
    clear c22
    by_cases c23 : x26_1 < (t236.length : Int)
    rotate_left
    ·rw [if_neg c23] at H
     exact absurd H (by simp)
    rw [if_pos c23] at H
    have c23b0 : decide (x26_1 < (t236.length : Int)) = true := decide_eq_true c23
    clear c23
    obtain ⟨bq24, hbq24⟩ : ∃ b_ : Bool, b_ = (rdOf false t236 x26_1) := ⟨_, rfl⟩
    replace H : (if bq24 = true then (if x26_1 < (l0_0.length : Int) then (flow_Blocks.l1 k1 t236 x26_1 x20_1 x23_1 t236 (t236.length : Int) x26_1 ((rd_T58 l0_0 x26_1).f2) (((rd_T58 l0_0 x26_1).f2).length : Int) 0 l0_0) else (none)) else (flow_Blocks.l0 k1 t236 x20_1 x23_1 t236 (t236.length : Int) (wrap64 (x26_1 + 1)) l0_0)) = some r := by rw [← hbq24] at H; exact H
    have Nbq24 := am hbq24
    clear hbq24
    by_cases c25 : bq24 = true
    rotate_left
    ·replace c25 := Bool.eq_false_iff.mpr c25
     subst c25
     rw [if_neg (show ¬ (false = true) by decide)] at H
     have H' := am H
     clear H
     have p247 : 0 ≤ (x26_1 : Int) := odt ‹_›
     have q247 : x26_1 < (t236.length : Int) := odt ‹_›
     obtain ⟨ad247, e247, hx247_0⟩ := Kd.at_bool (Kd.R_reads' HO_24.out).2.2 x26_1 p247 q247
     (try rw [← Nbq24.out] at hx247_0)
     cases e247
     replace p247 := eq_true p247
     replace q247 := eq_true q247
     go_wp2
     go_roundg k1
     case measure => have := HK1.out; omega
     case rel => exact ⟨(x20_1), (x23_1), (wrap64 (x26_1 + 1)), (rfl), H', ⟨by have := HK1.out; omega⟩, ⟨HO_3.out⟩, ⟨HO_20.out⟩, ⟨HO_23.out⟩, ⟨HO_24.out⟩, ⟨BK235.out⟩, ⟨BK242.out⟩, ⟨BK246.out⟩, ⟨HB.out⟩⟩
    subst c25
    rw [if_pos rfl] at H
    by_cases c26 : x26_1 < (l0_0.length : Int)
    rotate_left
    ·rw [if_neg c26] at H
     exact absurd H (by simp)
    rw [if_pos c26] at H
    have c26b0 : decide (x26_1 < (l0_0.length : Int)) = true := decide_eq_true c26
    clear c26
    have H' := am H
    clear H
    have p247 : 0 ≤ (x26_1 : Int) := odt ‹_›
    have q247 : x26_1 < (t236.length : Int) := odt ‹_›
    obtain ⟨ad247, e247, hx247_0⟩ := Kd.at_bool (Kd.R_reads' HO_24.out).2.2 x26_1 p247 q247
    (try rw [← Nbq24.out] at hx247_0)
    cases e247
    replace p247 := eq_true p247
    replace q247 := eq_true q247
    have hnb27 := NB235_242.out
    have hnc27 := NB242_235.out
    have hnb28 := NB235_246.out
    have hnc28 := NB246_235.out
    have hcz29_0 : wr.cell? ⟨gb235, 0, none⟩ = some (.slice A0_0 l0_0.length c0_0) := (blk_cell BK235.out 0).trans rfl
    have hfz29_0 := blk_frozen BK235.out 0
    have p248 : 0 ≤ (x26_1 : Int) := odt ‹_›
    have q248 : x26_1 < (l0_0.length : Int) := odt ‹_›
    obtain ⟨ad248, A248_2, c248_2, e248, hx248_0, hx248_1, hx248_2, hl248_2, hi248_2⟩ := at_T58 HR0_0.out x26_1 p248 q248
    cases e248
    replace hx248_0 := (HB.out.cell (blc w _ hx248_0)).trans hx248_0
    replace hx248_1 := (HB.out.cell (blc w _ hx248_1)).trans hx248_1
    replace hx248_2 := (HB.out.cell (blc w _ hx248_2)).trans hx248_2
    have HR248_2 := am hi248_2
    have HC248_2 := am hl248_2
    clear hi248_2 hl248_2
    replace p248 := eq_true p248
    replace q248 := eq_true q248
    go_wp2
    go_loopg [40] k1 (fun kq v40 w' => ∃ (x20_2 : List Int) (x23_2 : List Bool) (x40_2 : Int), v40 = .int .i64 x40_2 ∧ Aside0 (flow_Blocks.l1 kq t236 x26_1 x20_2 x23_2 t236 (t236.length : Int) x26_1 ((rd_T58 l0_0 x26_1).f2) (((rd_T58 l0_0 x26_1).f2).length : Int) x40_2 l0_0 = some r) ∧ Aside0 (kq ≤ k1) ∧ Aside0 (Kd.R Kd.bool 4 w' w.heap.size (fun k_ => some k_ ≠ (v244 : Value).ownBlock) (.slice (some ad247) t236.length co9) t236) ∧ Aside0 (Kd.R (Kd.int .i64) 3 w' w.heap.size (fun _ => True) v240 x20_2) ∧ Aside0 (Kd.R Kd.bool 4 w' w.heap.size (fun k_ => some k_ ≠ ((.slice (some ad247) t236.length co9) : Value).ownBlock ∧ some k_ ≠ ((.slice (some ad247) t236.length co9) : Value).ownBlock) v244 x23_2) ∧ Aside0 (Kd.R Kd.bool 4 w' w.heap.size (fun k_ => some k_ ≠ (v244 : Value).ownBlock) (.slice (some ad247) t236.length co9) t236) ∧ Aside0 (w'.heap[gb235]? = some (.cells #[(.slice (some ad248) l0_0.length c0_0)] 36 (0, 0))) ∧ Aside0 (w'.heap[gb242]? = some (.cells #[v240] 27 (0, 0))) ∧ Aside0 (w'.heap[gb246]? = some (.cells #[v244] 49 (0, 0))) ∧ Aside0 (Below w.heap.size w w'))
    case atStart => exact ⟨(x20_1), (x23_1), (0), (rfl), H', ⟨Nat.le_refl _⟩, ⟨HO_3.out⟩, ⟨HO_20.out⟩, ⟨HO_23.out⟩, ⟨HO_24.out⟩, ⟨BK235.out⟩, ⟨BK242.out⟩, ⟨BK246.out⟩, ⟨HB.out⟩⟩
    case round =>
     clear H'
     clear c21b0 c22b0 c23b0 c26b0 hcz29_0 hfz29_0 hx247_0 hx248_0 hx248_1 hx248_2 p247 p248 q247 q248
     obtain ⟨x20_2, x23_2, x40_2, rfl, HA, HK2, HO_3, HO_20, HO_23, HO_24, BK235, BK242, BK246, HB⟩ := hrel
     cases gk with
     | zero => exact absurd HA.out (by simp [flow_Blocks.l1])
     | succ k2 =>
      have H := HA.out
      clear HA
      simp only [flow_Blocks.l1] at H
      by_cases c30 : x40_2 < (((rd_T58 l0_0 x26_1).f2).length : Int)
      rotate_left
      ·rw [if_neg c30] at H
       have c30b0 : decide (x40_2 < (((rd_T58 l0_0 x26_1).f2).length : Int)) = false := decide_eq_false c30
       clear c30
       have H' := am H
       clear H
       go_wp2
       go_roundg k2
       case measure => have := HK1.out; have := HK2.out; omega
       case rel => exact ⟨(x20_2), (x23_2), (wrap64 (x26_1 + 1)), (rfl), H', ⟨by have := HK1.out; have := HK2.out; omega⟩, ⟨HO_3.out⟩, ⟨HO_20.out⟩, ⟨HO_23.out⟩, ⟨HO_24.out⟩, ⟨BK235.out⟩, ⟨BK242.out⟩, ⟨BK246.out⟩, ⟨HB.out⟩⟩
      rw [if_pos c30] at H
      have c30b0 : decide (x40_2 < (((rd_T58 l0_0 x26_1).f2).length : Int)) = true := decide_eq_true c30
      clear c30
      by_cases c31 : 0 ≤ x40_2
      rotate_left
      ·rw [if_neg c31] at H
       exact absurd H (by simp)
      rw [if_pos c31] at H
      have c31b0 : decide (0 ≤ x40_2) = true := decide_eq_true c31
      clear c31
      by_cases c32 : x40_2 < (((rd_T58 l0_0 x26_1).f2).length : Int)
      rotate_left
      ·rw [if_neg c32] at H
       exact absurd H (by simp)
      rw [if_pos c32] at H
      have c32b0 : decide (x40_2 < (((rd_T58 l0_0 x26_1).f2).length : Int)) = true := decide_eq_true c32
      clear c32
      by_cases c33 : 0 ≤ (rd ((rd_T58 l0_0 x26_1).f2) x40_2)
      rotate_left
      ·rw [if_neg c33] at H
       exact absurd H (by simp)
      rw [if_pos c33] at H
      have c33b0 : decide (0 ≤ (rd ((rd_T58 l0_0 x26_1).f2) x40_2)) = true := decide_eq_true c33
      clear c33
      by_cases c34 : (rd ((rd_T58 l0_0 x26_1).f2) x40_2) < (x20_2.length : Int)
      rotate_left
      ·rw [if_neg c34] at H
       exact absurd H (by simp)
      rw [if_pos c34] at H
      have c34b0 : decide ((rd ((rd_T58 l0_0 x26_1).f2) x40_2) < (x20_2.length : Int)) = true := decide_eq_true c34
      clear c34
      obtain ⟨y251, hy251⟩ : ∃ y_ : List Int, y_ = (x20_2.set ((rd ((rd_T58 l0_0 x26_1).f2) x40_2) : Int).toNat (wrap64 ((rd x20_2 (rd ((rd_T58 l0_0 x26_1).f2) x40_2)) + 1))) := ⟨_, rfl⟩
      replace H : (if (rd ((rd_T58 l0_0 x26_1).f2) x40_2) < (x23_2.length : Int) then (if rdOf false x23_2 (rd ((rd_T58 l0_0 x26_1).f2) x40_2) = true then (flow_Blocks.l1 k2 t236 x26_1 y251 (x23_2.set ((rd ((rd_T58 l0_0 x26_1).f2) x40_2) : Int).toNat true) t236 (t236.length : Int) x26_1 ((rd_T58 l0_0 x26_1).f2) (((rd_T58 l0_0 x26_1).f2).length : Int) (wrap64 (x40_2 + 1)) l0_0) else (if 0 ≤ x26_1 then (if x26_1 < (l0_0.length : Int) then (flow_Blocks.l1 k2 t236 x26_1 y251 (x23_2.set ((rd ((rd_T58 l0_0 x26_1).f2) x40_2) : Int).toNat (decide ((((rd_T58 l0_0 x26_1).f2).length : Int) > 1))) t236 (t236.length : Int) x26_1 ((rd_T58 l0_0 x26_1).f2) (((rd_T58 l0_0 x26_1).f2).length : Int) (wrap64 (x40_2 + 1)) l0_0) else (none)) else (none))) else (none)) = some r := by rw [hy251]; exact H
      have Ny251 := am hy251
      clear hy251
      by_cases c36 : (rd ((rd_T58 l0_0 x26_1).f2) x40_2) < (x23_2.length : Int)
      rotate_left
      ·rw [if_neg c36] at H
       exact absurd H (by simp)
      rw [if_pos c36] at H
      have c36b0 : decide ((rd ((rd_T58 l0_0 x26_1).f2) x40_2) < (x23_2.length : Int)) = true := decide_eq_true c36
      clear c36
      obtain ⟨bq37, hbq37⟩ : ∃ b_ : Bool, b_ = (rdOf false x23_2 (rd ((rd_T58 l0_0 x26_1).f2) x40_2)) := ⟨_, rfl⟩
      replace H : (if bq37 = true then (flow_Blocks.l1 k2 t236 x26_1 y251 (x23_2.set ((rd ((rd_T58 l0_0 x26_1).f2) x40_2) : Int).toNat true) t236 (t236.length : Int) x26_1 ((rd_T58 l0_0 x26_1).f2) (((rd_T58 l0_0 x26_1).f2).length : Int) (wrap64 (x40_2 + 1)) l0_0) else (if 0 ≤ x26_1 then (if x26_1 < (l0_0.length : Int) then (flow_Blocks.l1 k2 t236 x26_1 y251 (x23_2.set ((rd ((rd_T58 l0_0 x26_1).f2) x40_2) : Int).toNat (decide ((((rd_T58 l0_0 x26_1).f2).length : Int) > 1))) t236 (t236.length : Int) x26_1 ((rd_T58 l0_0 x26_1).f2) (((rd_T58 l0_0 x26_1).f2).length : Int) (wrap64 (x40_2 + 1)) l0_0) else (none)) else (none))) = some r := by rw [← hbq37] at H; exact H
      have Nbq37 := am hbq37
      clear hbq37
      by_cases c38 : bq37 = true
      ·subst c38
       rw [if_pos rfl] at H
       obtain ⟨y253, hy253⟩ : ∃ y_ : List Bool, y_ = (x23_2.set ((rd ((rd_T58 l0_0 x26_1).f2) x40_2) : Int).toNat true) := ⟨_, rfl⟩
       replace H : (flow_Blocks.l1 k2 t236 x26_1 y251 y253 t236 (t236.length : Int) x26_1 ((rd_T58 l0_0 x26_1).f2) (((rd_T58 l0_0 x26_1).f2).length : Int) (wrap64 (x40_2 + 1)) l0_0) = some r := by rw [hy253]; exact H
       have Ny253 := am hy253
       clear hy253
       have H' := am H
       clear H
       have p249 : 0 ≤ (x40_2 : Int) := odt ‹_›
       have q249 : x40_2 < (((rd_T58 l0_0 x26_1).f2).length : Int) := odt ‹_›
       obtain ⟨ad249, e249, hx249_0⟩ := Kd.at_int HR248_2.out x40_2 p249 q249
       cases e249
       replace hx249_0 := (HB.out.cell (blc w _ hx249_0)).trans hx249_0
       replace p249 := eq_true p249
       replace q249 := eq_true q249
       obtain ⟨Ao40, co40, eo40⟩ := Kd.R_slice HO_20.out
       subst eo40
       have p250 : 0 ≤ ((rd ((rd_T58 l0_0 x26_1).f2) x40_2) : Int) := odt ‹_›
       have q250 : (rd ((rd_T58 l0_0 x26_1).f2) x40_2) < (x20_2.length : Int) := odt ‹_›
       obtain ⟨ad250, e250, hx250_0⟩ := Kd.at_int (Kd.R_reads' HO_20.out).2.2 (rd ((rd_T58 l0_0 x26_1).f2) x40_2) p250 q250
       cases e250
       replace p250 := eq_true p250
       replace q250 := eq_true q250
       have p35 : 0 ≤ ((rd ((rd_T58 l0_0 x26_1).f2) x40_2) : Int) := odt ‹_›
       have q35 : ((rd ((rd_T58 l0_0 x26_1).f2) x40_2) : Int) < ((x20_2.length : Int) : Int) := odt ‹_›
       obtain ⟨go35, co35, eo35, gb35, gl35, cl35, HG35⟩ := Kd.R_form HO_20.out (by omega)
       (first | cases eo35 | (injection eo35 with ea_ en_ ec_; (first | subst ea_ | (injection ea_ with ea_; subst ea_)); subst ec_; clear en_))
       have GB35 := am gb35
       have GG35 := am HG35
       clear gb35 gl35 HG35
       (first | simp only [add_plain] at hx250_0 | skip)
       obtain ⟨hx35_0, hf35_0⟩ := Kd.R_celln 0 HO_20.out ((rd ((rd_T58 l0_0 x26_1).f2) x40_2) : Int) p35 q35
       replace p35 := eq_true p35
       replace q35 := eq_true q35
       have HP41 := Kd.R_putg HO_20.out ((rd ((rd_T58 l0_0 x26_1).f2) x40_2) : Int) (wrap64 ((rd x20_2 (rd ((rd_T58 l0_0 x26_1).f2) x40_2)) + 1))
       have hczE : wr.cell? ⟨gb242, 0, none⟩ = some _ := (blk_cell BK242.out 0).trans rfl
       try go_wp2_with (first | ((with_reducible refine gate_store (t := 3) (p := 49) rfl ?_); refine store_event (t := 3) (p := 49) (v := ?vo_w42) (w1 := (wr.setCell ⟨go35, ((rd ((rd_T58 l0_0 x26_1).f2) x40_2) : Int).toNat, none⟩ (.int .i64 (wrap64 ((rd x20_2 (rd ((rd_T58 l0_0 x26_1).f2) x40_2)) + 1))))) ?hg ?ho ?hn ?hr ?_; (case ho => rfl); (case hg => rfl); (case hn => rfl); (case hr => first | (go_simp; done) | (go_simp; rfl)); intro w42 hw; have hg : wr.grownBy w42 (some go35) := (by rw [hw]; exact HP41.2); have hp_ : Kd.R (Kd.int .i64) 3 w42 w.heap.size (fun _ => True) (.slice (some ⟨go35, 0, none⟩) x20_2.length co40) y251 := (by rw [hw, Ny251.out]; exact HP41.1); clear HP41; have n0_ := am (Kd.R_over' (v := (.slice (some ⟨go35, 0, none⟩) x20_2.length co40)) (HO_3.out) (Kd.R_typed HO_20.out) (by decide) hg); have n1_ := am (hp_); have n2_ := am (Kd.R_over' (v := (.slice (some ⟨go35, 0, none⟩) x20_2.length co40)) (HO_23.out) (Kd.R_typed HO_20.out) (by decide) hg); have n3_ := am (Kd.R_over' (v := (.slice (some ⟨go35, 0, none⟩) x20_2.length co40)) (HO_24.out) (Kd.R_typed HO_20.out) (by decide) hg); have n4_ := am (blk_grown (g := gb235) (o := .cells #[.slice (some ad248) l0_0.length c0_0] 36 (0, 0)) (BK235.out) hg (Kd.R_ne HO_20.out BK235.out (by decide))); have n5_ := am (carryG BK242 (fun h_ => h_) hg (Kd.R_ne HO_20.out BK242.out (by decide))); have n6_ := am (carryG BK246 (fun h_ => h_) hg (Kd.R_ne HO_20.out BK246.out (by decide))); have n7_ := am ((by rw [hw]; exact below_set (HB.out) GB35.out : Below w.heap.size w w42)); clear HO_3; clear HO_20; clear HO_23; clear HO_24; clear BK235; clear BK242; clear BK246; clear HB; have HO_3 := n0_; have HO_20 := n1_; have HO_23 := n2_; have HO_24 := n3_; have BK235 := n4_; have BK242 := n5_; have BK246 := n6_; have HB := n7_; clear n0_ n1_ n2_ n3_ n4_ n5_ n6_ n7_; clear hg hw hp_))
       have n0_ := am (Kd.R_drew HO_3.out)
       have n1_ := am (Kd.R_drew HO_20.out)
       have n2_ := am (Kd.R_drew HO_23.out)
       have n3_ := am (Kd.R_drew HO_24.out)
       have n4_ := am (blk_drew BK235.out)
       have n5_ := am (blk_drew BK242.out)
       have n6_ := am (blk_drew BK246.out)
       have n7_ := am (below_drew1 HB.out)
       clear HO_3 HO_20 HO_23 HO_24 BK235 BK242 BK246 HB
       have HO_3 := n0_
       have HO_20 := n1_
       have HO_23 := n2_
       have HO_24 := n3_
       have BK235 := n4_
       have BK242 := n5_
       have BK246 := n6_
       have HB := n7_
       clear n0_ n1_ n2_ n3_ n4_ n5_ n6_ n7_
       obtain ⟨Ao44, co44, eo44⟩ := Kd.R_slice HO_23.out
       (first | subst eo44 | (injection eo44 with f1_ f2_ f3_; have f4_ := f1_.symm; have f5_ := f3_.symm; clear f1_ f2_ f3_; subst f4_; subst f5_))
       have p252 : 0 ≤ ((rd ((rd_T58 l0_0 x26_1).f2) x40_2) : Int) := odt ‹_›
       have q252 : (rd ((rd_T58 l0_0 x26_1).f2) x40_2) < (x23_2.length : Int) := odt ‹_›
       obtain ⟨ad252, e252, hx252_0⟩ := Kd.at_bool (Kd.R_reads' HO_23.out).2.2 (rd ((rd_T58 l0_0 x26_1).f2) x40_2) p252 q252
       (try rw [← Nbq24.out] at hx252_0)
       (try rw [← Nbq37.out] at hx252_0)
       cases e252
       replace p252 := eq_true p252
       replace q252 := eq_true q252
       have p39 : 0 ≤ ((rd ((rd_T58 l0_0 x26_1).f2) x40_2) : Int) := odt ‹_›
       have q39 : ((rd ((rd_T58 l0_0 x26_1).f2) x40_2) : Int) < ((x23_2.length : Int) : Int) := odt ‹_›
       obtain ⟨go39, co39, eo39, gb39, gl39, cl39, HG39⟩ := Kd.R_form HO_23.out (by omega)
       (first | cases eo39 | (injection eo39 with ea_ en_ ec_; (first | subst ea_ | (injection ea_ with ea_; subst ea_)); subst ec_; clear en_))
       have GB39 := am gb39
       have GG39 := am HG39
       clear gb39 gl39 HG39
       (first | simp only [add_plain] at hx252_0 | skip)
       obtain ⟨hx39_0, hf39_0⟩ := Kd.R_celln false HO_23.out ((rd ((rd_T58 l0_0 x26_1).f2) x40_2) : Int) p39 q39
       replace p39 := eq_true p39
       replace q39 := eq_true q39
       have HP45 := Kd.R_putn HO_23.out ((rd ((rd_T58 l0_0 x26_1).f2) x40_2) : Int) true
       rw [← Ny253.out] at HP45
       have HQ45 := am HP45
       clear HP45
       refine start_ (n := 18) (S := fun w' => w'.cell? ⟨gb246, 0, none⟩ = some _ ∧ w'.cell? ⟨go39, ((rd ((rd_T58 l0_0 x26_1).f2) x40_2)).toNat, none⟩ = some (.bool true)) (ds := [17]) #[false, false, false, false, false, false, false, false, false, false, false, false, false, false, false, false, false, false] (by kernel_rfl) rfl rfl ⟨(blk_cell BK246.out 0).trans rfl, hx252_0⟩ (fun hHeld => ?_); refine with_tabW flow_Blocks.tab12 flow_Blocks.bits12 (fun HT_ HW_ => ?_)
       generalize w42.drew = w43 at HO_3 HO_20 HO_23 HO_24 BK235 BK242 BK246 HB GG39 HQ45 hf39_0 hx252_0 hx39_0 hHeld ⊢
       refine take_ (i := 0) (N := some 50) (v := ?_) (a' := ?_) #[true, false, false, false, false, false, false, false, false, false, false, false, false, false, false, false, false, false] rfl rfl (take_ofW HT_.out HW_.out (by kernel_rfl)) (fun _ _ _ h => h) (Or.inl ⟨by rfl, ?_⟩) hHeld ?_ ?_
       rotate_left
       ·rintro w' ⟨sB, s0⟩
        go_simp
        with_reducible rfl
       rotate_left
       ·simp only [Act.put, List.setIfInBounds_toArray, List.set_cons_zero, List.set_cons_succ, i64_w, i32_w]
        rfl
       refine pure_ (i := 1) (N := some 51) (v := ?_) (a' := ?_) #[true, true, false, false, false, false, false, false, false, false, false, false, false, false, false, false, false, false] rfl rfl (any_of HT_.out (by kernel_rfl)) (fun _ _ _ h => h) (Or.inl ⟨by rfl, ?_⟩) ?_ ?_
       rotate_left
       ·intro w'
        go_simp
        with_reducible rfl
       rotate_left
       ·simp only [Act.put, List.setIfInBounds_toArray, List.set_cons_zero, List.set_cons_succ, i64_w, i32_w]
        rfl
       refine take_ (i := 2) (N := some 52) (v := ?_) (a' := ?_) #[true, true, true, false, false, false, false, false, false, false, false, false, false, false, false, false, false, false] rfl rfl (take_ofW HT_.out HW_.out (by kernel_rfl)) (fun _ _ _ h => h) (Or.inl ⟨by rfl, ?_⟩) hHeld ?_ ?_
       rotate_left
       ·rintro w' ⟨sB, s0⟩
        go_simp
        with_reducible rfl
       rotate_left
       ·simp only [Act.put, List.setIfInBounds_toArray, List.set_cons_zero, List.set_cons_succ, i64_w, i32_w]
        rfl
       refine pure_ (i := 3) (N := some 53) (v := ?_) (a' := ?_) #[true, true, true, true, false, false, false, false, false, false, false, false, false, false, false, false, false, false] rfl rfl (any_of HT_.out (by kernel_rfl)) (fun _ _ _ h => h) (Or.inl ⟨by rfl, ?_⟩) ?_ ?_
       rotate_left
       ·intro w'
        go_simp
        with_reducible rfl
       rotate_left
       ·simp only [Act.put, List.setIfInBounds_toArray, List.set_cons_zero, List.set_cons_succ, i64_w, i32_w]
        rfl
       refine pure_ (i := 4) (N := some 54) (v := ?_) (a' := ?_) #[true, true, true, true, true, false, false, false, false, false, false, false, false, false, false, false, false, false] rfl rfl (any_of HT_.out (by kernel_rfl)) (fun _ _ _ h => h) (Or.inl ⟨by rfl, ?_⟩) ?_ ?_
       rotate_left
       ·intro w'
        go_simp
        with_reducible rfl
       rotate_left
       ·simp only [Act.put, List.setIfInBounds_toArray, List.set_cons_zero, List.set_cons_succ, i64_w, i32_w]
        rfl
       refine take_ (i := 5) (N := some 55) (v := ?_) (a' := ?_) #[true, true, true, true, true, true, false, false, false, false, false, false, false, false, false, false, false, false] rfl rfl (take_ofW HT_.out HW_.out (by kernel_rfl)) (fun _ _ _ h => h) (Or.inl ⟨by rfl, ?_⟩) hHeld ?_ ?_
       rotate_left
       ·rintro w' ⟨sB, s0⟩
        go_simp
        with_reducible rfl
       rotate_left
       ·simp only [Act.put, List.setIfInBounds_toArray, List.set_cons_zero, List.set_cons_succ, i64_w, i32_w]
        rfl
       refine pure_ (i := 6) (N := some 56) (v := ?_) (a' := ?_) #[true, true, true, true, true, true, true, false, false, false, false, false, false, false, false, false, false, false] rfl rfl (any_of HT_.out (by kernel_rfl)) (fun _ _ _ h => h) (Or.inl ⟨by rfl, ?_⟩) ?_ ?_
       rotate_left
       ·intro w'
        go_simp
        with_reducible rfl
       rotate_left
       ·simp only [Act.put, List.setIfInBounds_toArray, List.set_cons_zero, List.set_cons_succ, i64_w, i32_w]
        rfl
       refine pure_ (i := 7) (N := some 57) (v := undef) (a' := ?_) #[true, true, true, true, true, true, true, true, false, false, false, false, false, false, false, false, false, false] rfl rfl (any_of HT_.out (by kernel_rfl)) (fun _ _ _ h => h) (Or.inr ⟨by rfl, rfl⟩) ?_ ?_
       rotate_left
       ·simp only [Act.put, List.setIfInBounds_toArray, List.set_cons_zero, List.set_cons_succ, i64_w, i32_w]
        rfl
       refine pure_ (i := 8) (N := some 58) (v := undef) (a' := ?_) #[true, true, true, true, true, true, true, true, true, false, false, false, false, false, false, false, false, false] rfl rfl (any_of HT_.out (by kernel_rfl)) (fun _ _ _ h => h) (Or.inr ⟨by rfl, rfl⟩) ?_ ?_
       rotate_left
       ·simp only [Act.put, List.setIfInBounds_toArray, List.set_cons_zero, List.set_cons_succ, i64_w, i32_w]
        rfl
       refine pure_ (i := 9) (N := some 59) (v := undef) (a' := ?_) #[true, true, true, true, true, true, true, true, true, true, false, false, false, false, false, false, false, false] rfl rfl (any_of HT_.out (by kernel_rfl)) (fun _ _ _ h => h) (Or.inr ⟨by rfl, rfl⟩) ?_ ?_
       rotate_left
       ·simp only [Act.put, List.setIfInBounds_toArray, List.set_cons_zero, List.set_cons_succ, i64_w, i32_w]
        rfl
       refine pure_ (i := 10) (N := some 60) (v := undef) (a' := ?_) #[true, true, true, true, true, true, true, true, true, true, true, false, false, false, false, false, false, false] rfl rfl (any_of HT_.out (by kernel_rfl)) (fun _ _ _ h => h) (Or.inr ⟨by rfl, rfl⟩) ?_ ?_
       rotate_left
       ·simp only [Act.put, List.setIfInBounds_toArray, List.set_cons_zero, List.set_cons_succ, i64_w, i32_w]
        rfl
       refine pure_ (i := 11) (N := some 61) (v := undef) (a' := ?_) #[true, true, true, true, true, true, true, true, true, true, true, true, false, false, false, false, false, false] rfl rfl (any_of HT_.out (by kernel_rfl)) (fun _ _ _ h => h) (Or.inr ⟨by rfl, rfl⟩) ?_ ?_
       rotate_left
       ·simp only [Act.put, List.setIfInBounds_toArray, List.set_cons_zero, List.set_cons_succ, i64_w, i32_w]
        rfl
       refine pure_ (i := 12) (N := some 62) (v := undef) (a' := ?_) #[true, true, true, true, true, true, true, true, true, true, true, true, true, false, false, false, false, false] rfl rfl (any_of HT_.out (by kernel_rfl)) (fun _ _ _ h => h) (Or.inr ⟨by rfl, rfl⟩) ?_ ?_
       rotate_left
       ·simp only [Act.put, List.setIfInBounds_toArray, List.set_cons_zero, List.set_cons_succ, i64_w, i32_w]
        rfl
       refine pure_ (i := 13) (N := some 63) (v := undef) (a' := ?_) #[true, true, true, true, true, true, true, true, true, true, true, true, true, true, false, false, false, false] rfl rfl (any_of HT_.out (by kernel_rfl)) (fun _ _ _ h => h) (Or.inr ⟨by rfl, rfl⟩) ?_ ?_
       rotate_left
       ·simp only [Act.put, List.setIfInBounds_toArray, List.set_cons_zero, List.set_cons_succ, i64_w, i32_w]
        rfl
       refine pure_ (i := 14) (N := some 64) (v := undef) (a' := ?_) #[true, true, true, true, true, true, true, true, true, true, true, true, true, true, true, false, false, false] rfl rfl (any_of HT_.out (by kernel_rfl)) (fun _ _ _ h => h) (Or.inr ⟨by rfl, rfl⟩) ?_ ?_
       rotate_left
       ·simp only [Act.put, List.setIfInBounds_toArray, List.set_cons_zero, List.set_cons_succ, i64_w, i32_w]
        rfl
       refine pure_ (i := 15) (N := some 65) (v := ?_) (a' := ?_) #[true, true, true, true, true, true, true, true, true, true, true, true, true, true, true, true, false, false] rfl rfl (any_of HT_.out (by kernel_rfl)) (fun _ _ _ h => h) (Or.inl ⟨by rfl, ?_⟩) ?_ ?_
       rotate_left
       ·intro w'
        go_simp
        with_reducible rfl
       rotate_left
       ·simp only [Act.put, List.setIfInBounds_toArray, List.set_cons_zero, List.set_cons_succ, i64_w, i32_w]
        rfl
       refine pure_ (i := 16) (N := some 66) (v := ?_) (a' := ?_) #[true, true, true, true, true, true, true, true, true, true, true, true, true, true, true, true, true, false] rfl rfl (any_of HT_.out (by kernel_rfl)) (fun _ _ _ h => h) (Or.inl ⟨by rfl, ?_⟩) ?_ ?_
       rotate_left
       ·intro w'
        go_simp
        with_reducible rfl
       rotate_left
       ·simp only [Act.put, List.setIfInBounds_toArray, List.set_cons_zero, List.set_cons_succ, i64_w, i32_w]
        rfl
       refine last_ (i := 17) (N := none) #[true, true, true, true, true, true, true, true, true, true, true, true, true, true, true, true, true, true] rfl rfl (one_of HT_.out (by kernel_rfl)) (by decide) (fun K hK => ?_)
       refine skip_ (w1 := ?_) (by rfl) rfl ?_ ?_
       rotate_left
       ·go_simp
        rfl
       refine hK.out _ _ ?_
       clear hK K
       refine done_ (done_of HT_.out (by kernel_rfl)) ?_
       try go_wp2
       go_roundg k2
       case measure => have := HK1.out; have := HK2.out; omega
       case rel => exact ⟨(y251), (y253), (wrap64 (x40_2 + 1)), (rfl), H', ⟨by have := HK1.out; have := HK2.out; omega⟩, ⟨by (with_reducible repeat (first | apply Kd.R_alloc | apply Kd.R_drewN | apply Kd.R_drew)); exact Kd.R_mono (Kd.R_far (p := ⟨go39, ((rd ((rd_T58 l0_0 x26_1).f2) x40_2) : Int).toNat, none⟩) (Kd.R_mono HO_3.out (fun k_ hk => (⟨hk, fun e_ => hk (by rw [e_]; rfl)⟩ : _ ∧ k_ ≠ go39))) (fun _ hk => hk.2) (.bool true)) (fun _ hk => hk.1)⟩, ⟨Kd.R_mono (Kd.R_far (p := ⟨go39, ((rd ((rd_T58 l0_0 x26_1).f2) x40_2) : Int).toNat, none⟩) (Kd.R_types HO_20.out GG39.out (by decide)) (fun _ hk => hk.2) (.bool true)) (fun _ hk => trivial)⟩, ⟨by (with_reducible repeat (first | apply Kd.R_alloc | apply Kd.R_drewN | apply Kd.R_drew)); exact HQ45.out⟩, ⟨by (with_reducible repeat (first | apply Kd.R_alloc | apply Kd.R_drewN | apply Kd.R_drew)); exact Kd.R_mono (Kd.R_far (p := ⟨go39, ((rd ((rd_T58 l0_0 x26_1).f2) x40_2) : Int).toNat, none⟩) (Kd.R_mono HO_24.out (fun k_ hk => (⟨hk, fun e_ => hk (by rw [e_]; rfl)⟩ : _ ∧ k_ ≠ go39))) (fun _ hk => hk.2) (.bool true)) (fun _ hk => hk.1)⟩, ⟨by (with_reducible repeat (first | refine blk_drewN ?_ _ | refine blk_drew ?_ | refine blk_alloc ?_ _)); refine blk_far ?_ (by have h_ := Kd.R_ne HO_23.out BK235.out (by decide); intro e_; exact h_ (by rw [e_]; rfl)) _; (with_reducible repeat (first | refine blk_drewN ?_ _ | refine blk_drew ?_ | refine blk_alloc ?_ _)); exact BK235.out⟩, ⟨by (with_reducible repeat (first | refine blk_drewN ?_ _ | refine blk_drew ?_ | refine blk_alloc ?_ _)); refine blk_far ?_ (by have h_ := Kd.R_ne HO_23.out BK242.out (by decide); intro e_; exact h_ (by rw [e_]; rfl)) _; (with_reducible repeat (first | refine blk_drewN ?_ _ | refine blk_drew ?_ | refine blk_alloc ?_ _)); exact BK242.out⟩, ⟨by (with_reducible repeat (first | refine blk_drewN ?_ _ | refine blk_drew ?_ | refine blk_alloc ?_ _)); refine blk_far ?_ (by have h_ := Kd.R_ne HO_23.out BK246.out (by decide); intro e_; exact h_ (by rw [e_]; rfl)) _; (with_reducible repeat (first | refine blk_drewN ?_ _ | refine blk_drew ?_ | refine blk_alloc ?_ _)); exact BK246.out⟩, ⟨by repeat (first | (with_reducible first | exact HB.out | apply below_alloc | apply pw_below_drewN | apply below_drew1 | refine below_set ?_ GB39.out | refine below_set ?_ GE235.out | refine below_set ?_ GE242.out | refine below_set ?_ GE246.out) | exact HB.out)⟩⟩
      replace c38 := Bool.eq_false_iff.mpr c38
      subst c38
      rw [if_neg (show ¬ (false = true) by decide)] at H
      by_cases c46 : 0 ≤ x26_1
      rotate_left
      ·rw [if_neg c46] at H
       exact absurd H (by simp)
      rw [if_pos c46] at H
      have c46b0 : decide (0 ≤ x26_1) = true := decide_eq_true c46
      clear c46
      by_cases c47 : x26_1 < (l0_0.length : Int)
      rotate_left
      ·rw [if_neg c47] at H
       exact absurd H (by simp)
      rw [if_pos c47] at H
      have c47b0 : decide (x26_1 < (l0_0.length : Int)) = true := decide_eq_true c47
      clear c47
      obtain ⟨y255, hy255⟩ : ∃ y_ : List Bool, y_ = (x23_2.set ((rd ((rd_T58 l0_0 x26_1).f2) x40_2) : Int).toNat (decide ((((rd_T58 l0_0 x26_1).f2).length : Int) > 1))) := ⟨_, rfl⟩
      replace H : (flow_Blocks.l1 k2 t236 x26_1 y251 y255 t236 (t236.length : Int) x26_1 ((rd_T58 l0_0 x26_1).f2) (((rd_T58 l0_0 x26_1).f2).length : Int) (wrap64 (x40_2 + 1)) l0_0) = some r := by rw [hy255]; exact H
      have Ny255 := am hy255
      clear hy255
      have H' := am H
      clear H
      have p249 : 0 ≤ (x40_2 : Int) := odt ‹_›
      have q249 : x40_2 < (((rd_T58 l0_0 x26_1).f2).length : Int) := odt ‹_›
      obtain ⟨ad249, e249, hx249_0⟩ := Kd.at_int HR248_2.out x40_2 p249 q249
      cases e249
      replace hx249_0 := (HB.out.cell (blc w _ hx249_0)).trans hx249_0
      replace p249 := eq_true p249
      replace q249 := eq_true q249
      obtain ⟨Ao49, co49, eo49⟩ := Kd.R_slice HO_20.out
      subst eo49
      have p250 : 0 ≤ ((rd ((rd_T58 l0_0 x26_1).f2) x40_2) : Int) := odt ‹_›
      have q250 : (rd ((rd_T58 l0_0 x26_1).f2) x40_2) < (x20_2.length : Int) := odt ‹_›
      obtain ⟨ad250, e250, hx250_0⟩ := Kd.at_int (Kd.R_reads' HO_20.out).2.2 (rd ((rd_T58 l0_0 x26_1).f2) x40_2) p250 q250
      cases e250
      replace p250 := eq_true p250
      replace q250 := eq_true q250
      have p35 : 0 ≤ ((rd ((rd_T58 l0_0 x26_1).f2) x40_2) : Int) := odt ‹_›
      have q35 : ((rd ((rd_T58 l0_0 x26_1).f2) x40_2) : Int) < ((x20_2.length : Int) : Int) := odt ‹_›
      obtain ⟨go35, co35, eo35, gb35, gl35, cl35, HG35⟩ := Kd.R_form HO_20.out (by omega)
      (first | cases eo35 | (injection eo35 with ea_ en_ ec_; (first | subst ea_ | (injection ea_ with ea_; subst ea_)); subst ec_; clear en_))
      have GB35 := am gb35
      have GG35 := am HG35
      clear gb35 gl35 HG35
      (first | simp only [add_plain] at hx250_0 | skip)
      obtain ⟨hx35_0, hf35_0⟩ := Kd.R_celln 0 HO_20.out ((rd ((rd_T58 l0_0 x26_1).f2) x40_2) : Int) p35 q35
      replace p35 := eq_true p35
      replace q35 := eq_true q35
      have HP50 := Kd.R_putg HO_20.out ((rd ((rd_T58 l0_0 x26_1).f2) x40_2) : Int) (wrap64 ((rd x20_2 (rd ((rd_T58 l0_0 x26_1).f2) x40_2)) + 1))
      have hczE : wr.cell? ⟨gb242, 0, none⟩ = some _ := (blk_cell BK242.out 0).trans rfl
      try go_wp2_with (first | ((with_reducible refine gate_store (t := 3) (p := 49) rfl ?_); refine store_event (t := 3) (p := 49) (v := ?vo_w51) (w1 := (wr.setCell ⟨go35, ((rd ((rd_T58 l0_0 x26_1).f2) x40_2) : Int).toNat, none⟩ (.int .i64 (wrap64 ((rd x20_2 (rd ((rd_T58 l0_0 x26_1).f2) x40_2)) + 1))))) ?hg ?ho ?hn ?hr ?_; (case ho => rfl); (case hg => rfl); (case hn => rfl); (case hr => first | (go_simp; done) | (go_simp; rfl)); intro w51 hw; have hg : wr.grownBy w51 (some go35) := (by rw [hw]; exact HP50.2); have hp_ : Kd.R (Kd.int .i64) 3 w51 w.heap.size (fun _ => True) (.slice (some ⟨go35, 0, none⟩) x20_2.length co49) y251 := (by rw [hw, Ny251.out]; exact HP50.1); clear HP50; have n0_ := am (Kd.R_over' (v := (.slice (some ⟨go35, 0, none⟩) x20_2.length co49)) (HO_3.out) (Kd.R_typed HO_20.out) (by decide) hg); have n1_ := am (hp_); have n2_ := am (Kd.R_over' (v := (.slice (some ⟨go35, 0, none⟩) x20_2.length co49)) (HO_23.out) (Kd.R_typed HO_20.out) (by decide) hg); have n3_ := am (Kd.R_over' (v := (.slice (some ⟨go35, 0, none⟩) x20_2.length co49)) (HO_24.out) (Kd.R_typed HO_20.out) (by decide) hg); have n4_ := am (blk_grown (g := gb235) (o := .cells #[.slice (some ad248) l0_0.length c0_0] 36 (0, 0)) (BK235.out) hg (Kd.R_ne HO_20.out BK235.out (by decide))); have n5_ := am (carryG BK242 (fun h_ => h_) hg (Kd.R_ne HO_20.out BK242.out (by decide))); have n6_ := am (carryG BK246 (fun h_ => h_) hg (Kd.R_ne HO_20.out BK246.out (by decide))); have n7_ := am ((by rw [hw]; exact below_set (HB.out) GB35.out : Below w.heap.size w w51)); clear HO_3; clear HO_20; clear HO_23; clear HO_24; clear BK235; clear BK242; clear BK246; clear HB; have HO_3 := n0_; have HO_20 := n1_; have HO_23 := n2_; have HO_24 := n3_; have BK235 := n4_; have BK242 := n5_; have BK246 := n6_; have HB := n7_; clear n0_ n1_ n2_ n3_ n4_ n5_ n6_ n7_; clear hg hw hp_))
      have n0_ := am (Kd.R_drew HO_3.out)
      have n1_ := am (Kd.R_drew HO_20.out)
      have n2_ := am (Kd.R_drew HO_23.out)
      have n3_ := am (Kd.R_drew HO_24.out)
      have n4_ := am (blk_drew BK235.out)
      have n5_ := am (blk_drew BK242.out)
      have n6_ := am (blk_drew BK246.out)
      have n7_ := am (below_drew1 HB.out)
      clear HO_3 HO_20 HO_23 HO_24 BK235 BK242 BK246 HB
      have HO_3 := n0_
      have HO_20 := n1_
      have HO_23 := n2_
      have HO_24 := n3_
      have BK235 := n4_
      have BK242 := n5_
      have BK246 := n6_
      have HB := n7_
      clear n0_ n1_ n2_ n3_ n4_ n5_ n6_ n7_
      obtain ⟨Ao53, co53, eo53⟩ := Kd.R_slice HO_23.out
      (first | subst eo53 | (injection eo53 with f1_ f2_ f3_; have f4_ := f1_.symm; have f5_ := f3_.symm; clear f1_ f2_ f3_; subst f4_; subst f5_))
      have p252 : 0 ≤ ((rd ((rd_T58 l0_0 x26_1).f2) x40_2) : Int) := odt ‹_›
      have q252 : (rd ((rd_T58 l0_0 x26_1).f2) x40_2) < (x23_2.length : Int) := odt ‹_›
      obtain ⟨ad252, e252, hx252_0⟩ := Kd.at_bool (Kd.R_reads' HO_23.out).2.2 (rd ((rd_T58 l0_0 x26_1).f2) x40_2) p252 q252
      (try rw [← Nbq24.out] at hx252_0)
      (try rw [← Nbq37.out] at hx252_0)
      cases e252
      replace p252 := eq_true p252
      replace q252 := eq_true q252
      have p254 : 0 ≤ (x26_1 : Int) := odt ‹_›
      have q254 : x26_1 < (l0_0.length : Int) := odt ‹_›
      obtain ⟨ad254, A254_2, c254_2, e254, hx254_0, hx254_1, hx254_2, hl254_2, hi254_2⟩ := at_T58 HR0_0.out x26_1 p254 q254
      have hw254_2 := hx254_2
      have hw254_1 := hx254_1
      have hw254_0 := hx254_0
      obtain rfl : ad248 = ad254 := (by injection e254)
      replace hx254_0 := (HB.out.cell (blc w _ hx254_0)).trans hx254_0
      replace hx254_1 := (HB.out.cell (blc w _ hx254_1)).trans hx254_1
      replace hx254_2 := (HB.out.cell (blc w _ hx254_2)).trans hx254_2
      have HR254_2 := am hi254_2
      have HC254_2 := am hl254_2
      clear hi254_2 hl254_2
      replace p254 := eq_true p254
      replace q254 := eq_true q254
      have p48 : 0 ≤ ((rd ((rd_T58 l0_0 x26_1).f2) x40_2) : Int) := odt ‹_›
      have q48 : ((rd ((rd_T58 l0_0 x26_1).f2) x40_2) : Int) < ((x23_2.length : Int) : Int) := odt ‹_›
      obtain ⟨go48, co48, eo48, gb48, gl48, cl48, HG48⟩ := Kd.R_form HO_23.out (by omega)
      (first | cases eo48 | (injection eo48 with ea_ en_ ec_; (first | subst ea_ | (injection ea_ with ea_; subst ea_)); subst ec_; clear en_))
      have GB48 := am gb48
      have GG48 := am HG48
      clear gb48 gl48 HG48
      (first | simp only [add_plain] at hx252_0 | skip)
      obtain ⟨hx48_0, hf48_0⟩ := Kd.R_celln false HO_23.out ((rd ((rd_T58 l0_0 x26_1).f2) x40_2) : Int) p48 q48
      replace p48 := eq_true p48
      replace q48 := eq_true q48
      have HP54 := Kd.R_putn HO_23.out ((rd ((rd_T58 l0_0 x26_1).f2) x40_2) : Int) (decide ((((rd_T58 l0_0 x26_1).f2).length : Int) > 1))
      rw [← Ny255.out] at HP54
      have HQ54 := am HP54
      clear HP54
      refine start_ (n := 18) (S := fun w' => w'.cell? ⟨gb246, 0, none⟩ = some _ ∧ w'.cell? ⟨gb235, 0, none⟩ = some (.slice (some ad248) l0_0.length c0_0) ∧ w'.cell? ⟨go48, ((rd ((rd_T58 l0_0 x26_1).f2) x40_2)).toNat, none⟩ = some (.bool false) ∧ w'.cell? (ad248.add ((x26_1).toNat * 3)) = some (.int .i64 ((rd_T58 l0_0 x26_1).f0)) ∧ w'.cell? ⟨(ad248.add ((x26_1).toNat * 3)).block, (ad248.add ((x26_1).toNat * 3)).off + 1, none⟩ = some (.int .i64 ((rd_T58 l0_0 x26_1).f1)) ∧ w'.cell? ⟨(ad248.add ((x26_1).toNat * 3)).block, (ad248.add ((x26_1).toNat * 3)).off + 2, none⟩ = some (.slice A254_2 ((rd_T58 l0_0 x26_1).f2).length c254_2)) (ds := [17]) #[false, false, false, false, false, false, false, false, false, false, false, false, false, false, false, false, false, false] (by kernel_rfl) rfl rfl ⟨(blk_cell BK246.out 0).trans rfl, (blk_cell BK235.out 0).trans rfl, hx252_0, ((HB.out.cell (blc w _ hw254_0)).trans hw254_0), ((HB.out.cell (blc w _ hw254_1)).trans hw254_1), ((HB.out.cell (blc w _ hw254_2)).trans hw254_2)⟩ (fun hHeld => ?_); refine with_tabW flow_Blocks.tab12 flow_Blocks.bits12 (fun HT_ HW_ => ?_)
      generalize w51.drew = w52 at HO_3 HO_20 HO_23 HO_24 BK235 BK242 BK246 HB GG48 HQ54 HR254_2 hf48_0 hx252_0 hx254_0 hx254_1 hx254_2 hx48_0 hHeld ⊢
      refine take_ (i := 0) (N := some 50) (v := ?_) (a' := ?_) #[true, false, false, false, false, false, false, false, false, false, false, false, false, false, false, false, false, false] rfl rfl (take_ofW HT_.out HW_.out (by kernel_rfl)) (fun _ _ _ h => h) (Or.inl ⟨by rfl, ?_⟩) hHeld ?_ ?_
      rotate_left
      ·rintro w' ⟨sB, s0, s1, s2, s3, s4⟩
       go_simp
       with_reducible rfl
      rotate_left
      ·simp only [Act.put, List.setIfInBounds_toArray, List.set_cons_zero, List.set_cons_succ, i64_w, i32_w]
       rfl
      refine pure_ (i := 1) (N := some 51) (v := ?_) (a' := ?_) #[true, true, false, false, false, false, false, false, false, false, false, false, false, false, false, false, false, false] rfl rfl (any_of HT_.out (by kernel_rfl)) (fun _ _ _ h => h) (Or.inl ⟨by rfl, ?_⟩) ?_ ?_
      rotate_left
      ·intro w'
       go_simp
       with_reducible rfl
      rotate_left
      ·simp only [Act.put, List.setIfInBounds_toArray, List.set_cons_zero, List.set_cons_succ, i64_w, i32_w]
       rfl
      refine take_ (i := 2) (N := some 52) (v := ?_) (a' := ?_) #[true, true, true, false, false, false, false, false, false, false, false, false, false, false, false, false, false, false] rfl rfl (take_ofW HT_.out HW_.out (by kernel_rfl)) (fun _ _ _ h => h) (Or.inl ⟨by rfl, ?_⟩) hHeld ?_ ?_
      rotate_left
      ·rintro w' ⟨sB, s0, s1, s2, s3, s4⟩
       go_simp
       with_reducible rfl
      rotate_left
      ·simp only [Act.put, List.setIfInBounds_toArray, List.set_cons_zero, List.set_cons_succ, i64_w, i32_w]
       rfl
      refine pure_ (i := 3) (N := some 53) (v := ?_) (a' := ?_) #[true, true, true, true, false, false, false, false, false, false, false, false, false, false, false, false, false, false] rfl rfl (any_of HT_.out (by kernel_rfl)) (fun _ _ _ h => h) (Or.inl ⟨by rfl, ?_⟩) ?_ ?_
      rotate_left
      ·intro w'
       go_simp
       with_reducible rfl
      rotate_left
      ·simp only [Act.put, List.setIfInBounds_toArray, List.set_cons_zero, List.set_cons_succ, i64_w, i32_w]
       rfl
      refine pure_ (i := 4) (N := some 54) (v := ?_) (a' := ?_) #[true, true, true, true, true, false, false, false, false, false, false, false, false, false, false, false, false, false] rfl rfl (any_of HT_.out (by kernel_rfl)) (fun _ _ _ h => h) (Or.inl ⟨by rfl, ?_⟩) ?_ ?_
      rotate_left
      ·intro w'
       go_simp
       with_reducible rfl
      rotate_left
      ·simp only [Act.put, List.setIfInBounds_toArray, List.set_cons_zero, List.set_cons_succ, i64_w, i32_w]
       rfl
      refine take_ (i := 5) (N := some 55) (v := ?_) (a' := ?_) #[true, true, true, true, true, true, false, false, false, false, false, false, false, false, false, false, false, false] rfl rfl (take_ofW HT_.out HW_.out (by kernel_rfl)) (fun _ _ _ h => h) (Or.inl ⟨by rfl, ?_⟩) hHeld ?_ ?_
      rotate_left
      ·rintro w' ⟨sB, s0, s1, s2, s3, s4⟩
       go_simp
       with_reducible rfl
      rotate_left
      ·simp only [Act.put, List.setIfInBounds_toArray, List.set_cons_zero, List.set_cons_succ, i64_w, i32_w]
       rfl
      refine pure_ (i := 6) (N := some 56) (v := ?_) (a' := ?_) #[true, true, true, true, true, true, true, false, false, false, false, false, false, false, false, false, false, false] rfl rfl (any_of HT_.out (by kernel_rfl)) (fun _ _ _ h => h) (Or.inl ⟨by rfl, ?_⟩) ?_ ?_
      rotate_left
      ·intro w'
       go_simp
       with_reducible rfl
      rotate_left
      ·simp only [Act.put, List.setIfInBounds_toArray, List.set_cons_zero, List.set_cons_succ, i64_w, i32_w]
       rfl
      refine pure_ (i := 7) (N := some 57) (v := ?_) (a' := ?_) #[true, true, true, true, true, true, true, true, false, false, false, false, false, false, false, false, false, false] rfl rfl (any_of HT_.out (by kernel_rfl)) (fun _ _ _ h => h) (Or.inl ⟨by rfl, ?_⟩) ?_ ?_
      rotate_left
      ·intro w'
       go_simp
       with_reducible rfl
      rotate_left
      ·simp only [Act.put, List.setIfInBounds_toArray, List.set_cons_zero, List.set_cons_succ, i64_w, i32_w]
       rfl
      refine pure_ (i := 9) (N := some 59) (v := ?_) (a' := ?_) #[true, true, true, true, true, true, true, true, false, true, false, false, false, false, false, false, false, false] rfl rfl (any_of HT_.out (by kernel_rfl)) (fun _ _ _ h => h) (Or.inl ⟨by rfl, ?_⟩) ?_ ?_
      rotate_left
      ·intro w'
       go_simp
       with_reducible rfl
      rotate_left
      ·simp only [Act.put, List.setIfInBounds_toArray, List.set_cons_zero, List.set_cons_succ, i64_w, i32_w]
       rfl
      refine take_ (i := 8) (N := some 58) (v := ?_) (a' := ?_) #[true, true, true, true, true, true, true, true, true, true, false, false, false, false, false, false, false, false] rfl rfl (take_ofW HT_.out HW_.out (by kernel_rfl)) (fun _ _ _ h => h) (Or.inl ⟨by rfl, ?_⟩) hHeld ?_ ?_
      rotate_left
      ·rintro w' ⟨sB, s0, s1, s2, s3, s4⟩
       go_simp
       with_reducible rfl
      rotate_left
      ·simp only [Act.put, List.setIfInBounds_toArray, List.set_cons_zero, List.set_cons_succ, i64_w, i32_w]
       rfl
      refine pure_ (i := 10) (N := some 60) (v := ?_) (a' := ?_) #[true, true, true, true, true, true, true, true, true, true, true, false, false, false, false, false, false, false] rfl rfl (any_of HT_.out (by kernel_rfl)) (fun _ _ _ h => h) (Or.inl ⟨by rfl, ?_⟩) ?_ ?_
      rotate_left
      ·intro w'
       go_simp
       with_reducible rfl
      rotate_left
      ·simp only [Act.put, List.setIfInBounds_toArray, List.set_cons_zero, List.set_cons_succ, i64_w, i32_w]
       rfl
      refine pure_ (i := 11) (N := some 61) (v := ?_) (a' := ?_) #[true, true, true, true, true, true, true, true, true, true, true, true, false, false, false, false, false, false] rfl rfl (any_of HT_.out (by kernel_rfl)) (fun _ _ _ h => h) (Or.inl ⟨by rfl, ?_⟩) ?_ ?_
      rotate_left
      ·intro w'
       go_simp
       with_reducible rfl
      rotate_left
      ·simp only [Act.put, List.setIfInBounds_toArray, List.set_cons_zero, List.set_cons_succ, i64_w, i32_w]
       rfl
      refine take_ (i := 12) (N := some 62) (v := ?_) (a' := ?_) #[true, true, true, true, true, true, true, true, true, true, true, true, true, false, false, false, false, false] rfl rfl (take_ofW HT_.out HW_.out (by kernel_rfl)) (fun _ _ _ h => h) (Or.inl ⟨by rfl, ?_⟩) hHeld ?_ ?_
      rotate_left
      ·rintro w' ⟨sB, s0, s1, s2, s3, s4⟩
       go_simp
       with_reducible rfl
      rotate_left
      ·simp only [Act.put, List.setIfInBounds_toArray, List.set_cons_zero, List.set_cons_succ, i64_w, i32_w]
       rfl
      refine pure_ (i := 13) (N := some 63) (v := ?_) (a' := ?_) #[true, true, true, true, true, true, true, true, true, true, true, true, true, true, false, false, false, false] rfl rfl (any_of HT_.out (by kernel_rfl)) (fun _ _ _ h => h) (Or.inl ⟨by rfl, ?_⟩) ?_ ?_
      rotate_left
      ·intro w'
       go_simp
       with_reducible rfl
      rotate_left
      ·simp only [Act.put, List.setIfInBounds_toArray, List.set_cons_zero, List.set_cons_succ, i64_w, i32_w]
       rfl
      refine pure_ (i := 14) (N := some 64) (v := ?_) (a' := ?_) #[true, true, true, true, true, true, true, true, true, true, true, true, true, true, true, false, false, false] rfl rfl (any_of HT_.out (by kernel_rfl)) (fun _ _ _ h => h) (Or.inl ⟨by rfl, ?_⟩) ?_ ?_
      rotate_left
      ·intro w'
       go_simp
       with_reducible rfl
      rotate_left
      ·simp only [Act.put, List.setIfInBounds_toArray, List.set_cons_zero, List.set_cons_succ, i64_w, i32_w]
       rfl
      refine pure_ (i := 15) (N := some 65) (v := ?_) (a' := ?_) #[true, true, true, true, true, true, true, true, true, true, true, true, true, true, true, true, false, false] rfl rfl (any_of HT_.out (by kernel_rfl)) (fun _ _ _ h => h) (Or.inl ⟨by rfl, ?_⟩) ?_ ?_
      rotate_left
      ·intro w'
       go_simp
       with_reducible rfl
      rotate_left
      ·simp only [Act.put, List.setIfInBounds_toArray, List.set_cons_zero, List.set_cons_succ, i64_w, i32_w]
       rfl
      refine pure_ (i := 16) (N := some 66) (v := ?_) (a' := ?_) #[true, true, true, true, true, true, true, true, true, true, true, true, true, true, true, true, true, false] rfl rfl (any_of HT_.out (by kernel_rfl)) (fun _ _ _ h => h) (Or.inl ⟨by rfl, ?_⟩) ?_ ?_
      rotate_left
      ·intro w'
       go_simp
       with_reducible rfl
      rotate_left
      ·simp only [Act.put, List.setIfInBounds_toArray, List.set_cons_zero, List.set_cons_succ, i64_w, i32_w]
       rfl
      refine last_ (i := 17) (N := none) #[true, true, true, true, true, true, true, true, true, true, true, true, true, true, true, true, true, true] rfl rfl (one_of HT_.out (by kernel_rfl)) (by decide) (fun K hK => ?_)
      refine skip_ (w1 := ?_) (by rfl) rfl ?_ ?_
      rotate_left
      ·go_simp
       rfl
      refine hK.out _ _ ?_
      clear hK K
      refine done_ (done_of HT_.out (by kernel_rfl)) ?_
      try go_wp2
      go_roundg k2
      case measure => have := HK1.out; have := HK2.out; omega
      case rel => exact ⟨(y251), (y255), (wrap64 (x40_2 + 1)), (rfl), H', ⟨by have := HK1.out; have := HK2.out; omega⟩, ⟨by (with_reducible repeat (first | apply Kd.R_alloc | apply Kd.R_drewN | apply Kd.R_drew)); exact Kd.R_mono (Kd.R_far (p := ⟨go48, ((rd ((rd_T58 l0_0 x26_1).f2) x40_2) : Int).toNat, none⟩) (Kd.R_mono HO_3.out (fun k_ hk => (⟨hk, fun e_ => hk (by rw [e_]; rfl)⟩ : _ ∧ k_ ≠ go48))) (fun _ hk => hk.2) (.bool (decide ((((rd_T58 l0_0 x26_1).f2).length : Int) > 1)))) (fun _ hk => hk.1)⟩, ⟨Kd.R_mono (Kd.R_far (p := ⟨go48, ((rd ((rd_T58 l0_0 x26_1).f2) x40_2) : Int).toNat, none⟩) (Kd.R_types HO_20.out GG48.out (by decide)) (fun _ hk => hk.2) (.bool (decide ((((rd_T58 l0_0 x26_1).f2).length : Int) > 1)))) (fun _ hk => trivial)⟩, ⟨by (with_reducible repeat (first | apply Kd.R_alloc | apply Kd.R_drewN | apply Kd.R_drew)); exact HQ54.out⟩, ⟨by (with_reducible repeat (first | apply Kd.R_alloc | apply Kd.R_drewN | apply Kd.R_drew)); exact Kd.R_mono (Kd.R_far (p := ⟨go48, ((rd ((rd_T58 l0_0 x26_1).f2) x40_2) : Int).toNat, none⟩) (Kd.R_mono HO_24.out (fun k_ hk => (⟨hk, fun e_ => hk (by rw [e_]; rfl)⟩ : _ ∧ k_ ≠ go48))) (fun _ hk => hk.2) (.bool (decide ((((rd_T58 l0_0 x26_1).f2).length : Int) > 1)))) (fun _ hk => hk.1)⟩, ⟨by (with_reducible repeat (first | refine blk_drewN ?_ _ | refine blk_drew ?_ | refine blk_alloc ?_ _)); refine blk_far ?_ (by have h_ := Kd.R_ne HO_23.out BK235.out (by decide); intro e_; exact h_ (by rw [e_]; rfl)) _; (with_reducible repeat (first | refine blk_drewN ?_ _ | refine blk_drew ?_ | refine blk_alloc ?_ _)); exact BK235.out⟩, ⟨by (with_reducible repeat (first | refine blk_drewN ?_ _ | refine blk_drew ?_ | refine blk_alloc ?_ _)); refine blk_far ?_ (by have h_ := Kd.R_ne HO_23.out BK242.out (by decide); intro e_; exact h_ (by rw [e_]; rfl)) _; (with_reducible repeat (first | refine blk_drewN ?_ _ | refine blk_drew ?_ | refine blk_alloc ?_ _)); exact BK242.out⟩, ⟨by (with_reducible repeat (first | refine blk_drewN ?_ _ | refine blk_drew ?_ | refine blk_alloc ?_ _)); refine blk_far ?_ (by have h_ := Kd.R_ne HO_23.out BK246.out (by decide); intro e_; exact h_ (by rw [e_]; rfl)) _; (with_reducible repeat (first | refine blk_drewN ?_ _ | refine blk_drew ?_ | refine blk_alloc ?_ _)); exact BK246.out⟩, ⟨by repeat (first | (with_reducible first | exact HB.out | apply below_alloc | apply pw_below_drewN | apply below_drew1 | refine below_set ?_ GB48.out | refine below_set ?_ GE235.out | refine below_set ?_ GE242.out | refine below_set ?_ GE246.out) | exact HB.out)⟩⟩
   rw [if_neg c21] at H
   have c21b0 : decide (x26_1 < (t236.length : Int)) = false := decide_eq_false c21
   clear c21
   have H' := am H
   clear H
   go_wp2
   go_loopg [11, 72] k1 (fun kq v11 v72 w' => ∃ (x11_2 : List (List Int)) (x72_2 : Int), v72 = .int .i64 x72_2 ∧ Aside0 (flow_Blocks.l2 kq x11_2 x20_1 x23_1 t236 (t236.length : Int) x72_2 l0_0 = some r) ∧ Aside0 (kq ≤ k1) ∧ Aside0 (Kd.S (Kd.slice 3 (Kd.int .i64)) 27 w' w.heap.size (fun k_ => some k_ ≠ (v240 : Value).ownBlock) v11 x11_2) ∧ Aside0 (Kd.R (Kd.int .i64) 3 w' w.heap.size (fun _ => True) v240 x20_1) ∧ Aside0 (Kd.R Kd.bool 4 w' w.heap.size (fun k_ => some k_ ≠ ((.slice Ao9 t236.length co9) : Value).ownBlock) v244 x23_1) ∧ Aside0 (Kd.R Kd.bool 4 w' w.heap.size (fun k_ => some k_ ≠ (v244 : Value).ownBlock) (.slice Ao9 t236.length co9) t236) ∧ Aside0 (some gb242 ≠ (v11 : Value).ownBlock) ∧ Aside0 (w'.heap[gb235]? = some (.cells #[(.slice A0_0 l0_0.length c0_0)] 36 (0, 0))) ∧ Aside0 (w'.heap[gb242]? = some (.cells #[v240] 27 (0, 0))) ∧ Aside0 (w'.heap[gb246]? = some (.cells #[v244] 49 (0, 0))) ∧ Aside0 (Below w.heap.size w w'))
   case atStart => exact ⟨(([] : List (List Int))), (0), (rfl), H', ⟨Nat.le_refl _⟩, ⟨by first | exact Kd.S_nil _ _ _ _ _ | exact Kd.N_nil _ _ _ _ _ | exact Kd.V_nil _ _ _ _ _ | exact Kd.Q_nil _ _ _ _ _ | exact Kd.R_nil _ _ _ _ _⟩, ⟨HO_20.out⟩, ⟨Kd.R_mono HO_23.out (fun _ hk => hk.1)⟩, ⟨HO_3.out⟩, ⟨by intro h_; cases h_⟩, ⟨BK235.out⟩, ⟨BK242.out⟩, ⟨BK246.out⟩, ⟨HB.out⟩⟩
   case round =>
    clear H'
    clear c21b0
    obtain ⟨x11_2, x72_2, rfl, HA, HK2, HO_11, HO_20, HO_23, HO_70, NE11, BK235, BK242, BK246, HB⟩ := hrel
    cases gk with
    | zero => exact absurd HA.out (by simp [flow_Blocks.l2])
    | succ k2 =>
     have H := HA.out
     clear HA
     simp only [flow_Blocks.l2] at H
     by_cases c55 : x72_2 < (t236.length : Int)
     rotate_left
     ·rw [if_neg c55] at H
      have c55b0 : decide (x72_2 < (t236.length : Int)) = false := decide_eq_false c55
      clear c55
      obtain rfl := Option.some.inj H
      go_wp2
      go_ret
      exact ⟨_, rfl, by (with_reducible repeat (first | apply Kd.S_alloc | apply Kd.S_drewN | apply Kd.S_drew)); exact Kd.S_mono HO_11.out (fun _ hk => trivial), HB.out⟩
     rw [if_pos c55] at H
     have c55b0 : decide (x72_2 < (t236.length : Int)) = true := decide_eq_true c55
     clear c55
     by_cases c56 : 0 ≤ x72_2
     rotate_left
     ·rw [if_neg c56] at H
      exact absurd H (by simp)
     rw [if_pos c56] at H
     have c56b0 : decide (0 ≤ x72_2) = true := decide_eq_true c56
     clear c56
     by_cases c57 : x72_2 < (t236.length : Int)
     rotate_left
     ·rw [if_neg c57] at H
      exact absurd H (by simp)
     rw [if_pos c57] at H
     have c57b0 : decide (x72_2 < (t236.length : Int)) = true := decide_eq_true c57
     clear c57
     have HC58 := am H
     clear H
     have p256 : 0 ≤ (x72_2 : Int) := odt ‹_›
     have q256 : x72_2 < (t236.length : Int) := odt ‹_›
     obtain ⟨ad256, e256, hx256_0⟩ := Kd.at_bool (Kd.R_reads' HO_70.out).2.2 x72_2 p256 q256
     cases e256
     replace p256 := eq_true p256
     replace q256 := eq_true q256
     go_upto_region 20 with (fail)
     go_cut [84] (fun v84 wc => ∃ (kq : Nat) (x84_57 : Bool), v84 = .bool x84_57 ∧ Aside0 (flow_Blocks.j3 kq x11_2 x72_2 x20_1 x23_1 t236 (t236.length : Int) x72_2 x84_57 l0_0 = some r) ∧ Aside0 (kq ≤ k2) ∧ Aside0 (Kd.S (Kd.slice 3 (Kd.int .i64)) 27 wc w.heap.size (fun k_ => some k_ ≠ (v240 : Value).ownBlock) u11 x11_2) ∧ Aside0 (Kd.R (Kd.int .i64) 3 wc w.heap.size (fun _ => True) v240 x20_1) ∧ Aside0 (Kd.R Kd.bool 4 wc w.heap.size (fun k_ => some k_ ≠ ((.slice (some ad256) t236.length co9) : Value).ownBlock) v244 x23_1) ∧ Aside0 (Kd.R Kd.bool 4 wc w.heap.size (fun k_ => some k_ ≠ (v244 : Value).ownBlock) (.slice (some ad256) t236.length co9) t236) ∧ Aside0 (some gb242 ≠ (u11 : Value).ownBlock) ∧ Aside0 (wc.heap[gb235]? = some (.cells #[(.slice A0_0 l0_0.length c0_0)] 36 (0, 0))) ∧ Aside0 (wc.heap[gb242]? = some (.cells #[v240] 27 (0, 0))) ∧ Aside0 (wc.heap[gb246]? = some (.cells #[v244] 49 (0, 0))) ∧ Aside0 (Below w.heap.size w wc))
     case first =>
      have H := HC58.out
      clear HC58
      obtain ⟨bq59, hbq59⟩ : ∃ b_ : Bool, b_ = (rdOf false t236 x72_2) := ⟨_, rfl⟩
      replace H : (if bq59 = true then ((flow_begins.f x72_2 x20_1 x23_1).bind fun t257 => (flow_Blocks.j3 k2 x11_2 x72_2 x20_1 x23_1 t236 (t236.length : Int) x72_2 (!t257) l0_0)) else (flow_Blocks.j3 k2 x11_2 x72_2 x20_1 x23_1 t236 (t236.length : Int) x72_2 true l0_0)) = some r := by rw [← hbq59] at H; exact H
      have Nbq59 := am hbq59
      clear hbq59
      (try rw [← Nbq59.out])
      by_cases c60 : bq59 = true
      rotate_left
      ·replace c60 := Bool.eq_false_iff.mpr c60
       subst c60
       rw [if_neg (show ¬ (false = true) by decide)] at H
       have H' := am H
       clear H
       go_wp2
       rw (occs := .pos [1]) [Nbq59.out]
       go_meet
       case rel => exact ⟨_, (true), (rfl), H', ⟨by have := HK1.out; have := HK2.out; first | omega | exact Nat.le_refl _⟩, ⟨HO_11.out⟩, ⟨HO_20.out⟩, ⟨HO_23.out⟩, ⟨HO_70.out⟩, NE11, ⟨BK235.out⟩, ⟨BK242.out⟩, ⟨BK246.out⟩, ⟨HB.out⟩⟩
      subst c60
      rw [if_pos rfl] at H
      replace H := Option.bind_eq_some_iff.mp H
      obtain ⟨t257, A610, H⟩ := H
      try dsimp only at H
      have A61 := am A610
      clear A610
      have H' := am H
      clear H
      obtain ⟨Ao62, co62, eo62⟩ := Kd.R_slice HO_20.out
      subst eo62
      obtain ⟨Ao63, co63, eo63⟩ := Kd.R_slice HO_23.out
      subst eo63
      go_wp2_with (first | (go_at_call 43; refine (flow_begins.calls gb242 gb246 _ _ _ x20_1 _ _ x23_1 t257 _ BK242.out BK246.out (Kd.R_reads' HO_20.out).2.2 (Kd.R_reads' HO_20.out).2.1 (Kd.R_reads' HO_23.out).2.2 (Kd.R_reads' HO_23.out).2.1 A61.out).mono ?_; rintro e w' ⟨rfl, ⟨nd, rfl⟩⟩) | (go_at_call 43; (refine (flow_begins.calls gb242 gb246 _ ?Aq1 ?cq1 x20_1 ?Aq2 ?cq2 x23_1 t257 _ ?sg4 ?sg5 ?side1 ?side2 ?side3 ?side4 A61.out).mono ?_); (case sg4 => (with_reducible repeat (first | refine blk_drewN ?_ _ | refine blk_drew ?_ | refine blk_alloc ?_ _)); exact BK242.out); (case sg5 => (with_reducible repeat (first | refine blk_drewN ?_ _ | refine blk_drew ?_ | refine blk_alloc ?_ _)); exact BK246.out); (case side1 => repeat (first | exact (Kd.R_reads' HO_20.out).2.2 | (with_reducible refine Kd.C_alloc ?_ _) | (with_reducible refine Kd.C_drewN ?_ _) | (with_reducible refine Kd.C_drew ?_))); (case side2 => exact (Kd.R_reads' HO_20.out).2.1); (case side3 => repeat (first | exact (Kd.R_reads' HO_23.out).2.2 | (with_reducible refine Kd.C_alloc ?_ _) | (with_reducible refine Kd.C_drewN ?_ _) | (with_reducible refine Kd.C_drew ?_))); (case side4 => exact (Kd.R_reads' HO_23.out).2.1); rintro e w' ⟨rfl, ⟨nd, rfl⟩⟩))
      rw (occs := .pos [1]) [Nbq59.out]
      go_meet
      case rel => exact ⟨_, (!t257), (rfl), H', ⟨by have := HK1.out; have := HK2.out; first | omega | exact Nat.le_refl _⟩, ⟨by (with_reducible repeat (first | apply Kd.S_alloc | apply Kd.S_drewN | apply Kd.S_drew)); exact HO_11.out⟩, ⟨by (with_reducible repeat (first | apply Kd.R_alloc | apply Kd.R_drewN | apply Kd.R_drew)); exact HO_20.out⟩, ⟨by (with_reducible repeat (first | apply Kd.R_alloc | apply Kd.R_drewN | apply Kd.R_drew)); exact HO_23.out⟩, ⟨by (with_reducible repeat (first | apply Kd.R_alloc | apply Kd.R_drewN | apply Kd.R_drew)); exact HO_70.out⟩, NE11, ⟨by (with_reducible repeat (first | refine blk_drewN ?_ _ | refine blk_drew ?_ | refine blk_alloc ?_ _)); exact BK235.out⟩, ⟨by (with_reducible repeat (first | refine blk_drewN ?_ _ | refine blk_drew ?_ | refine blk_alloc ?_ _)); exact BK242.out⟩, ⟨by (with_reducible repeat (first | refine blk_drewN ?_ _ | refine blk_drew ?_ | refine blk_alloc ?_ _)); exact BK246.out⟩, ⟨by repeat (first | (with_reducible first | exact HB.out | apply below_alloc | apply pw_below_drewN | apply below_drew1 | refine below_set ?_ GE235.out | refine below_set ?_ GE242.out | refine below_set ?_ GE246.out) | exact HB.out)⟩⟩
     case rest =>
      clear HC58 c55b0 c56b0 c57b0 hx256_0 p256 q256
      obtain ⟨kq, x84_57, rfl, HA, HJ57, HO_11, HO_20, HO_23, HO_70, NE11, BK235, BK242, BK246, HB⟩ := hcut
      cases kq with
      | zero => exact absurd HA.out (by simp [flow_Blocks.j3])
      | succ kj57 =>
       have H := HA.out
       clear HA
       simp only [flow_Blocks.j3] at H
       by_cases c64 : x84_57 = true
       ·subst c64
        rw [if_pos rfl] at H
        have H' := am H
        clear H
        go_wp2
        go_roundg kj57
        case measure => have := HK1.out; have := HK2.out; have := HJ57.out; omega
        case rel => exact ⟨(x11_2), (wrap64 (x72_2 + 1)), (rfl), H', ⟨by have := HK1.out; have := HK2.out; have := HJ57.out; omega⟩, ⟨HO_11.out⟩, ⟨HO_20.out⟩, ⟨HO_23.out⟩, ⟨HO_70.out⟩, NE11, ⟨BK235.out⟩, ⟨BK242.out⟩, ⟨BK246.out⟩, ⟨HB.out⟩⟩
       replace c64 := Bool.eq_false_iff.mpr c64
       subst c64
       rw [if_neg (show ¬ (false = true) by decide)] at H
       obtain ⟨y258, hy258⟩ : ∃ y_ : List Int, y_ = (([x72_2] : List Int)) := ⟨_, rfl⟩
       replace H : (flow_Blocks.l3 kj57 x11_2 y258 x20_1 x23_1 t236 (t236.length : Int) x72_2 l0_0) = some r := by rw [hy258]; exact H
       have Ny258 := am hy258
       clear hy258
       have H' := am H
       clear H
       go_wp2_with (first | ((with_reducible refine gate_dst (N := 86) rfl ?_); (try (refine gate_guard (by rfl) ?_; dsimp only)); refine Kd.R_lit (Kd.int .i64) _ 3 ?hg (N := 86) ?hd (xs := ([x72_2] : List Int)) (inner := [.int .i64 x72_2]) (ok := fun _ => True) (okp := fun _ => True) ?hr ?hp (fun _ hk => hk) trivial (Below.refl _ _) (Nat.le_refl _) (by simp) ?_; (case hd => rfl); (case hg => rfl); (case hr => first | (go_simp; done) | (go_simp; rfl)); (case hp => exact (Reps.one (show Kd.M (Kd.int .i64) _ _ _ x72_2 [.int .i64 x72_2] from rfl) (Reps.none _ _))); intro v259 w65 ho66 hb hg_ hnew_; clear hg_ hnew_; (first | rw [← Ny258.out] at ho66 | (simp only [Int.reduceToNat] at ho66; rw [← Ny258.out] at ho66)); have n0_ := am (Kd.S_elder' (HO_11.out) (Kd.R_base ho66) hb); have n1_ := am (Kd.R_elder' (HO_20.out) (Kd.R_base ho66) hb); have n2_ := am (Kd.R_below (HO_23.out) hb); have n3_ := am (Kd.R_below (HO_70.out) hb); have n4_ := am (Kd.R_lower (Kd.R_new' ho66 (Kd.R_lt (HO_20.out))) (below_size (HB.out))); have n5_ := am (blk_below (g := gb235) (o := .cells #[.slice A0_0 l0_0.length c0_0] 36 (0, 0)) (BK235.out) hb); have n6_ := am (carryB BK242 (fun h_ => h_) hb); have n7_ := am (carryB BK246 (fun h_ => h_) hb); have n8_ := am (below_step (HB.out) hb); clear HO_11; clear HO_20; clear HO_23; clear HO_70; clear BK235; clear BK242; clear BK246; clear HB; have HO_11 := n0_; have HO_20 := n1_; have HO_23 := n2_; have HO_70 := n3_; have HO260 := n4_; have BK235 := n5_; have BK242 := n6_; have BK246 := n7_; have HB := n8_; clear n0_ n1_ n2_ n3_ n4_ n5_ n6_ n7_ n8_; clear hb ho66))
       go_loopg [14] kj57 (fun kq v14 w' => ∃ (x14_4 : List Int), Aside0 (flow_Blocks.l3 kq x11_2 x14_4 x20_1 x23_1 t236 (t236.length : Int) x72_2 l0_0 = some r) ∧ Aside0 (kq ≤ kj57) ∧ Aside0 (Kd.S (Kd.slice 3 (Kd.int .i64)) 27 w' w.heap.size (fun k_ => some k_ ≠ (v14 : Value).ownBlock ∧ some k_ ≠ (v240 : Value).ownBlock) u11 x11_2) ∧ Aside0 (Kd.R (Kd.int .i64) 3 w' w.heap.size (fun k_ => some k_ ≠ (v240 : Value).ownBlock) v14 x14_4) ∧ Aside0 (Kd.R (Kd.int .i64) 3 w' w.heap.size (fun k_ => some k_ ≠ (v14 : Value).ownBlock) v240 x20_1) ∧ Aside0 (Kd.R Kd.bool 4 w' w.heap.size (fun k_ => some k_ ≠ ((.slice (some ad256) t236.length co9) : Value).ownBlock) v244 x23_1) ∧ Aside0 (Kd.R Kd.bool 4 w' w.heap.size (fun k_ => some k_ ≠ (v244 : Value).ownBlock) (.slice (some ad256) t236.length co9) t236) ∧ Aside0 (some gb242 ≠ (u11 : Value).ownBlock) ∧ Aside0 (w'.heap[gb235]? = some (.cells #[(.slice A0_0 l0_0.length c0_0)] 36 (0, 0))) ∧ Aside0 (w'.heap[gb242]? = some (.cells #[v240] 27 (0, 0))) ∧ Aside0 (w'.heap[gb246]? = some (.cells #[v244] 49 (0, 0))) ∧ Aside0 (Below w.heap.size w w'))
       case atStart => exact ⟨(y258), H', ⟨Nat.le_refl _⟩, ⟨Kd.S_mono HO_11.out (fun _ hk => ⟨hk.2, hk.1⟩)⟩, ⟨Kd.R_mono HO260.out (fun _ hk => hk.2)⟩, ⟨Kd.R_mono HO_20.out (fun _ hk => hk.2)⟩, ⟨HO_23.out⟩, ⟨HO_70.out⟩, NE11, ⟨BK235.out⟩, ⟨BK242.out⟩, ⟨BK246.out⟩, ⟨HB.out⟩⟩
       case round =>
        clear H'
        obtain ⟨x14_4, HA, HK4, HO_11, HO_14, HO_20, HO_23, HO_70, NE11, BK235, BK242, BK246, HB⟩ := hrel
        cases gk with
        | zero => exact absurd HA.out (by simp [flow_Blocks.l3])
        | succ k4 =>
         have H := HA.out
         clear HA
         simp only [flow_Blocks.l3] at H
         obtain ⟨ji67, hji67⟩ : ∃ j_ : Int, (wrap64 ((x14_4.length : Int) - 1)) = j_ := ⟨_, rfl⟩
         replace H : (if 0 ≤ (ji67) then (if (ji67) < (x14_4.length : Int) then (if 0 ≤ (rd x14_4 (ji67)) then (if (rd x14_4 (ji67)) < (l0_0.length : Int) then (if (((rd_T58 l0_0 (rd x14_4 (ji67))).f2).length : Int) = 1 then (if 0 < (((rd_T58 l0_0 (rd x14_4 (ji67))).f2).length : Int) then ((flow_begins.f (rd ((rd_T58 l0_0 (rd x14_4 (ji67))).f2) 0) x20_1 x23_1).bind fun t264 => (if t264 = true then (if x11_2.length < 5864062014805 then (flow_Blocks.l2 k4 (x11_2 ++ [x14_4]) x20_1 x23_1 t236 (t236.length : Int) (wrap64 (x72_2 + 1)) l0_0) else (none)) else (if x14_4.length < 17592186044416 then (flow_Blocks.l3 k4 x11_2 (x14_4 ++ [rd ((rd_T58 l0_0 (rd x14_4 (ji67))).f2) 0]) x20_1 x23_1 t236 (t236.length : Int) x72_2 l0_0) else (none)))) else (none)) else (if x11_2.length < 5864062014805 then (flow_Blocks.l2 k4 (x11_2 ++ [x14_4]) x20_1 x23_1 t236 (t236.length : Int) (wrap64 (x72_2 + 1)) l0_0) else (none))) else (none)) else (none)) else (none)) else (none)) = some r := by first | (rw [hji67] at H; exact H) | (simp only [hji67] at H ⊢; exact H)
         have hji67w : (IntKind.i64.wrap ((x14_4.length : Int) - 1)) = ji67 := (i64_w _).trans hji67
         by_cases c68 : 0 ≤ (ji67)
         rotate_left
         ·rw [if_neg c68] at H
          exact absurd H (by simp)
         rw [if_pos c68] at H
         have c68b0 : decide (0 ≤ (ji67)) = true := decide_eq_true c68
         clear c68
         by_cases c69 : (ji67) < (x14_4.length : Int)
         rotate_left
         ·rw [if_neg c69] at H
          exact absurd H (by simp)
         rw [if_pos c69] at H
         have c69b0 : decide ((ji67) < (x14_4.length : Int)) = true := decide_eq_true c69
         clear c69
         by_cases c70 : 0 ≤ (rd x14_4 (ji67))
         rotate_left
         ·rw [if_neg c70] at H
          exact absurd H (by simp)
         rw [if_pos c70] at H
         have c70b0 : decide (0 ≤ (rd x14_4 (ji67))) = true := decide_eq_true c70
         clear c70
         by_cases c71 : (rd x14_4 (ji67)) < (l0_0.length : Int)
         rotate_left
         ·rw [if_neg c71] at H
          exact absurd H (by simp)
         rw [if_pos c71] at H
         have c71b0 : decide ((rd x14_4 (ji67)) < (l0_0.length : Int)) = true := decide_eq_true c71
         clear c71
         by_cases c72 : (((rd_T58 l0_0 (rd x14_4 (ji67))).f2).length : Int) = 1
         rotate_left
         ·rw [if_neg c72] at H
          have c72b0 : ((((rd_T58 l0_0 (rd x14_4 (ji67))).f2).length : Int) == 1) = false := beq_eq_false_iff_ne.mpr c72
          have c72b1 : ((((rd_T58 l0_0 (rd x14_4 (ji67))).f2).length : Int) != 1) = true := bne_iff_ne.mpr c72
          by_cases c88 : x11_2.length < 5864062014805
          rotate_left
          ·rw [if_neg c88] at H
           exact absurd H (by simp)
          rw [if_pos c88] at H
          have LMc88 := am c88
          clear c88
          obtain ⟨y272, hy272⟩ : ∃ y_ : List (List Int), y_ = (x11_2 ++ [x14_4]) := ⟨_, rfl⟩
          replace H : (flow_Blocks.l2 k4 y272 x20_1 x23_1 t236 (t236.length : Int) (wrap64 (x72_2 + 1)) l0_0) = some r := by rw [hy272]; exact H
          have Ny272 := am hy272
          clear hy272
          have H' := am H
          clear H
          try go_wp2
          have n0_ := am (Kd.S_drew HO_11.out)
          have n1_ := am (Kd.R_drew HO_14.out)
          have n2_ := am (Kd.R_drew HO_20.out)
          have n3_ := am (Kd.R_drew HO_23.out)
          have n4_ := am (Kd.R_drew HO_70.out)
          have n5_ := am (blk_drew BK235.out)
          have n6_ := am (blk_drew BK242.out)
          have n7_ := am (blk_drew BK246.out)
          have n8_ := am (below_drew1 HB.out)
          clear HO_11 HO_14 HO_20 HO_23 HO_70 BK235 BK242 BK246 HB
          have HO_11 := n0_
          have HO_14 := n1_
          have HO_20 := n2_
          have HO_23 := n3_
          have HO_70 := n4_
          have BK235 := n5_
          have BK242 := n6_
          have BK246 := n7_
          have HB := n8_
          clear n0_ n1_ n2_ n3_ n4_ n5_ n6_ n7_ n8_
          obtain ⟨Ao90, co90, eo90⟩ := Kd.R_slice HO_14.out
          (first | subst eo90 | (injection eo90 with f1_ f2_ f3_; have f4_ := f1_.symm; have f5_ := f3_.symm; clear f1_ f2_ f3_; subst f4_; subst f5_))
          have p261 : 0 ≤ ((ji67) : Int) := odt ‹_›
          have q261 : (ji67) < (x14_4.length : Int) := odt ‹_›
          obtain ⟨ad261, e261, hx261_0⟩ := Kd.at_int (Kd.R_reads' HO_14.out).2.2 (ji67) p261 q261
          cases e261
          replace p261 := eq_true p261
          replace q261 := eq_true q261
          have p262 : 0 ≤ ((rd x14_4 (ji67)) : Int) := odt ‹_›
          have q262 : (rd x14_4 (ji67)) < (l0_0.length : Int) := odt ‹_›
          obtain ⟨ad262, A262_2, c262_2, e262, hx262_0, hx262_1, hx262_2, hl262_2, hi262_2⟩ := at_T58 HR0_0.out (rd x14_4 (ji67)) p262 q262
          have hw262_2 := hx262_2
          have hw262_1 := hx262_1
          have hw262_0 := hx262_0
          cases e262
          replace hx262_0 := (HB.out.cell (blc w _ hx262_0)).trans hx262_0
          replace hx262_1 := (HB.out.cell (blc w _ hx262_1)).trans hx262_1
          replace hx262_2 := (HB.out.cell (blc w _ hx262_2)).trans hx262_2
          have HR262_2 := am hi262_2
          have HC262_2 := am hl262_2
          clear hi262_2 hl262_2
          replace p262 := eq_true p262
          replace q262 := eq_true q262
          refine start_ (n := 12) (S := fun w' => w'.cell? ⟨gb235, 0, none⟩ = some (.slice (some ad262) l0_0.length c0_0) ∧ w'.cell? (ad261.add ((ji67)).toNat) = some (.int .i64 (rd x14_4 (ji67))) ∧ w'.cell? (ad262.add (((rd x14_4 (ji67))).toNat * 3)) = some (.int .i64 ((rd_T58 l0_0 (rd x14_4 (ji67))).f0)) ∧ w'.cell? ⟨(ad262.add (((rd x14_4 (ji67))).toNat * 3)).block, (ad262.add (((rd x14_4 (ji67))).toNat * 3)).off + 1, none⟩ = some (.int .i64 ((rd_T58 l0_0 (rd x14_4 (ji67))).f1)) ∧ w'.cell? ⟨(ad262.add (((rd x14_4 (ji67))).toNat * 3)).block, (ad262.add (((rd x14_4 (ji67))).toNat * 3)).off + 2, none⟩ = some (.slice A262_2 ((rd_T58 l0_0 (rd x14_4 (ji67))).f2).length c262_2)) (ds := []) #[false, false, false, false, false, false, false, false, false, false, false, false] (by kernel_rfl) rfl rfl ⟨(blk_cell BK235.out 0).trans rfl, hx261_0, ((HB.out.cell (blc w _ hw262_0)).trans hw262_0), ((HB.out.cell (blc w _ hw262_1)).trans hw262_1), ((HB.out.cell (blc w _ hw262_2)).trans hw262_2)⟩ (fun hHeld => ?_); refine with_tabW flow_Blocks.tab22 flow_Blocks.bits22 (fun HT_ HW_ => ?_)
          generalize wr.drew = w89 at HO_11 HO_14 HO_20 HO_23 HO_70 BK235 BK242 BK246 HB HR262_2 hx261_0 hx262_0 hx262_1 hx262_2 hHeld ⊢
          refine pure_ (i := 0) (N := some 87) (v := ?_) (a' := ?_) #[true, false, false, false, false, false, false, false, false, false, false, false] rfl rfl (any_of HT_.out (by kernel_rfl)) (fun _ _ _ h => h) (Or.inl ⟨by rfl, ?_⟩) ?_ ?_
          rotate_left
          ·intro w'
           go_simp
           with_reducible rfl
          rotate_left
          ·simp only [Act.put, List.setIfInBounds_toArray, List.set_cons_zero, List.set_cons_succ, i64_w, i32_w]
           rfl
          refine pure_ (i := 2) (N := some 89) (v := ?_) (a' := ?_) #[true, false, true, false, false, false, false, false, false, false, false, false] rfl rfl (any_of HT_.out (by kernel_rfl)) (fun _ _ _ h => h) (Or.inl ⟨by rfl, ?_⟩) ?_ ?_
          rotate_left
          ·intro w'
           go_simp
           with_reducible rfl
          rotate_left
          ·simp only [Act.put, List.setIfInBounds_toArray, List.set_cons_zero, List.set_cons_succ, i64_w, i32_w]
           rfl
          refine pure_ (i := 3) (N := some 90) (v := ?_) (a' := ?_) #[true, false, true, true, false, false, false, false, false, false, false, false] rfl rfl (any_of HT_.out (by kernel_rfl)) (fun _ _ _ h => h) (Or.inl ⟨by rfl, ?_⟩) ?_ ?_
          rotate_left
          ·intro w'
           go_simp
           with_reducible rfl
          rotate_left
          ·simp only [Act.put, List.setIfInBounds_toArray, List.set_cons_zero, List.set_cons_succ, i64_w, i32_w]
           rfl
          refine pure_ (i := 4) (N := some 91) (v := ?_) (a' := ?_) #[true, false, true, true, true, false, false, false, false, false, false, false] rfl rfl (any_of HT_.out (by kernel_rfl)) (fun _ _ _ h => h) (Or.inl ⟨by rfl, ?_⟩) ?_ ?_
          rotate_left
          ·intro w'
           go_simp
           with_reducible rfl
          rotate_left
          ·simp only [Act.put, List.setIfInBounds_toArray, List.set_cons_zero, List.set_cons_succ, i64_w, i32_w]
           rfl
          refine pure_ (i := 5) (N := some 92) (v := ?_) (a' := ?_) #[true, false, true, true, true, true, false, false, false, false, false, false] rfl rfl (any_of HT_.out (by kernel_rfl)) (fun _ _ _ h => h) (Or.inl ⟨by rfl, ?_⟩) ?_ ?_
          rotate_left
          ·intro w'
           go_simp
           with_reducible rfl
          rotate_left
          ·simp only [Act.put, List.setIfInBounds_toArray, List.set_cons_zero, List.set_cons_succ, i64_w, i32_w]
           rfl
          refine pure_ (i := 6) (N := some 93) (v := ?_) (a' := ?_) #[true, false, true, true, true, true, true, false, false, false, false, false] rfl rfl (any_of HT_.out (by kernel_rfl)) (fun _ _ _ h => h) (Or.inl ⟨by rfl, ?_⟩) ?_ ?_
          rotate_left
          ·intro w'
           go_simp
           with_reducible rfl
          rotate_left
          ·simp only [Act.put, List.setIfInBounds_toArray, List.set_cons_zero, List.set_cons_succ, i64_w, i32_w]
           rfl
          refine take_ (i := 1) (N := some 88) (v := ?_) (a' := ?_) #[true, true, true, true, true, true, true, false, false, false, false, false] rfl rfl (take_ofW HT_.out HW_.out (by kernel_rfl)) (fun _ _ _ h => h) (Or.inl ⟨by rfl, ?_⟩) hHeld ?_ ?_
          rotate_left
          ·rintro w' ⟨s0, s1, s2, s3, s4⟩
           go_simp
           with_reducible rfl
          rotate_left
          ·simp only [Act.put, List.setIfInBounds_toArray, List.set_cons_zero, List.set_cons_succ, i64_w, i32_w]
           rfl
          refine take_ (i := 7) (N := some 94) (v := ?_) (a' := ?_) #[true, true, true, true, true, true, true, true, false, false, false, false] rfl rfl (take_ofW HT_.out HW_.out (by kernel_rfl)) (fun _ _ _ h => h) (Or.inl ⟨by rfl, ?_⟩) hHeld ?_ ?_
          rotate_left
          ·rintro w' ⟨s0, s1, s2, s3, s4⟩
           go_simp
           with_reducible rfl
          rotate_left
          ·simp only [Act.put, List.setIfInBounds_toArray, List.set_cons_zero, List.set_cons_succ, i64_w, i32_w]
           rfl
          refine pure_ (i := 8) (N := some 95) (v := ?_) (a' := ?_) #[true, true, true, true, true, true, true, true, true, false, false, false] rfl rfl (any_of HT_.out (by kernel_rfl)) (fun _ _ _ h => h) (Or.inl ⟨by rfl, ?_⟩) ?_ ?_
          rotate_left
          ·intro w'
           go_simp
           with_reducible rfl
          rotate_left
          ·simp only [Act.put, List.setIfInBounds_toArray, List.set_cons_zero, List.set_cons_succ, i64_w, i32_w]
           rfl
          refine pure_ (i := 9) (N := some 96) (v := ?_) (a' := ?_) #[true, true, true, true, true, true, true, true, true, true, false, false] rfl rfl (any_of HT_.out (by kernel_rfl)) (fun _ _ _ h => h) (Or.inl ⟨by rfl, ?_⟩) ?_ ?_
          rotate_left
          ·intro w'
           go_simp
           with_reducible rfl
          rotate_left
          ·simp only [Act.put, List.setIfInBounds_toArray, List.set_cons_zero, List.set_cons_succ, i64_w, i32_w]
           rfl
          refine take_ (i := 10) (N := some 97) (v := ?_) (a' := ?_) #[true, true, true, true, true, true, true, true, true, true, true, false] rfl rfl (take_ofW HT_.out HW_.out (by kernel_rfl)) (fun _ _ _ h => h) (Or.inl ⟨by rfl, ?_⟩) hHeld ?_ ?_
          rotate_left
          ·rintro w' ⟨s0, s1, s2, s3, s4⟩
           go_simp
           with_reducible rfl
          rotate_left
          ·simp only [Act.put, List.setIfInBounds_toArray, List.set_cons_zero, List.set_cons_succ, i64_w, i32_w]
           rfl
          refine pure_ (i := 11) (N := some 15) (v := ?_) (a' := ?_) #[true, true, true, true, true, true, true, true, true, true, true, true] rfl rfl (any_of HT_.out (by kernel_rfl)) (fun _ _ _ h => h) (Or.inl ⟨by rfl, ?_⟩) ?_ ?_
          rotate_left
          ·intro w'
           go_simp
           with_reducible rfl
          rotate_left
          ·simp only [Act.put, List.setIfInBounds_toArray, List.set_cons_zero, List.set_cons_succ, i64_w, i32_w]
           rfl
          refine done_ (done_of HT_.out (by kernel_rfl)) ?_
          try go_wp2_with (first | ((with_reducible refine gate_builtin (b := .append) (xs := #[.tmp 114, .tmp 116]) rfl ?_); (try (refine gate_guard (by rfl) ?_; dsimp only)); at_builtin; refine Kd.S_append (Kd.slice 3 (Kd.int .i64)) (w0 := w) w.heap.size rfl (.tmp 114) (.tmp 116) 46 27 (.slice none 0 0) 24 rfl Tryz.underlying46 info27 rfl (by decide) (by omega) u11 x11_2 x14_4 [.slice (some ad261) x14_4.length co90] (fun k_ => some k_ ≠ (v240 : Value).ownBlock) (fun k_ => some k_ = (.slice (some ad261) x14_4.length co90 : Value).ownBlock) rfl rfl ?aP (fun k_ hk_ => ((Kd.R_mono (ok' := fun k_ => ((fun k_ => some k_ ≠ (v240 : Value).ownBlock)) k_ ∧ some k_ ≠ (u11 : Value).ownBlock) (Kd.R_apart' (HO_14.out) (Kd.S_typed HO_11.out) (by decide)) (fun k_ hk => ⟨hk.1, hk.2⟩))).1 k_ hk_.symm) ?aF ?aO ?aB ?aS ?aL ?_; (case aP => exact Kd.M_row (Kd.R_mono (Kd.R_tight rfl (Kd.R_mono (ok' := fun k_ => ((fun k_ => some k_ ≠ (v240 : Value).ownBlock)) k_ ∧ some k_ ≠ (u11 : Value).ownBlock) (Kd.R_apart' (HO_14.out) (Kd.S_typed HO_11.out) (by decide)) (fun k_ hk => ⟨hk.1, hk.2⟩))) (fun _ h_ => h_))); (case aB => exact (HB.out)); (case aF => exact (fun k_ hk => Kd.fresh' (Kd.R_lt (HO_20.out)) k_ hk)); (case aO => exact (by (with_reducible repeat (first | apply Kd.S_alloc | apply Kd.S_drewN | apply Kd.S_drew)); exact Kd.S_mono HO_11.out (fun k_ hk => ⟨hk.2, fun e_ => hk.1 e_⟩))); (case aS => exact (below_size (HB.out))); (case aL => have := LMc88.out; omega); intro v273 w91 ho hb hg hat; rw [← Ny272.out] at ho; have ne_ := carryN BK242 (fun h_ => h_) NE11.out hat; have n0_ := am (Kd.R_over' (HO_20.out) (Kd.S_typed (HO_11.out)) (by decide) hg); have n1_ := am (Kd.R_over' (HO_23.out) (Kd.S_typed (HO_11.out)) (by decide) hg); have n2_ := am (Kd.R_over' (HO_70.out) (Kd.S_typed (HO_11.out)) (by decide) hg); have n3_ := am (blk_grown (g := gb235) (o := .cells #[.slice (some ad262) l0_0.length c0_0] 36 (0, 0)) (BK235.out) hg (Kd.S_ne HO_11.out BK235.out (by decide))); have n4_ := am (carryG BK242 (fun h_ => h_) hg NE11.out); have n5_ := am (carryG BK246 (fun h_ => h_) hg (Kd.S_ne HO_11.out BK246.out (by decide))); have n6_ := am (hb); have n7_ := am (ho); clear HO_20; clear HO_23; clear HO_70; clear BK235; clear BK242; clear BK246; clear HB; clear HO_11; clear HO_14; have HO_20 := n0_; have HO_23 := n1_; have HO_70 := n2_; have BK235 := n3_; have BK242 := n4_; have BK246 := n5_; have HB := n6_; have HO274 := n7_; clear n0_ n1_ n2_ n3_ n4_ n5_ n6_ n7_; have NE274 := am ne_; clear ne_; clear ho hb hg hat))
          go_roundg k4
          case measure => have := HK1.out; have := HK2.out; have := HJ57.out; have := HK4.out; omega
          case rel => exact ⟨(y272), (wrap64 (x72_2 + 1)), (rfl), H', ⟨by have := HK1.out; have := HK2.out; have := HJ57.out; have := HK4.out; omega⟩, ⟨HO274.out⟩, ⟨Kd.R_mono HO_20.out (fun _ hk => trivial)⟩, ⟨HO_23.out⟩, ⟨HO_70.out⟩, NE274, ⟨BK235.out⟩, ⟨BK242.out⟩, ⟨BK246.out⟩, ⟨HB.out⟩⟩
         rw [if_pos c72] at H
         have c72b0 : ((((rd_T58 l0_0 (rd x14_4 (ji67))).f2).length : Int) == 1) = true := beq_iff_eq.mpr c72
         have c72b1 : ((((rd_T58 l0_0 (rd x14_4 (ji67))).f2).length : Int) != 1) = false := bne_eq_false_iff_eq.mpr c72
         clear c72
         by_cases c73 : 0 < (((rd_T58 l0_0 (rd x14_4 (ji67))).f2).length : Int)
         rotate_left
         ·rw [if_neg c73] at H
          exact absurd H (by simp)
         rw [if_pos c73] at H
         have c73b0 : decide (0 < (((rd_T58 l0_0 (rd x14_4 (ji67))).f2).length : Int)) = true := decide_eq_true c73
         have c73b1 : decide (0 < ((rd_T58 l0_0 (rd x14_4 (ji67))).f2).length) = true := decide_eq_true (by omega)
         clear c73
         replace H := Option.bind_eq_some_iff.mp H
         obtain ⟨t264, A740, H⟩ := H
         try dsimp only at H
         have A74 := am A740
         clear A740
         by_cases c75 : t264 = true
         ·subst c75
          rw [if_pos rfl] at H
          by_cases c76 : x11_2.length < 5864062014805
          rotate_left
          ·rw [if_neg c76] at H
           exact absurd H (by simp)
          rw [if_pos c76] at H
          have LMc76 := am c76
          clear c76
          obtain ⟨y265, hy265⟩ : ∃ y_ : List (List Int), y_ = (x11_2 ++ [x14_4]) := ⟨_, rfl⟩
          replace H : (flow_Blocks.l2 k4 y265 x20_1 x23_1 t236 (t236.length : Int) (wrap64 (x72_2 + 1)) l0_0) = some r := by rw [hy265]; exact H
          have Ny265 := am hy265
          clear hy265
          have H' := am H
          clear H
          try go_wp2
          have n0_ := am (Kd.S_drew HO_11.out)
          have n1_ := am (Kd.R_drew HO_14.out)
          have n2_ := am (Kd.R_drew HO_20.out)
          have n3_ := am (Kd.R_drew HO_23.out)
          have n4_ := am (Kd.R_drew HO_70.out)
          have n5_ := am (blk_drew BK235.out)
          have n6_ := am (blk_drew BK242.out)
          have n7_ := am (blk_drew BK246.out)
          have n8_ := am (below_drew1 HB.out)
          clear HO_11 HO_14 HO_20 HO_23 HO_70 BK235 BK242 BK246 HB
          have HO_11 := n0_
          have HO_14 := n1_
          have HO_20 := n2_
          have HO_23 := n3_
          have HO_70 := n4_
          have BK235 := n5_
          have BK242 := n6_
          have BK246 := n7_
          have HB := n8_
          clear n0_ n1_ n2_ n3_ n4_ n5_ n6_ n7_ n8_
          obtain ⟨Ao78, co78, eo78⟩ := Kd.R_slice HO_14.out
          (first | subst eo78 | (injection eo78 with f1_ f2_ f3_; have f4_ := f1_.symm; have f5_ := f3_.symm; clear f1_ f2_ f3_; subst f4_; subst f5_))
          have p261 : 0 ≤ ((ji67) : Int) := odt ‹_›
          have q261 : (ji67) < (x14_4.length : Int) := odt ‹_›
          obtain ⟨ad261, e261, hx261_0⟩ := Kd.at_int (Kd.R_reads' HO_14.out).2.2 (ji67) p261 q261
          cases e261
          replace p261 := eq_true p261
          replace q261 := eq_true q261
          have p262 : 0 ≤ ((rd x14_4 (ji67)) : Int) := odt ‹_›
          have q262 : (rd x14_4 (ji67)) < (l0_0.length : Int) := odt ‹_›
          obtain ⟨ad262, A262_2, c262_2, e262, hx262_0, hx262_1, hx262_2, hl262_2, hi262_2⟩ := at_T58 HR0_0.out (rd x14_4 (ji67)) p262 q262
          have hw262_2 := hx262_2
          have hw262_1 := hx262_1
          have hw262_0 := hx262_0
          cases e262
          replace hx262_0 := (HB.out.cell (blc w _ hx262_0)).trans hx262_0
          replace hx262_1 := (HB.out.cell (blc w _ hx262_1)).trans hx262_1
          replace hx262_2 := (HB.out.cell (blc w _ hx262_2)).trans hx262_2
          have HR262_2 := am hi262_2
          have HC262_2 := am hl262_2
          clear hi262_2 hl262_2
          replace p262 := eq_true p262
          replace q262 := eq_true q262
          refine start_ (n := 12) (S := fun w' => w'.cell? ⟨gb235, 0, none⟩ = some (.slice (some ad262) l0_0.length c0_0) ∧ w'.cell? (ad261.add ((ji67)).toNat) = some (.int .i64 (rd x14_4 (ji67))) ∧ w'.cell? (ad262.add (((rd x14_4 (ji67))).toNat * 3)) = some (.int .i64 ((rd_T58 l0_0 (rd x14_4 (ji67))).f0)) ∧ w'.cell? ⟨(ad262.add (((rd x14_4 (ji67))).toNat * 3)).block, (ad262.add (((rd x14_4 (ji67))).toNat * 3)).off + 1, none⟩ = some (.int .i64 ((rd_T58 l0_0 (rd x14_4 (ji67))).f1)) ∧ w'.cell? ⟨(ad262.add (((rd x14_4 (ji67))).toNat * 3)).block, (ad262.add (((rd x14_4 (ji67))).toNat * 3)).off + 2, none⟩ = some (.slice A262_2 ((rd_T58 l0_0 (rd x14_4 (ji67))).f2).length c262_2)) (ds := []) #[false, false, false, false, false, false, false, false, false, false, false, false] (by kernel_rfl) rfl rfl ⟨(blk_cell BK235.out 0).trans rfl, hx261_0, ((HB.out.cell (blc w _ hw262_0)).trans hw262_0), ((HB.out.cell (blc w _ hw262_1)).trans hw262_1), ((HB.out.cell (blc w _ hw262_2)).trans hw262_2)⟩ (fun hHeld => ?_); refine with_tabW flow_Blocks.tab22 flow_Blocks.bits22 (fun HT_ HW_ => ?_)
          generalize wr.drew = w77 at HO_11 HO_14 HO_20 HO_23 HO_70 BK235 BK242 BK246 HB HR262_2 hx261_0 hx262_0 hx262_1 hx262_2 hHeld ⊢
          refine pure_ (i := 0) (N := some 87) (v := ?_) (a' := ?_) #[true, false, false, false, false, false, false, false, false, false, false, false] rfl rfl (any_of HT_.out (by kernel_rfl)) (fun _ _ _ h => h) (Or.inl ⟨by rfl, ?_⟩) ?_ ?_
          rotate_left
          ·intro w'
           go_simp
           with_reducible rfl
          rotate_left
          ·simp only [Act.put, List.setIfInBounds_toArray, List.set_cons_zero, List.set_cons_succ, i64_w, i32_w]
           rfl
          refine pure_ (i := 2) (N := some 89) (v := ?_) (a' := ?_) #[true, false, true, false, false, false, false, false, false, false, false, false] rfl rfl (any_of HT_.out (by kernel_rfl)) (fun _ _ _ h => h) (Or.inl ⟨by rfl, ?_⟩) ?_ ?_
          rotate_left
          ·intro w'
           go_simp
           with_reducible rfl
          rotate_left
          ·simp only [Act.put, List.setIfInBounds_toArray, List.set_cons_zero, List.set_cons_succ, i64_w, i32_w]
           rfl
          refine pure_ (i := 3) (N := some 90) (v := ?_) (a' := ?_) #[true, false, true, true, false, false, false, false, false, false, false, false] rfl rfl (any_of HT_.out (by kernel_rfl)) (fun _ _ _ h => h) (Or.inl ⟨by rfl, ?_⟩) ?_ ?_
          rotate_left
          ·intro w'
           go_simp
           with_reducible rfl
          rotate_left
          ·simp only [Act.put, List.setIfInBounds_toArray, List.set_cons_zero, List.set_cons_succ, i64_w, i32_w]
           rfl
          refine pure_ (i := 4) (N := some 91) (v := ?_) (a' := ?_) #[true, false, true, true, true, false, false, false, false, false, false, false] rfl rfl (any_of HT_.out (by kernel_rfl)) (fun _ _ _ h => h) (Or.inl ⟨by rfl, ?_⟩) ?_ ?_
          rotate_left
          ·intro w'
           go_simp
           with_reducible rfl
          rotate_left
          ·simp only [Act.put, List.setIfInBounds_toArray, List.set_cons_zero, List.set_cons_succ, i64_w, i32_w]
           rfl
          refine pure_ (i := 5) (N := some 92) (v := ?_) (a' := ?_) #[true, false, true, true, true, true, false, false, false, false, false, false] rfl rfl (any_of HT_.out (by kernel_rfl)) (fun _ _ _ h => h) (Or.inl ⟨by rfl, ?_⟩) ?_ ?_
          rotate_left
          ·intro w'
           go_simp
           with_reducible rfl
          rotate_left
          ·simp only [Act.put, List.setIfInBounds_toArray, List.set_cons_zero, List.set_cons_succ, i64_w, i32_w]
           rfl
          refine pure_ (i := 6) (N := some 93) (v := ?_) (a' := ?_) #[true, false, true, true, true, true, true, false, false, false, false, false] rfl rfl (any_of HT_.out (by kernel_rfl)) (fun _ _ _ h => h) (Or.inl ⟨by rfl, ?_⟩) ?_ ?_
          rotate_left
          ·intro w'
           go_simp
           with_reducible rfl
          rotate_left
          ·simp only [Act.put, List.setIfInBounds_toArray, List.set_cons_zero, List.set_cons_succ, i64_w, i32_w]
           rfl
          refine take_ (i := 1) (N := some 88) (v := ?_) (a' := ?_) #[true, true, true, true, true, true, true, false, false, false, false, false] rfl rfl (take_ofW HT_.out HW_.out (by kernel_rfl)) (fun _ _ _ h => h) (Or.inl ⟨by rfl, ?_⟩) hHeld ?_ ?_
          rotate_left
          ·rintro w' ⟨s0, s1, s2, s3, s4⟩
           go_simp
           with_reducible rfl
          rotate_left
          ·simp only [Act.put, List.setIfInBounds_toArray, List.set_cons_zero, List.set_cons_succ, i64_w, i32_w]
           rfl
          refine take_ (i := 7) (N := some 94) (v := ?_) (a' := ?_) #[true, true, true, true, true, true, true, true, false, false, false, false] rfl rfl (take_ofW HT_.out HW_.out (by kernel_rfl)) (fun _ _ _ h => h) (Or.inl ⟨by rfl, ?_⟩) hHeld ?_ ?_
          rotate_left
          ·rintro w' ⟨s0, s1, s2, s3, s4⟩
           go_simp
           with_reducible rfl
          rotate_left
          ·simp only [Act.put, List.setIfInBounds_toArray, List.set_cons_zero, List.set_cons_succ, i64_w, i32_w]
           rfl
          refine pure_ (i := 8) (N := some 95) (v := ?_) (a' := ?_) #[true, true, true, true, true, true, true, true, true, false, false, false] rfl rfl (any_of HT_.out (by kernel_rfl)) (fun _ _ _ h => h) (Or.inl ⟨by rfl, ?_⟩) ?_ ?_
          rotate_left
          ·intro w'
           go_simp
           with_reducible rfl
          rotate_left
          ·simp only [Act.put, List.setIfInBounds_toArray, List.set_cons_zero, List.set_cons_succ, i64_w, i32_w]
           rfl
          refine pure_ (i := 9) (N := some 96) (v := ?_) (a' := ?_) #[true, true, true, true, true, true, true, true, true, true, false, false] rfl rfl (any_of HT_.out (by kernel_rfl)) (fun _ _ _ h => h) (Or.inl ⟨by rfl, ?_⟩) ?_ ?_
          rotate_left
          ·intro w'
           go_simp
           with_reducible rfl
          rotate_left
          ·simp only [Act.put, List.setIfInBounds_toArray, List.set_cons_zero, List.set_cons_succ, i64_w, i32_w]
           rfl
          refine take_ (i := 10) (N := some 97) (v := ?_) (a' := ?_) #[true, true, true, true, true, true, true, true, true, true, true, false] rfl rfl (take_ofW HT_.out HW_.out (by kernel_rfl)) (fun _ _ _ h => h) (Or.inl ⟨by rfl, ?_⟩) hHeld ?_ ?_
          rotate_left
          ·rintro w' ⟨s0, s1, s2, s3, s4⟩
           go_simp
           with_reducible rfl
          rotate_left
          ·simp only [Act.put, List.setIfInBounds_toArray, List.set_cons_zero, List.set_cons_succ, i64_w, i32_w]
           rfl
          refine pure_ (i := 11) (N := some 15) (v := ?_) (a' := ?_) #[true, true, true, true, true, true, true, true, true, true, true, true] rfl rfl (any_of HT_.out (by kernel_rfl)) (fun _ _ _ h => h) (Or.inl ⟨by rfl, ?_⟩) ?_ ?_
          rotate_left
          ·intro w'
           go_simp
           with_reducible rfl
          rotate_left
          ·simp only [Act.put, List.setIfInBounds_toArray, List.set_cons_zero, List.set_cons_succ, i64_w, i32_w]
           rfl
          refine done_ (done_of HT_.out (by kernel_rfl)) ?_
          have p263 : 0 ≤ (0 : Int) := (by omega)
          have q263 : 0 < (((rd_T58 l0_0 (rd x14_4 (ji67))).f2).length : Int) := odt ‹_›
          obtain ⟨ad263, e263, hx263_0⟩ := Kd.at_int HR262_2.out 0 p263 q263
          cases e263
          have qi263 : (0 < ((rd_T58 l0_0 (rd x14_4 (ji67))).f2).length) = True := eq_true (by omega)
          (try rw [show ((0 : Int)).toNat = 0 from rfl] at hx263_0)
          (try rw [Addr.add_zero'] at hx263_0)
          replace hx263_0 := (HB.out.cell (blc w _ hx263_0)).trans hx263_0
          replace p263 := eq_true p263
          replace q263 := eq_true q263
          obtain ⟨Ao79, co79, eo79⟩ := Kd.R_slice HO_20.out
          subst eo79
          obtain ⟨Ao80, co80, eo80⟩ := Kd.R_slice HO_23.out
          subst eo80
          try go_wp2_with (first | (go_at_call 43; refine (flow_begins.calls gb242 gb246 _ _ _ x20_1 _ _ x23_1 true _ BK242.out BK246.out (Kd.R_reads' HO_20.out).2.2 (Kd.R_reads' HO_20.out).2.1 (Kd.R_reads' HO_23.out).2.2 (Kd.R_reads' HO_23.out).2.1 A74.out).mono ?_; rintro e w' ⟨rfl, ⟨nd, rfl⟩⟩) | (go_at_call 43; (refine (flow_begins.calls gb242 gb246 _ ?Aq1 ?cq1 x20_1 ?Aq2 ?cq2 x23_1 true _ ?sg4 ?sg5 ?side1 ?side2 ?side3 ?side4 A74.out).mono ?_); (case sg4 => (with_reducible repeat (first | refine blk_drewN ?_ _ | refine blk_drew ?_ | refine blk_alloc ?_ _)); exact BK242.out); (case sg5 => (with_reducible repeat (first | refine blk_drewN ?_ _ | refine blk_drew ?_ | refine blk_alloc ?_ _)); exact BK246.out); (case side1 => repeat (first | exact (Kd.R_reads' HO_20.out).2.2 | (with_reducible refine Kd.C_alloc ?_ _) | (with_reducible refine Kd.C_drewN ?_ _) | (with_reducible refine Kd.C_drew ?_))); (case side2 => exact (Kd.R_reads' HO_20.out).2.1); (case side3 => repeat (first | exact (Kd.R_reads' HO_23.out).2.2 | (with_reducible refine Kd.C_alloc ?_ _) | (with_reducible refine Kd.C_drewN ?_ _) | (with_reducible refine Kd.C_drew ?_))); (case side4 => exact (Kd.R_reads' HO_23.out).2.1); rintro e w' ⟨rfl, ⟨nd, rfl⟩⟩) | ((with_reducible refine gate_builtin (b := .append) (xs := #[.tmp 114, .tmp 116]) rfl ?_); (try (refine gate_guard (by rfl) ?_; dsimp only)); at_builtin; refine Kd.S_append (Kd.slice 3 (Kd.int .i64)) (w0 := w) w.heap.size rfl (.tmp 114) (.tmp 116) 46 27 (.slice none 0 0) 24 rfl Tryz.underlying46 info27 rfl (by decide) (by omega) u11 x11_2 x14_4 [.slice (some ad261) x14_4.length co78] (fun k_ => some k_ ≠ (.slice Ao79 x20_1.length co79 : Value).ownBlock) (fun k_ => some k_ = (.slice (some ad261) x14_4.length co78 : Value).ownBlock) rfl rfl ?aP (fun k_ hk_ => ((Kd.R_mono (ok' := fun k_ => ((fun k_ => some k_ ≠ (.slice Ao79 x20_1.length co79 : Value).ownBlock)) k_ ∧ some k_ ≠ (u11 : Value).ownBlock) (Kd.R_apart' (HO_14.out) (Kd.S_typed HO_11.out) (by decide)) (fun k_ hk => ⟨hk.1, hk.2⟩))).1 k_ hk_.symm) ?aF ?aO ?aB ?aS ?aL ?_; (case aP => exact Kd.M_row (Kd.R_mono (Kd.R_tight rfl (Kd.R_mono (ok' := fun k_ => ((fun k_ => some k_ ≠ (.slice Ao79 x20_1.length co79 : Value).ownBlock)) k_ ∧ some k_ ≠ (u11 : Value).ownBlock) (Kd.R_apart' (HO_14.out) (Kd.S_typed HO_11.out) (by decide)) (fun k_ hk => ⟨hk.1, hk.2⟩))) (fun _ h_ => h_))); (case aB => exact (by repeat (first | (with_reducible first | exact HB.out | apply below_alloc | apply pw_below_drewN | apply below_drew1 | refine below_set ?_ GE235.out | refine below_set ?_ GE242.out | refine below_set ?_ GE246.out) | exact HB.out))); (case aF => exact (fun k_ hk => Kd.fresh' (Kd.R_lt (by (with_reducible repeat (first | apply Kd.R_alloc | apply Kd.R_drewN | apply Kd.R_drew)); exact HO_20.out)) k_ hk)); (case aO => exact (by (with_reducible repeat (first | apply Kd.S_alloc | apply Kd.S_drewN | apply Kd.S_drew)); exact Kd.S_mono HO_11.out (fun k_ hk => ⟨hk.2, fun e_ => hk.1 e_⟩))); (case aS => exact (below_size (by repeat (first | (with_reducible first | exact HB.out | apply below_alloc | apply pw_below_drewN | apply below_drew1 | refine below_set ?_ GE235.out | refine below_set ?_ GE242.out | refine below_set ?_ GE246.out) | exact HB.out)))); (case aL => have := LMc76.out; omega); intro v266 w81 ho hb hg hat; rw [← Ny265.out] at ho; have ne_ := carryN BK242 (fun h_ => by (with_reducible repeat (first | refine blk_drewN ?_ _ | refine blk_drew ?_ | refine blk_alloc ?_ _)); exact h_) NE11.out hat; have n0_ := am (Kd.R_over' (by (with_reducible repeat (first | apply Kd.R_alloc | apply Kd.R_drewN | apply Kd.R_drew)); exact HO_20.out) (Kd.S_typed (by (with_reducible repeat (first | apply Kd.S_alloc | apply Kd.S_drewN | apply Kd.S_drew)); exact HO_11.out)) (by decide) hg); have n1_ := am (Kd.R_over' (by (with_reducible repeat (first | apply Kd.R_alloc | apply Kd.R_drewN | apply Kd.R_drew)); exact HO_23.out) (Kd.S_typed (by (with_reducible repeat (first | apply Kd.S_alloc | apply Kd.S_drewN | apply Kd.S_drew)); exact HO_11.out)) (by decide) hg); have n2_ := am (Kd.R_over' (by (with_reducible repeat (first | apply Kd.R_alloc | apply Kd.R_drewN | apply Kd.R_drew)); exact HO_70.out) (Kd.S_typed (by (with_reducible repeat (first | apply Kd.S_alloc | apply Kd.S_drewN | apply Kd.S_drew)); exact HO_11.out)) (by decide) hg); have n3_ := am (blk_grown (g := gb235) (o := .cells #[.slice (some ad262) l0_0.length c0_0] 36 (0, 0)) (by (with_reducible repeat (first | refine blk_drewN ?_ _ | refine blk_drew ?_ | refine blk_alloc ?_ _)); exact BK235.out) hg (Kd.S_ne HO_11.out BK235.out (by decide))); have n4_ := am (carryG BK242 (fun h_ => by (with_reducible repeat (first | refine blk_drewN ?_ _ | refine blk_drew ?_ | refine blk_alloc ?_ _)); exact h_) hg NE11.out); have n5_ := am (carryG BK246 (fun h_ => by (with_reducible repeat (first | refine blk_drewN ?_ _ | refine blk_drew ?_ | refine blk_alloc ?_ _)); exact h_) hg (Kd.S_ne HO_11.out BK246.out (by decide))); have n6_ := am (hb); have n7_ := am (ho); clear HO_20; clear HO_23; clear HO_70; clear BK235; clear BK242; clear BK246; clear HB; clear HO_11; clear HO_14; have HO_20 := n0_; have HO_23 := n1_; have HO_70 := n2_; have BK235 := n3_; have BK242 := n4_; have BK246 := n5_; have HB := n6_; have HO267 := n7_; clear n0_ n1_ n2_ n3_ n4_ n5_ n6_ n7_; have NE267 := am ne_; clear ne_; clear ho hb hg hat))
          go_roundg k4
          case measure => have := HK1.out; have := HK2.out; have := HJ57.out; have := HK4.out; omega
          case rel => exact ⟨(y265), (wrap64 (x72_2 + 1)), (rfl), H', ⟨by have := HK1.out; have := HK2.out; have := HJ57.out; have := HK4.out; omega⟩, ⟨HO267.out⟩, ⟨Kd.R_mono HO_20.out (fun _ hk => trivial)⟩, ⟨HO_23.out⟩, ⟨HO_70.out⟩, NE267, ⟨BK235.out⟩, ⟨BK242.out⟩, ⟨BK246.out⟩, ⟨HB.out⟩⟩
         replace c75 := Bool.eq_false_iff.mpr c75
         subst c75
         rw [if_neg (show ¬ (false = true) by decide)] at H
         by_cases c82 : x14_4.length < 17592186044416
         rotate_left
         ·rw [if_neg c82] at H
          exact absurd H (by simp)
         rw [if_pos c82] at H
         have LMc82 := am c82
         clear c82
         obtain ⟨y269, hy269⟩ : ∃ y_ : List Int, y_ = (x14_4 ++ [rd ((rd_T58 l0_0 (rd x14_4 (ji67))).f2) 0]) := ⟨_, rfl⟩
         replace H : (flow_Blocks.l3 k4 x11_2 y269 x20_1 x23_1 t236 (t236.length : Int) x72_2 l0_0) = some r := by rw [hy269]; exact H
         have Ny269 := am hy269
         clear hy269
         have H' := am H
         clear H
         try go_wp2
         have n0_ := am (Kd.S_drew HO_11.out)
         have n1_ := am (Kd.R_drew HO_14.out)
         have n2_ := am (Kd.R_drew HO_20.out)
         have n3_ := am (Kd.R_drew HO_23.out)
         have n4_ := am (Kd.R_drew HO_70.out)
         have n5_ := am (blk_drew BK235.out)
         have n6_ := am (blk_drew BK242.out)
         have n7_ := am (blk_drew BK246.out)
         have n8_ := am (below_drew1 HB.out)
         clear HO_11 HO_14 HO_20 HO_23 HO_70 BK235 BK242 BK246 HB
         have HO_11 := n0_
         have HO_14 := n1_
         have HO_20 := n2_
         have HO_23 := n3_
         have HO_70 := n4_
         have BK235 := n5_
         have BK242 := n6_
         have BK246 := n7_
         have HB := n8_
         clear n0_ n1_ n2_ n3_ n4_ n5_ n6_ n7_ n8_
         obtain ⟨Ao84, co84, eo84⟩ := Kd.R_slice HO_14.out
         (first | subst eo84 | (injection eo84 with f1_ f2_ f3_; have f4_ := f1_.symm; have f5_ := f3_.symm; clear f1_ f2_ f3_; subst f4_; subst f5_))
         have p261 : 0 ≤ ((ji67) : Int) := odt ‹_›
         have q261 : (ji67) < (x14_4.length : Int) := odt ‹_›
         obtain ⟨ad261, e261, hx261_0⟩ := Kd.at_int (Kd.R_reads' HO_14.out).2.2 (ji67) p261 q261
         cases e261
         replace p261 := eq_true p261
         replace q261 := eq_true q261
         have p262 : 0 ≤ ((rd x14_4 (ji67)) : Int) := odt ‹_›
         have q262 : (rd x14_4 (ji67)) < (l0_0.length : Int) := odt ‹_›
         obtain ⟨ad262, A262_2, c262_2, e262, hx262_0, hx262_1, hx262_2, hl262_2, hi262_2⟩ := at_T58 HR0_0.out (rd x14_4 (ji67)) p262 q262
         have hw262_2 := hx262_2
         have hw262_1 := hx262_1
         have hw262_0 := hx262_0
         cases e262
         replace hx262_0 := (HB.out.cell (blc w _ hx262_0)).trans hx262_0
         replace hx262_1 := (HB.out.cell (blc w _ hx262_1)).trans hx262_1
         replace hx262_2 := (HB.out.cell (blc w _ hx262_2)).trans hx262_2
         have HR262_2 := am hi262_2
         have HC262_2 := am hl262_2
         clear hi262_2 hl262_2
         replace p262 := eq_true p262
         replace q262 := eq_true q262
         refine start_ (n := 12) (S := fun w' => w'.cell? ⟨gb235, 0, none⟩ = some (.slice (some ad262) l0_0.length c0_0) ∧ w'.cell? (ad261.add ((ji67)).toNat) = some (.int .i64 (rd x14_4 (ji67))) ∧ w'.cell? (ad262.add (((rd x14_4 (ji67))).toNat * 3)) = some (.int .i64 ((rd_T58 l0_0 (rd x14_4 (ji67))).f0)) ∧ w'.cell? ⟨(ad262.add (((rd x14_4 (ji67))).toNat * 3)).block, (ad262.add (((rd x14_4 (ji67))).toNat * 3)).off + 1, none⟩ = some (.int .i64 ((rd_T58 l0_0 (rd x14_4 (ji67))).f1)) ∧ w'.cell? ⟨(ad262.add (((rd x14_4 (ji67))).toNat * 3)).block, (ad262.add (((rd x14_4 (ji67))).toNat * 3)).off + 2, none⟩ = some (.slice A262_2 ((rd_T58 l0_0 (rd x14_4 (ji67))).f2).length c262_2)) (ds := []) #[false, false, false, false, false, false, false, false, false, false, false, false] (by kernel_rfl) rfl rfl ⟨(blk_cell BK235.out 0).trans rfl, hx261_0, ((HB.out.cell (blc w _ hw262_0)).trans hw262_0), ((HB.out.cell (blc w _ hw262_1)).trans hw262_1), ((HB.out.cell (blc w _ hw262_2)).trans hw262_2)⟩ (fun hHeld => ?_); refine with_tabW flow_Blocks.tab22 flow_Blocks.bits22 (fun HT_ HW_ => ?_)
         generalize wr.drew = w83 at HO_11 HO_14 HO_20 HO_23 HO_70 BK235 BK242 BK246 HB HR262_2 hx261_0 hx262_0 hx262_1 hx262_2 hHeld ⊢
         refine pure_ (i := 0) (N := some 87) (v := ?_) (a' := ?_) #[true, false, false, false, false, false, false, false, false, false, false, false] rfl rfl (any_of HT_.out (by kernel_rfl)) (fun _ _ _ h => h) (Or.inl ⟨by rfl, ?_⟩) ?_ ?_
         rotate_left
         ·intro w'
          go_simp
          with_reducible rfl
         rotate_left
         ·simp only [Act.put, List.setIfInBounds_toArray, List.set_cons_zero, List.set_cons_succ, i64_w, i32_w]
          rfl
         refine pure_ (i := 2) (N := some 89) (v := ?_) (a' := ?_) #[true, false, true, false, false, false, false, false, false, false, false, false] rfl rfl (any_of HT_.out (by kernel_rfl)) (fun _ _ _ h => h) (Or.inl ⟨by rfl, ?_⟩) ?_ ?_
         rotate_left
         ·intro w'
          go_simp
          with_reducible rfl
         rotate_left
         ·simp only [Act.put, List.setIfInBounds_toArray, List.set_cons_zero, List.set_cons_succ, i64_w, i32_w]
          rfl
         refine pure_ (i := 3) (N := some 90) (v := ?_) (a' := ?_) #[true, false, true, true, false, false, false, false, false, false, false, false] rfl rfl (any_of HT_.out (by kernel_rfl)) (fun _ _ _ h => h) (Or.inl ⟨by rfl, ?_⟩) ?_ ?_
         rotate_left
         ·intro w'
          go_simp
          with_reducible rfl
         rotate_left
         ·simp only [Act.put, List.setIfInBounds_toArray, List.set_cons_zero, List.set_cons_succ, i64_w, i32_w]
          rfl
         refine pure_ (i := 4) (N := some 91) (v := ?_) (a' := ?_) #[true, false, true, true, true, false, false, false, false, false, false, false] rfl rfl (any_of HT_.out (by kernel_rfl)) (fun _ _ _ h => h) (Or.inl ⟨by rfl, ?_⟩) ?_ ?_
         rotate_left
         ·intro w'
          go_simp
          with_reducible rfl
         rotate_left
         ·simp only [Act.put, List.setIfInBounds_toArray, List.set_cons_zero, List.set_cons_succ, i64_w, i32_w]
          rfl
         refine pure_ (i := 5) (N := some 92) (v := ?_) (a' := ?_) #[true, false, true, true, true, true, false, false, false, false, false, false] rfl rfl (any_of HT_.out (by kernel_rfl)) (fun _ _ _ h => h) (Or.inl ⟨by rfl, ?_⟩) ?_ ?_
         rotate_left
         ·intro w'
          go_simp
          with_reducible rfl
         rotate_left
         ·simp only [Act.put, List.setIfInBounds_toArray, List.set_cons_zero, List.set_cons_succ, i64_w, i32_w]
          rfl
         refine pure_ (i := 6) (N := some 93) (v := ?_) (a' := ?_) #[true, false, true, true, true, true, true, false, false, false, false, false] rfl rfl (any_of HT_.out (by kernel_rfl)) (fun _ _ _ h => h) (Or.inl ⟨by rfl, ?_⟩) ?_ ?_
         rotate_left
         ·intro w'
          go_simp
          with_reducible rfl
         rotate_left
         ·simp only [Act.put, List.setIfInBounds_toArray, List.set_cons_zero, List.set_cons_succ, i64_w, i32_w]
          rfl
         refine take_ (i := 1) (N := some 88) (v := ?_) (a' := ?_) #[true, true, true, true, true, true, true, false, false, false, false, false] rfl rfl (take_ofW HT_.out HW_.out (by kernel_rfl)) (fun _ _ _ h => h) (Or.inl ⟨by rfl, ?_⟩) hHeld ?_ ?_
         rotate_left
         ·rintro w' ⟨s0, s1, s2, s3, s4⟩
          go_simp
          with_reducible rfl
         rotate_left
         ·simp only [Act.put, List.setIfInBounds_toArray, List.set_cons_zero, List.set_cons_succ, i64_w, i32_w]
          rfl
         refine take_ (i := 7) (N := some 94) (v := ?_) (a' := ?_) #[true, true, true, true, true, true, true, true, false, false, false, false] rfl rfl (take_ofW HT_.out HW_.out (by kernel_rfl)) (fun _ _ _ h => h) (Or.inl ⟨by rfl, ?_⟩) hHeld ?_ ?_
         rotate_left
         ·rintro w' ⟨s0, s1, s2, s3, s4⟩
          go_simp
          with_reducible rfl
         rotate_left
         ·simp only [Act.put, List.setIfInBounds_toArray, List.set_cons_zero, List.set_cons_succ, i64_w, i32_w]
          rfl
         refine pure_ (i := 8) (N := some 95) (v := ?_) (a' := ?_) #[true, true, true, true, true, true, true, true, true, false, false, false] rfl rfl (any_of HT_.out (by kernel_rfl)) (fun _ _ _ h => h) (Or.inl ⟨by rfl, ?_⟩) ?_ ?_
         rotate_left
         ·intro w'
          go_simp
          with_reducible rfl
         rotate_left
         ·simp only [Act.put, List.setIfInBounds_toArray, List.set_cons_zero, List.set_cons_succ, i64_w, i32_w]
          rfl
         refine pure_ (i := 9) (N := some 96) (v := ?_) (a' := ?_) #[true, true, true, true, true, true, true, true, true, true, false, false] rfl rfl (any_of HT_.out (by kernel_rfl)) (fun _ _ _ h => h) (Or.inl ⟨by rfl, ?_⟩) ?_ ?_
         rotate_left
         ·intro w'
          go_simp
          with_reducible rfl
         rotate_left
         ·simp only [Act.put, List.setIfInBounds_toArray, List.set_cons_zero, List.set_cons_succ, i64_w, i32_w]
          rfl
         refine take_ (i := 10) (N := some 97) (v := ?_) (a' := ?_) #[true, true, true, true, true, true, true, true, true, true, true, false] rfl rfl (take_ofW HT_.out HW_.out (by kernel_rfl)) (fun _ _ _ h => h) (Or.inl ⟨by rfl, ?_⟩) hHeld ?_ ?_
         rotate_left
         ·rintro w' ⟨s0, s1, s2, s3, s4⟩
          go_simp
          with_reducible rfl
         rotate_left
         ·simp only [Act.put, List.setIfInBounds_toArray, List.set_cons_zero, List.set_cons_succ, i64_w, i32_w]
          rfl
         refine pure_ (i := 11) (N := some 15) (v := ?_) (a' := ?_) #[true, true, true, true, true, true, true, true, true, true, true, true] rfl rfl (any_of HT_.out (by kernel_rfl)) (fun _ _ _ h => h) (Or.inl ⟨by rfl, ?_⟩) ?_ ?_
         rotate_left
         ·intro w'
          go_simp
          with_reducible rfl
         rotate_left
         ·simp only [Act.put, List.setIfInBounds_toArray, List.set_cons_zero, List.set_cons_succ, i64_w, i32_w]
          rfl
         refine done_ (done_of HT_.out (by kernel_rfl)) ?_
         have p263 : 0 ≤ (0 : Int) := (by omega)
         have q263 : 0 < (((rd_T58 l0_0 (rd x14_4 (ji67))).f2).length : Int) := odt ‹_›
         obtain ⟨ad263, e263, hx263_0⟩ := Kd.at_int HR262_2.out 0 p263 q263
         cases e263
         have qi263 : (0 < ((rd_T58 l0_0 (rd x14_4 (ji67))).f2).length) = True := eq_true (by omega)
         (try rw [show ((0 : Int)).toNat = 0 from rfl] at hx263_0)
         (try rw [Addr.add_zero'] at hx263_0)
         replace hx263_0 := (HB.out.cell (blc w _ hx263_0)).trans hx263_0
         replace p263 := eq_true p263
         replace q263 := eq_true q263
         obtain ⟨Ao85, co85, eo85⟩ := Kd.R_slice HO_20.out
         subst eo85
         obtain ⟨Ao86, co86, eo86⟩ := Kd.R_slice HO_23.out
         subst eo86
         try go_wp2_with (first | (go_at_call 43; (refine (flow_begins.calls gb242 gb246 _ ?Aq1 ?cq1 x20_1 ?Aq2 ?cq2 x23_1 false _ ?sg4 ?sg5 ?side1 ?side2 ?side3 ?side4 A74.out).mono ?_); (case sg4 => (with_reducible repeat (first | refine blk_drewN ?_ _ | refine blk_drew ?_ | refine blk_alloc ?_ _)); exact BK242.out); (case sg5 => (with_reducible repeat (first | refine blk_drewN ?_ _ | refine blk_drew ?_ | refine blk_alloc ?_ _)); exact BK246.out); (case side1 => repeat (first | exact (Kd.R_reads' HO_20.out).2.2 | (with_reducible refine Kd.C_alloc ?_ _) | (with_reducible refine Kd.C_drewN ?_ _) | (with_reducible refine Kd.C_drew ?_))); (case side2 => exact (Kd.R_reads' HO_20.out).2.1); (case side3 => repeat (first | exact (Kd.R_reads' HO_23.out).2.2 | (with_reducible refine Kd.C_alloc ?_ _) | (with_reducible refine Kd.C_drewN ?_ _) | (with_reducible refine Kd.C_drew ?_))); (case side4 => exact (Kd.R_reads' HO_23.out).2.1); rintro e w' ⟨rfl, ⟨nd, rfl⟩⟩; have p268 : 0 ≤ (0 : Int) := (by omega); have q268 : 0 < (((rd_T58 l0_0 (rd x14_4 (ji67))).f2).length : Int) := odt ‹_›; obtain ⟨ad268, e268, hx268_0⟩ := Kd.at_int HR262_2.out 0 p268 q268; obtain rfl : ad263 = ad268 := (by injection e268); have qi268 : (0 < ((rd_T58 l0_0 (rd x14_4 (ji67))).f2).length) = True := eq_true (by omega); (try rw [show ((0 : Int)).toNat = 0 from rfl] at hx268_0); (try rw [Addr.add_zero'] at hx268_0); replace hx268_0 := (HB.out.cell (blc w _ hx268_0)).trans hx268_0; replace p268 := eq_true p268; replace q268 := eq_true q268) | ((with_reducible refine gate_builtin (b := .append) (xs := #[.tmp 108, .tmp 112]) rfl ?_); (try (refine gate_guard (by rfl) ?_; dsimp only)); at_builtin; refine Kd.R_append (Kd.int .i64) (w0 := w) w.heap.size rfl (.tmp 108) (.tmp 112) 27 3 (.int .i64 0) 8 rfl Tryz.underlying27 info3 rfl (by decide) (by omega) (.slice (some ad261) x14_4.length co84) x14_4 (rd ((rd_T58 l0_0 (rd x14_4 (ji67))).f2) 0) [.int .i64 (rd ((rd_T58 l0_0 (rd x14_4 (ji67))).f2) 0)] (fun k_ => some k_ ≠ (.slice Ao85 x20_1.length co85 : Value).ownBlock) (fun _ => False) rfl rfl ?aP (fun _ hk => hk.elim) ?aF ?aO ?aB ?aS ?aL ?_; (case aP => exact rfl); (case aB => exact (by repeat (first | (with_reducible first | exact HB.out | apply below_alloc | apply pw_below_drewN | apply below_drew1 | refine below_set ?_ GE235.out | refine below_set ?_ GE242.out | refine below_set ?_ GE246.out) | exact HB.out))); (case aF => exact (fun k_ hk => Kd.fresh' (Kd.R_lt (by (with_reducible repeat (first | apply Kd.R_alloc | apply Kd.R_drewN | apply Kd.R_drew)); exact HO_20.out)) k_ hk)); (case aO => exact (by (with_reducible repeat (first | apply Kd.R_alloc | apply Kd.R_drewN | apply Kd.R_drew)); exact HO_14.out)); (case aS => exact (below_size (by repeat (first | (with_reducible first | exact HB.out | apply below_alloc | apply pw_below_drewN | apply below_drew1 | refine below_set ?_ GE235.out | refine below_set ?_ GE242.out | refine below_set ?_ GE246.out) | exact HB.out)))); (case aL => have := LMc82.out; omega); intro v270 w87 ho hb hg hat; rw [← Ny269.out] at ho; have n0_ := am (Kd.S_after (ok := (fun k_ => some k_ ≠ (.slice Ao85 x20_1.length co85 : Value).ownBlock)) (by (with_reducible repeat (first | apply Kd.S_alloc | apply Kd.S_drewN | apply Kd.S_drew)); exact Kd.S_mono HO_11.out (fun _ hk => ⟨hk.2, hk.1⟩)) hg hat); have n1_ := am (Kd.R_after (ok := (fun _ => True)) (by (with_reducible repeat (first | apply Kd.R_alloc | apply Kd.R_drewN | apply Kd.R_drew)); exact Kd.R_mono HO_20.out (fun _ hk => ⟨trivial, hk⟩)) hg hat); have n2_ := am (Kd.R_over' (by (with_reducible repeat (first | apply Kd.R_alloc | apply Kd.R_drewN | apply Kd.R_drew)); exact HO_23.out) (Kd.R_typed (by (with_reducible repeat (first | apply Kd.R_alloc | apply Kd.R_drewN | apply Kd.R_drew)); exact HO_14.out)) (by decide) hg); have n3_ := am (Kd.R_over' (by (with_reducible repeat (first | apply Kd.R_alloc | apply Kd.R_drewN | apply Kd.R_drew)); exact HO_70.out) (Kd.R_typed (by (with_reducible repeat (first | apply Kd.R_alloc | apply Kd.R_drewN | apply Kd.R_drew)); exact HO_14.out)) (by decide) hg); have n4_ := am (blk_grown (g := gb235) (o := .cells #[.slice (some ad262) l0_0.length c0_0] 36 (0, 0)) (by (with_reducible repeat (first | refine blk_drewN ?_ _ | refine blk_drew ?_ | refine blk_alloc ?_ _)); exact BK235.out) hg (Kd.R_ne HO_14.out BK235.out (by decide))); have n5_ := am (carryG BK242 (fun h_ => by (with_reducible repeat (first | refine blk_drewN ?_ _ | refine blk_drew ?_ | refine blk_alloc ?_ _)); exact h_) hg (Kd.R_ne HO_14.out BK242.out (by decide))); have n6_ := am (carryG BK246 (fun h_ => by (with_reducible repeat (first | refine blk_drewN ?_ _ | refine blk_drew ?_ | refine blk_alloc ?_ _)); exact h_) hg (Kd.R_ne HO_14.out BK246.out (by decide))); have n7_ := am (hb); have n8_ := am (ho); clear HO_11; clear HO_20; clear HO_23; clear HO_70; clear BK235; clear BK242; clear BK246; clear HB; clear HO_14; have HO_11 := n0_; have HO_20 := n1_; have HO_23 := n2_; have HO_70 := n3_; have BK235 := n4_; have BK242 := n5_; have BK246 := n6_; have HB := n7_; have HO271 := n8_; clear n0_ n1_ n2_ n3_ n4_ n5_ n6_ n7_ n8_; clear ho hb hg hat))
         go_roundg k4
         case measure => have := HK1.out; have := HK2.out; have := HJ57.out; have := HK4.out; omega
         case rel => exact ⟨(y269), H', ⟨by have := HK1.out; have := HK2.out; have := HJ57.out; have := HK4.out; omega⟩, ⟨Kd.S_mono HO_11.out (fun _ hk => ⟨hk.2, hk.1⟩)⟩, ⟨HO271.out⟩, ⟨Kd.R_mono HO_20.out (fun _ hk => hk.2)⟩, ⟨HO_23.out⟩, ⟨HO_70.out⟩, NE11, ⟨BK235.out⟩, ⟨BK242.out⟩, ⟨BK246.out⟩, ⟨HB.out⟩⟩
end Go.Proofs.YtfcjeoihfphphaaGreatDoor.PFlow
end

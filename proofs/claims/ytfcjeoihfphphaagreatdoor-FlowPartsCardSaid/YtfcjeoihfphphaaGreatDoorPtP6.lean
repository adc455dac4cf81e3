/- A part of the proof, written by programs of this seat and by hand: P6. -/
import Derived.Test.YtfcjeoihfphphaaGreatDoorPtP0
import Derived.Test.YtfcjeoihfphphaaGreatDoorPtP2
set_option linter.unusedVariables false
set_option linter.unusedSimpArgs false
section
namespace Go.Proofs.YtfcjeoihfphphaaGreatDoor.PFlow
open Go.RowKit Go.Proofs.YtfcjeoihfphphaaGreatDoorW.PrintWords Go.Proofs.YtfcjeoihfphphaaGreatDoorW.PrintLast Go.Proofs.YtfcjeoihfphphaaGreatDoorW.PrintMore
attribute [local go_sem] max2_int min2_int max_two min_two max_three min_three max_four min_four   -- for this text's walks alone
set_option linter.unusedVariables false
set_option linter.unusedSimpArgs false
mutual
def q_Reach.l0 : Nat → Int → List Bool → List Int → List (S58) → Option (List Bool)
 | 0, _, _, _, _ => none
 | k + 1, x2, x7, x8, x204000 => if (x8.length : Int) > 0 then (if 0 < (x8.length : Int) then (if 0 ≤ (rd x8 0) then (if (rd x8 0) < (x204000.length : Int) then (if 1 ≤ (x8.length : Int) then (q_Reach.l1 k x2 x7 (x8.drop (1 : Int).toNat) ((rd_T58 x204000 (rd x8 0)).f2) 0 x204000) else (none)) else (none)) else (none)) else (none)) else (some x7)
def q_Reach.l1 : Nat → Int → List Bool → List Int → List Int → Int → List (S58) → Option (List Bool)
 | 0, _, _, _, _, _, _ => none
 | k + 1, x2, x7, x8, x9, x10, x204000 => if x10 < (x9.length : Int) then (if 0 ≤ x10 then (if (rd x9 x10) = x2 then (q_Reach.l1 k x2 x7 x8 x9 (wrap64 (x10 + 1)) x204000) else (if 0 ≤ (rd x9 x10) then (if (rd x9 x10) < (x7.length : Int) then (if (rdOf false x7 (rd x9 x10) = true) then (q_Reach.l1 k x2 x7 x8 x9 (wrap64 (x10 + 1)) x204000) else (if x8.length < 17592186044416 then (q_Reach.l1 k x2 (x7.set ((rd x9 x10) : Int).toNat true) (x8 ++ [rd x9 x10]) x9 (wrap64 (x10 + 1)) x204000) else (none))) else (none)) else (none))) else (none)) else (q_Reach.l0 k x2 x7 x8 x204000)
end
def q_Reach.f (k : Nat) (l0_0 : List (S58)) (a1 : Int) (a2 : Int) : Option (List Bool) := if 0 ≤ (l0_0.length : Int) then (if ((l0_0.length : Int) : Int).toNat ≤ 281474976710656 then ((some (List.replicate ((l0_0.length : Int) : Int).toNat false : List Bool)).bind fun y204 => (if a1 = a2 then (some y204) else (if 0 ≤ a1 then (if a1 < (y204.length : Int) then (q_Reach.l0 k a2 (y204.set (a1 : Int).toNat true) (([a1] : List Int)) l0_0) else (none)) else (none)))) else (none)) else (none)
set_option maxHeartbeats 8000000 in
set_option maxRecDepth 100000 in
theorem q_Reach.calls (k : Nat) (A0_0 : Option Addr) (c0_0 : Nat) (l0_0 : List (S58)) (a1 : Int) (a2 : Int) (r : List Bool) (w : World) (hr0_0 : Kd.C k58 w A0_0 l0_0.length l0_0) (hc0_0 : l0_0.length ≤ c0_0) (h : q_Reach.f k l0_0 a1 a2 = some r) :
 Calls Tryz.prog 25 #[.agg #[.slice A0_0 l0_0.length c0_0], .int .i64 a1, .int .i64 a2] w fun e w' => ∃ v0_ : Value, e = .returned (v0_) ∧ Kd.R Kd.bool 4 w' w.heap.size (fun _ => True) v0_ r ∧ Below w.heap.size w w' := by
 have hu36 := Tryz.underlying36
 have HR0_0 := am hr0_0
 have HC0_0 := am hc0_0
 clear hr0_0 hc0_0
 have HB := am (Below.refl w.heap.size w)
 have H : (if 0 ≤ (l0_0.length : Int) then (if ((l0_0.length : Int) : Int).toNat ≤ 281474976710656 then ((some (List.replicate ((l0_0.length : Int) : Int).toNat false : List Bool)).bind fun y204 => (if a1 = a2 then (some y204) else (if 0 ≤ a1 then (if a1 < (y204.length : Int) then (q_Reach.l0 k a2 (y204.set (a1 : Int).toNat true) (([a1] : List Int)) l0_0) else (none)) else (none)))) else (none)) else (none)) = some r := h
 clear h
 by_cases c4 : 0 ≤ (l0_0.length : Int)
 rotate_left
 ·rw [if_neg c4] at H
  exact absurd H (by simp)
 rw [if_pos c4] at H
 have c4b0 := eq_true c4
 have c4b1 : decide (0 ≤ (l0_0.length : Int)) = true := decide_eq_true c4
 clear c4
 by_cases c5 : ((l0_0.length : Int) : Int).toNat ≤ 281474976710656
 rotate_left
 ·rw [if_neg c5] at H
  exact absurd H (by simp)
 rw [if_pos c5] at H
 have c5b0 := eq_true c5
 have c5b1 : decide (((l0_0.length : Int) : Int).toNat ≤ 281474976710656) = true := decide_eq_true c5
 clear c5
 obtain ⟨y204, hy204⟩ : ∃ y_ : List Bool, y_ = (List.replicate ((l0_0.length : Int) : Int).toNat false) := ⟨_, rfl⟩
 replace H : (if a1 = a2 then (some y204) else (if 0 ≤ a1 then (if a1 < (y204.length : Int) then (q_Reach.l0 k a2 (y204.set (a1 : Int).toNat true) (([a1] : List Int)) l0_0) else (none)) else (none))) = some r := by rw [hy204]; exact H
 have Ny204 := am hy204
 clear hy204
 by_cases c6 : a1 = a2
 ·rw [if_pos c6] at H
  have c6b0 : (a1 == a2) = true := beq_iff_eq.mpr c6
  have c6b1 : (a1 != a2) = false := bne_eq_false_iff_eq.mpr c6
  clear c6
  obtain rfl := Option.some.inj H
  go_enter Tryz.func25, Tryz.ntmps25
  go_wp2_with (first | ((with_reducible refine gate_dst (N := 3) rfl ?_); refine box_event ?hg (N := 3) ?hd (cs := #[.slice A0_0 l0_0.length c0_0]) (t := 36) ?hr ?_; (case hd => rfl); (case hg => rfl); (case hr => first | (go_simp; done) | (go_simp; rfl)); intro gb203 hg w7 hbox hb; have n0_ := am (below_step (HB.out) hb); have n1_ := am (hbox); have n2_ := am ((by rw [hg]; exact (below_size (HB.out)) : w.heap.size ≤ gb203)); have n3_ := am ((by rw [hg]; exact (below_size (HB.out)) : w.heap.size ≤ gb203)); clear HB; have HB := n0_; have BK203 := n1_; have GW203 := n2_; have GE203 := n3_; clear n0_ n1_ n2_ n3_; clear hb hbox hg; have hcz8_0 : w7.cell? ⟨gb203, 0, none⟩ = some (.slice A0_0 l0_0.length c0_0) := (blk_cell BK203.out 0).trans rfl; have hfz8_0 := blk_frozen BK203.out 0) | ((with_reducible refine gate_dst (N := 14) rfl ?_); refine Kd.R_make Kd.bool _ 4 rfl (N := 14) rfl 49 _ _ rfl (l0_0.length : Int) rfl rfl Tryz.underlying49 (.bool false) 1 info4 rfl (by decide) (by omega) false (ok := fun _ => True) (okp := fun _ => True) rfl (fun _ hk => hk) trivial (odt ‹_›) (Nat.le_trans (Nat.mul_le_mul_right _ (odt ‹_› : (l0_0.length : Int).toNat ≤ 281474976710656)) (by omega)) (Below.refl _ _) (Nat.le_refl _) ?_; intro v205 w9 ho10 hb hg_ hnew_; clear hg_ hnew_; (first | rw [← Ny204.out] at ho10 | (simp only [Int.reduceToNat] at ho10; rw [← Ny204.out] at ho10)); have n0_ := am (Kd.R_lower ho10 (below_size (HB.out))); have n1_ := am (blk_below (g := gb203) (o := .cells #[.slice A0_0 l0_0.length c0_0] 36 (0, 0)) (BK203.out) hb); have n2_ := am (below_step (HB.out) hb); clear BK203; clear HB; have HO206 := n0_; have BK203 := n1_; have HB := n2_; clear n0_ n1_ n2_; clear hb ho10))
  repeat (go_quiet (first | ((with_reducible refine gate_dst (N := 3) rfl ?_); refine box_event ?hg (N := 3) ?hd (cs := #[.slice A0_0 l0_0.length c0_0]) (t := 36) ?hr ?_; (case hd => rfl); (case hg => rfl); (case hr => first | (go_simp; done) | (go_simp; rfl)); intro gb203 hg w7 hbox hb; have n0_ := am (below_step (HB.out) hb); have n1_ := am (hbox); have n2_ := am ((by rw [hg]; exact (below_size (HB.out)) : w.heap.size ≤ gb203)); have n3_ := am ((by rw [hg]; exact (below_size (HB.out)) : w.heap.size ≤ gb203)); clear HB; have HB := n0_; have BK203 := n1_; have GW203 := n2_; have GE203 := n3_; clear n0_ n1_ n2_ n3_; clear hb hbox hg; have hcz8_0 : w7.cell? ⟨gb203, 0, none⟩ = some (.slice A0_0 l0_0.length c0_0) := (blk_cell BK203.out 0).trans rfl; have hfz8_0 := blk_frozen BK203.out 0) | ((with_reducible refine gate_dst (N := 14) rfl ?_); refine Kd.R_make Kd.bool _ 4 rfl (N := 14) rfl 49 _ _ rfl (l0_0.length : Int) rfl rfl Tryz.underlying49 (.bool false) 1 info4 rfl (by decide) (by omega) false (ok := fun _ => True) (okp := fun _ => True) rfl (fun _ hk => hk) trivial (odt ‹_›) (Nat.le_trans (Nat.mul_le_mul_right _ (odt ‹_› : (l0_0.length : Int).toNat ≤ 281474976710656)) (by omega)) (Below.refl _ _) (Nat.le_refl _) ?_; intro v205 w9 ho10 hb hg_ hnew_; clear hg_ hnew_; (first | rw [← Ny204.out] at ho10 | (simp only [Int.reduceToNat] at ho10; rw [← Ny204.out] at ho10)); have n0_ := am (Kd.R_lower ho10 (below_size (HB.out))); have n1_ := am (blk_below (g := gb203) (o := .cells #[.slice A0_0 l0_0.length c0_0] 36 (0, 0)) (BK203.out) hb); have n2_ := am (below_step (HB.out) hb); clear BK203; clear HB; have HO206 := n0_; have BK203 := n1_; have HB := n2_; clear n0_ n1_ n2_; clear hb ho10)); try go_wp2_with (first | ((with_reducible refine gate_dst (N := 3) rfl ?_); refine box_event ?hg (N := 3) ?hd (cs := #[.slice A0_0 l0_0.length c0_0]) (t := 36) ?hr ?_; (case hd => rfl); (case hg => rfl); (case hr => first | (go_simp; done) | (go_simp; rfl)); intro gb203 hg w7 hbox hb; have n0_ := am (below_step (HB.out) hb); have n1_ := am (hbox); have n2_ := am ((by rw [hg]; exact (below_size (HB.out)) : w.heap.size ≤ gb203)); have n3_ := am ((by rw [hg]; exact (below_size (HB.out)) : w.heap.size ≤ gb203)); clear HB; have HB := n0_; have BK203 := n1_; have GW203 := n2_; have GE203 := n3_; clear n0_ n1_ n2_ n3_; clear hb hbox hg; have hcz8_0 : w7.cell? ⟨gb203, 0, none⟩ = some (.slice A0_0 l0_0.length c0_0) := (blk_cell BK203.out 0).trans rfl; have hfz8_0 := blk_frozen BK203.out 0) | ((with_reducible refine gate_dst (N := 14) rfl ?_); refine Kd.R_make Kd.bool _ 4 rfl (N := 14) rfl 49 _ _ rfl (l0_0.length : Int) rfl rfl Tryz.underlying49 (.bool false) 1 info4 rfl (by decide) (by omega) false (ok := fun _ => True) (okp := fun _ => True) rfl (fun _ hk => hk) trivial (odt ‹_›) (Nat.le_trans (Nat.mul_le_mul_right _ (odt ‹_› : (l0_0.length : Int).toNat ≤ 281474976710656)) (by omega)) (Below.refl _ _) (Nat.le_refl _) ?_; intro v205 w9 ho10 hb hg_ hnew_; clear hg_ hnew_; (first | rw [← Ny204.out] at ho10 | (simp only [Int.reduceToNat] at ho10; rw [← Ny204.out] at ho10)); have n0_ := am (Kd.R_lower ho10 (below_size (HB.out))); have n1_ := am (blk_below (g := gb203) (o := .cells #[.slice A0_0 l0_0.length c0_0] 36 (0, 0)) (BK203.out) hb); have n2_ := am (below_step (HB.out) hb); clear BK203; clear HB; have HO206 := n0_; have BK203 := n1_; have HB := n2_; clear n0_ n1_ n2_; clear hb ho10)))
  go_ret
  exact ⟨_, rfl, by (with_reducible repeat (first | apply Kd.R_alloc | apply Kd.R_drewN | apply Kd.R_drew)); exact HO206.out, HB.out⟩
 rw [if_neg c6] at H
 have c6b0 : (a1 == a2) = false := beq_eq_false_iff_ne.mpr c6
 have c6b1 : (a1 != a2) = true := bne_iff_ne.mpr c6
 by_cases c11 : 0 ≤ a1
 rotate_left
 ·rw [if_neg c11] at H
  exact absurd H (by simp)
 rw [if_pos c11] at H
 have c11b0 : decide (0 ≤ a1) = true := decide_eq_true c11
 clear c11
 by_cases c12 : a1 < (y204.length : Int)
 rotate_left
 ·rw [if_neg c12] at H
  exact absurd H (by simp)
 rw [if_pos c12] at H
 have c12b0 : decide (a1 < (y204.length : Int)) = true := decide_eq_true c12
 clear c12
 obtain ⟨y207, hy207⟩ : ∃ y_ : List Bool, y_ = (y204.set (a1 : Int).toNat true) := ⟨_, rfl⟩
 replace H : (q_Reach.l0 k a2 y207 (([a1] : List Int)) l0_0) = some r := by rw [hy207]; exact H
 have Ny207 := am hy207
 clear hy207
 obtain ⟨y208, hy208⟩ : ∃ y_ : List Int, y_ = (([a1] : List Int)) := ⟨_, rfl⟩
 replace H : (q_Reach.l0 k a2 y207 y208 l0_0) = some r := by rw [hy208]; exact H
 have Ny208 := am hy208
 clear hy208
 have H' := am H
 clear H
 go_enter Tryz.func25, Tryz.ntmps25
 go_wp2_with (first | ((with_reducible refine gate_dst (N := 3) rfl ?_); refine box_event ?hg (N := 3) ?hd (cs := #[.slice A0_0 l0_0.length c0_0]) (t := 36) ?hr ?_; (case hd => rfl); (case hg => rfl); (case hr => first | (go_simp; done) | (go_simp; rfl)); intro gb203 hg w14 hbox hb; have n0_ := am (below_step (HB.out) hb); have n1_ := am (hbox); have n2_ := am ((by rw [hg]; exact (below_size (HB.out)) : w.heap.size ≤ gb203)); have n3_ := am ((by rw [hg]; exact (below_size (HB.out)) : w.heap.size ≤ gb203)); clear HB; have HB := n0_; have BK203 := n1_; have GW203 := n2_; have GE203 := n3_; clear n0_ n1_ n2_ n3_; clear hb hbox hg; have hcz15_0 : w14.cell? ⟨gb203, 0, none⟩ = some (.slice A0_0 l0_0.length c0_0) := (blk_cell BK203.out 0).trans rfl; have hfz15_0 := blk_frozen BK203.out 0) | ((with_reducible refine gate_dst (N := 14) rfl ?_); refine Kd.R_make Kd.bool _ 4 rfl (N := 14) rfl 49 _ _ rfl (l0_0.length : Int) rfl rfl Tryz.underlying49 (.bool false) 1 info4 rfl (by decide) (by omega) false (ok := fun _ => True) (okp := fun _ => True) rfl (fun _ hk => hk) trivial (odt ‹_›) (Nat.le_trans (Nat.mul_le_mul_right _ (odt ‹_› : (l0_0.length : Int).toNat ≤ 281474976710656)) (by omega)) (Below.refl _ _) (Nat.le_refl _) ?_; intro v205 w16 ho17 hb hg_ hnew_; clear hg_ hnew_; (first | rw [← Ny204.out] at ho17 | (simp only [Int.reduceToNat] at ho17; rw [← Ny204.out] at ho17)); have n0_ := am (Kd.R_lower ho17 (below_size (HB.out))); have n1_ := am (blk_below (g := gb203) (o := .cells #[.slice A0_0 l0_0.length c0_0] 36 (0, 0)) (BK203.out) hb); have n2_ := am (below_step (HB.out) hb); clear BK203; clear HB; have HO206 := n0_; have BK203 := n1_; have HB := n2_; clear n0_ n1_ n2_; clear hb ho17; have p13 : 0 ≤ (a1 : Int) := odt ‹_›; have q13 : (a1 : Int) < ((y204.length : Int) : Int) := odt ‹_›; obtain ⟨go13, co13, eo13, gb13, gl13, cl13, HG13⟩ := Kd.R_form HO206.out (by omega); (first | cases eo13 | (injection eo13 with ea_ en_ ec_; (first | subst ea_ | (injection ea_ with ea_; subst ea_)); subst ec_; clear en_)); have GB13 := am gb13; have GG13 := am HG13; clear gb13 gl13 HG13; obtain ⟨hx13_0, hf13_0⟩ := Kd.R_celln false HO206.out (a1 : Int) p13 q13; replace p13 := eq_true p13; replace q13 := eq_true q13; obtain ⟨hy18_, hz18_⟩ := Kd.R_celln false HO206.out (a1 : Int) (odt ‹_›) (odt ‹_›); have HP18 := Kd.R_putg HO206.out (a1 : Int) true) | ((with_reducible refine gate_store (t := 4) (p := 21) rfl ?_); (try (rw [drewN_self w16]; generalize hq_ : World.drewN w16 _ = w16; have n0_ := am (Kd.R_at hq_ HO206.out); have n1_ := am (blk_at hq_ BK203.out); have n2_ := am (below_at hq_ HB.out); clear hq_ HO206 BK203 HB; have HO206 := n0_; have BK203 := n1_; have HB := n2_; clear n0_ n1_ n2_; (try (obtain ⟨hy18_, hz18_⟩ := Kd.R_celln false HO206.out (a1 : Int) (odt ‹_›) (odt ‹_›))); (try (have HP18 := Kd.R_putg HO206.out (a1 : Int) true)))); refine store_event (t := 4) (p := 21) (v := ?vo_w19) (w1 := (w16.setCell ⟨go13, (a1 : Int).toNat, none⟩ (.bool true))) ?hg ?ho ?hn ?hr ?_; (case ho => rfl); (case hg => rfl); (case hn => rfl); (case hr => first | (go_simp; done) | (go_simp; rfl)); intro w19 hw; have hg : w16.grownBy w19 (some go13) := (by rw [hw]; exact HP18.2); have hp_ : Kd.R Kd.bool 4 w19 w.heap.size (fun _ => True) (.slice (some ⟨go13, 0, none⟩) y204.length co13) y207 := (by rw [hw, Ny207.out]; exact HP18.1); clear HP18; have n0_ := am (blk_grown (g := gb203) (o := .cells #[.slice A0_0 l0_0.length c0_0] 36 (0, 0)) (BK203.out) hg (Kd.R_ne HO206.out BK203.out (by decide))); have n1_ := am (hp_); have n2_ := am ((by rw [hw]; exact below_set (HB.out) GB13.out : Below w.heap.size w w19)); clear BK203; clear HO206; clear HB; have BK203 := n0_; have HO206 := n1_; have HB := n2_; clear n0_ n1_ n2_; clear hg hw hp_) | ((with_reducible refine gate_dst (N := 23) rfl ?_); refine Kd.R_lit (Kd.int .i64) _ 3 ?hg (N := 23) ?hd (xs := ([a1] : List Int)) (inner := [.int .i64 a1]) (ok := fun _ => True) (okp := fun _ => True) ?hr ?hp (fun _ hk => hk) trivial (Below.refl _ _) (Nat.le_refl _) (by simp) ?_; (case hd => rfl); (case hg => rfl); (case hr => first | (go_simp; done) | (go_simp; rfl)); (case hp => exact (Reps.one (show Kd.M (Kd.int .i64) _ _ _ a1 [.int .i64 a1] from rfl) (Reps.none _ _))); intro v209 w20 ho21 hb hg_ hnew_; clear hg_ hnew_; (first | rw [← Ny208.out] at ho21 | (simp only [Int.reduceToNat] at ho21; rw [← Ny208.out] at ho21)); have n0_ := am (Kd.R_below (HO206.out) hb); have n1_ := am (Kd.R_lower ho21 (below_size (HB.out))); have n2_ := am (blk_below (g := gb203) (o := .cells #[.slice A0_0 l0_0.length c0_0] 36 (0, 0)) (BK203.out) hb); have n3_ := am (below_step (HB.out) hb); clear HO206; clear BK203; clear HB; have HO206 := n0_; have HO210 := n1_; have BK203 := n2_; have HB := n3_; clear n0_ n1_ n2_ n3_; clear hb ho21))
 repeat (go_quiet (first | ((with_reducible refine gate_dst (N := 3) rfl ?_); refine box_event ?hg (N := 3) ?hd (cs := #[.slice A0_0 l0_0.length c0_0]) (t := 36) ?hr ?_; (case hd => rfl); (case hg => rfl); (case hr => first | (go_simp; done) | (go_simp; rfl)); intro gb203 hg w14 hbox hb; have n0_ := am (below_step (HB.out) hb); have n1_ := am (hbox); have n2_ := am ((by rw [hg]; exact (below_size (HB.out)) : w.heap.size ≤ gb203)); have n3_ := am ((by rw [hg]; exact (below_size (HB.out)) : w.heap.size ≤ gb203)); clear HB; have HB := n0_; have BK203 := n1_; have GW203 := n2_; have GE203 := n3_; clear n0_ n1_ n2_ n3_; clear hb hbox hg; have hcz15_0 : w14.cell? ⟨gb203, 0, none⟩ = some (.slice A0_0 l0_0.length c0_0) := (blk_cell BK203.out 0).trans rfl; have hfz15_0 := blk_frozen BK203.out 0) | ((with_reducible refine gate_dst (N := 14) rfl ?_); refine Kd.R_make Kd.bool _ 4 rfl (N := 14) rfl 49 _ _ rfl (l0_0.length : Int) rfl rfl Tryz.underlying49 (.bool false) 1 info4 rfl (by decide) (by omega) false (ok := fun _ => True) (okp := fun _ => True) rfl (fun _ hk => hk) trivial (odt ‹_›) (Nat.le_trans (Nat.mul_le_mul_right _ (odt ‹_› : (l0_0.length : Int).toNat ≤ 281474976710656)) (by omega)) (Below.refl _ _) (Nat.le_refl _) ?_; intro v205 w16 ho17 hb hg_ hnew_; clear hg_ hnew_; (first | rw [← Ny204.out] at ho17 | (simp only [Int.reduceToNat] at ho17; rw [← Ny204.out] at ho17)); have n0_ := am (Kd.R_lower ho17 (below_size (HB.out))); have n1_ := am (blk_below (g := gb203) (o := .cells #[.slice A0_0 l0_0.length c0_0] 36 (0, 0)) (BK203.out) hb); have n2_ := am (below_step (HB.out) hb); clear BK203; clear HB; have HO206 := n0_; have BK203 := n1_; have HB := n2_; clear n0_ n1_ n2_; clear hb ho17; have p13 : 0 ≤ (a1 : Int) := odt ‹_›; have q13 : (a1 : Int) < ((y204.length : Int) : Int) := odt ‹_›; obtain ⟨go13, co13, eo13, gb13, gl13, cl13, HG13⟩ := Kd.R_form HO206.out (by omega); (first | cases eo13 | (injection eo13 with ea_ en_ ec_; (first | subst ea_ | (injection ea_ with ea_; subst ea_)); subst ec_; clear en_)); have GB13 := am gb13; have GG13 := am HG13; clear gb13 gl13 HG13; obtain ⟨hx13_0, hf13_0⟩ := Kd.R_celln false HO206.out (a1 : Int) p13 q13; replace p13 := eq_true p13; replace q13 := eq_true q13; obtain ⟨hy18_, hz18_⟩ := Kd.R_celln false HO206.out (a1 : Int) (odt ‹_›) (odt ‹_›); have HP18 := Kd.R_putg HO206.out (a1 : Int) true) | ((with_reducible refine gate_store (t := 4) (p := 21) rfl ?_); (try (rw [drewN_self w16]; generalize hq_ : World.drewN w16 _ = w16; have n0_ := am (Kd.R_at hq_ HO206.out); have n1_ := am (blk_at hq_ BK203.out); have n2_ := am (below_at hq_ HB.out); clear hq_ HO206 BK203 HB; have HO206 := n0_; have BK203 := n1_; have HB := n2_; clear n0_ n1_ n2_; (try (obtain ⟨hy18_, hz18_⟩ := Kd.R_celln false HO206.out (a1 : Int) (odt ‹_›) (odt ‹_›))); (try (have HP18 := Kd.R_putg HO206.out (a1 : Int) true)))); refine store_event (t := 4) (p := 21) (v := ?vo_w19) (w1 := (w16.setCell ⟨go13, (a1 : Int).toNat, none⟩ (.bool true))) ?hg ?ho ?hn ?hr ?_; (case ho => rfl); (case hg => rfl); (case hn => rfl); (case hr => first | (go_simp; done) | (go_simp; rfl)); intro w19 hw; have hg : w16.grownBy w19 (some go13) := (by rw [hw]; exact HP18.2); have hp_ : Kd.R Kd.bool 4 w19 w.heap.size (fun _ => True) (.slice (some ⟨go13, 0, none⟩) y204.length co13) y207 := (by rw [hw, Ny207.out]; exact HP18.1); clear HP18; have n0_ := am (blk_grown (g := gb203) (o := .cells #[.slice A0_0 l0_0.length c0_0] 36 (0, 0)) (BK203.out) hg (Kd.R_ne HO206.out BK203.out (by decide))); have n1_ := am (hp_); have n2_ := am ((by rw [hw]; exact below_set (HB.out) GB13.out : Below w.heap.size w w19)); clear BK203; clear HO206; clear HB; have BK203 := n0_; have HO206 := n1_; have HB := n2_; clear n0_ n1_ n2_; clear hg hw hp_) | ((with_reducible refine gate_dst (N := 23) rfl ?_); refine Kd.R_lit (Kd.int .i64) _ 3 ?hg (N := 23) ?hd (xs := ([a1] : List Int)) (inner := [.int .i64 a1]) (ok := fun _ => True) (okp := fun _ => True) ?hr ?hp (fun _ hk => hk) trivial (Below.refl _ _) (Nat.le_refl _) (by simp) ?_; (case hd => rfl); (case hg => rfl); (case hr => first | (go_simp; done) | (go_simp; rfl)); (case hp => exact (Reps.one (show Kd.M (Kd.int .i64) _ _ _ a1 [.int .i64 a1] from rfl) (Reps.none _ _))); intro v209 w20 ho21 hb hg_ hnew_; clear hg_ hnew_; (first | rw [← Ny208.out] at ho21 | (simp only [Int.reduceToNat] at ho21; rw [← Ny208.out] at ho21)); have n0_ := am (Kd.R_below (HO206.out) hb); have n1_ := am (Kd.R_lower ho21 (below_size (HB.out))); have n2_ := am (blk_below (g := gb203) (o := .cells #[.slice A0_0 l0_0.length c0_0] 36 (0, 0)) (BK203.out) hb); have n3_ := am (below_step (HB.out) hb); clear HO206; clear BK203; clear HB; have HO206 := n0_; have HO210 := n1_; have BK203 := n2_; have HB := n3_; clear n0_ n1_ n2_ n3_; clear hb ho21)); try go_wp2_with (first | ((with_reducible refine gate_dst (N := 3) rfl ?_); refine box_event ?hg (N := 3) ?hd (cs := #[.slice A0_0 l0_0.length c0_0]) (t := 36) ?hr ?_; (case hd => rfl); (case hg => rfl); (case hr => first | (go_simp; done) | (go_simp; rfl)); intro gb203 hg w14 hbox hb; have n0_ := am (below_step (HB.out) hb); have n1_ := am (hbox); have n2_ := am ((by rw [hg]; exact (below_size (HB.out)) : w.heap.size ≤ gb203)); have n3_ := am ((by rw [hg]; exact (below_size (HB.out)) : w.heap.size ≤ gb203)); clear HB; have HB := n0_; have BK203 := n1_; have GW203 := n2_; have GE203 := n3_; clear n0_ n1_ n2_ n3_; clear hb hbox hg; have hcz15_0 : w14.cell? ⟨gb203, 0, none⟩ = some (.slice A0_0 l0_0.length c0_0) := (blk_cell BK203.out 0).trans rfl; have hfz15_0 := blk_frozen BK203.out 0) | ((with_reducible refine gate_dst (N := 14) rfl ?_); refine Kd.R_make Kd.bool _ 4 rfl (N := 14) rfl 49 _ _ rfl (l0_0.length : Int) rfl rfl Tryz.underlying49 (.bool false) 1 info4 rfl (by decide) (by omega) false (ok := fun _ => True) (okp := fun _ => True) rfl (fun _ hk => hk) trivial (odt ‹_›) (Nat.le_trans (Nat.mul_le_mul_right _ (odt ‹_› : (l0_0.length : Int).toNat ≤ 281474976710656)) (by omega)) (Below.refl _ _) (Nat.le_refl _) ?_; intro v205 w16 ho17 hb hg_ hnew_; clear hg_ hnew_; (first | rw [← Ny204.out] at ho17 | (simp only [Int.reduceToNat] at ho17; rw [← Ny204.out] at ho17)); have n0_ := am (Kd.R_lower ho17 (below_size (HB.out))); have n1_ := am (blk_below (g := gb203) (o := .cells #[.slice A0_0 l0_0.length c0_0] 36 (0, 0)) (BK203.out) hb); have n2_ := am (below_step (HB.out) hb); clear BK203; clear HB; have HO206 := n0_; have BK203 := n1_; have HB := n2_; clear n0_ n1_ n2_; clear hb ho17; have p13 : 0 ≤ (a1 : Int) := odt ‹_›; have q13 : (a1 : Int) < ((y204.length : Int) : Int) := odt ‹_›; obtain ⟨go13, co13, eo13, gb13, gl13, cl13, HG13⟩ := Kd.R_form HO206.out (by omega); (first | cases eo13 | (injection eo13 with ea_ en_ ec_; (first | subst ea_ | (injection ea_ with ea_; subst ea_)); subst ec_; clear en_)); have GB13 := am gb13; have GG13 := am HG13; clear gb13 gl13 HG13; obtain ⟨hx13_0, hf13_0⟩ := Kd.R_celln false HO206.out (a1 : Int) p13 q13; replace p13 := eq_true p13; replace q13 := eq_true q13; obtain ⟨hy18_, hz18_⟩ := Kd.R_celln false HO206.out (a1 : Int) (odt ‹_›) (odt ‹_›); have HP18 := Kd.R_putg HO206.out (a1 : Int) true) | ((with_reducible refine gate_store (t := 4) (p := 21) rfl ?_); (try (rw [drewN_self w16]; generalize hq_ : World.drewN w16 _ = w16; have n0_ := am (Kd.R_at hq_ HO206.out); have n1_ := am (blk_at hq_ BK203.out); have n2_ := am (below_at hq_ HB.out); clear hq_ HO206 BK203 HB; have HO206 := n0_; have BK203 := n1_; have HB := n2_; clear n0_ n1_ n2_; (try (obtain ⟨hy18_, hz18_⟩ := Kd.R_celln false HO206.out (a1 : Int) (odt ‹_›) (odt ‹_›))); (try (have HP18 := Kd.R_putg HO206.out (a1 : Int) true)))); refine store_event (t := 4) (p := 21) (v := ?vo_w19) (w1 := (w16.setCell ⟨go13, (a1 : Int).toNat, none⟩ (.bool true))) ?hg ?ho ?hn ?hr ?_; (case ho => rfl); (case hg => rfl); (case hn => rfl); (case hr => first | (go_simp; done) | (go_simp; rfl)); intro w19 hw; have hg : w16.grownBy w19 (some go13) := (by rw [hw]; exact HP18.2); have hp_ : Kd.R Kd.bool 4 w19 w.heap.size (fun _ => True) (.slice (some ⟨go13, 0, none⟩) y204.length co13) y207 := (by rw [hw, Ny207.out]; exact HP18.1); clear HP18; have n0_ := am (blk_grown (g := gb203) (o := .cells #[.slice A0_0 l0_0.length c0_0] 36 (0, 0)) (BK203.out) hg (Kd.R_ne HO206.out BK203.out (by decide))); have n1_ := am (hp_); have n2_ := am ((by rw [hw]; exact below_set (HB.out) GB13.out : Below w.heap.size w w19)); clear BK203; clear HO206; clear HB; have BK203 := n0_; have HO206 := n1_; have HB := n2_; clear n0_ n1_ n2_; clear hg hw hp_) | ((with_reducible refine gate_dst (N := 23) rfl ?_); refine Kd.R_lit (Kd.int .i64) _ 3 ?hg (N := 23) ?hd (xs := ([a1] : List Int)) (inner := [.int .i64 a1]) (ok := fun _ => True) (okp := fun _ => True) ?hr ?hp (fun _ hk => hk) trivial (Below.refl _ _) (Nat.le_refl _) (by simp) ?_; (case hd => rfl); (case hg => rfl); (case hr => first | (go_simp; done) | (go_simp; rfl)); (case hp => exact (Reps.one (show Kd.M (Kd.int .i64) _ _ _ a1 [.int .i64 a1] from rfl) (Reps.none _ _))); intro v209 w20 ho21 hb hg_ hnew_; clear hg_ hnew_; (first | rw [← Ny208.out] at ho21 | (simp only [Int.reduceToNat] at ho21; rw [← Ny208.out] at ho21)); have n0_ := am (Kd.R_below (HO206.out) hb); have n1_ := am (Kd.R_lower ho21 (below_size (HB.out))); have n2_ := am (blk_below (g := gb203) (o := .cells #[.slice A0_0 l0_0.length c0_0] 36 (0, 0)) (BK203.out) hb); have n3_ := am (below_step (HB.out) hb); clear HO206; clear BK203; clear HB; have HO206 := n0_; have HO210 := n1_; have BK203 := n2_; have HB := n3_; clear n0_ n1_ n2_ n3_; clear hb ho21)))
 go_loopg [8] k (fun kq v8 w' => ∃ (x7_1 : List Bool) (x8_1 : List Int), Aside0 (q_Reach.l0 kq a2 x7_1 x8_1 l0_0 = some r) ∧ Aside0 (kq ≤ k) ∧ Aside0 (Kd.R Kd.bool 4 w' w.heap.size (fun _ => True) (.slice (some ⟨go13, 0, none⟩) y204.length co13) x7_1) ∧ Aside0 (Kd.Q (Kd.int .i64) 3 w' w.heap.size (fun _ => True) v8 x8_1) ∧ Aside0 (w'.heap[gb203]? = some (.cells #[(.slice A0_0 l0_0.length c0_0)] 36 (0, 0))) ∧ Aside0 (Below w.heap.size w w'))
 case atStart => exact ⟨(y207), (y208), H', ⟨Nat.le_refl _⟩, ⟨HO206.out⟩, ⟨Kd.Q_of_R (HO210.out)⟩, ⟨BK203.out⟩, ⟨HB.out⟩⟩
 case round =>
  clear H'
  clear c4b0 c4b1 c5b0 c5b1 c6 c6b0 c6b1 c11b0 c12b0 p13 q13 hcz15_0 hfz15_0 hx13_0
  obtain ⟨x7_1, x8_1, HA, HK1, HO_7, HO_8, BK203, HB⟩ := hrel
  have hl7_1 := (Kd.R_reads' HO_7.out).1
  rw [hl7_1] at HO_7
  (try simp only [hl7_1])
  (try simp only [hl7_1] at BK203)
  (try simp only [hl7_1] at HO_8)
  cases gk with
  | zero => exact absurd HA.out (by simp [q_Reach.l0])
  | succ k1 =>
   have H := HA.out
   clear HA
   simp only [q_Reach.l0] at H
   by_cases c22 : (x8_1.length : Int) > 0
   rotate_left
   ·rw [if_neg c22] at H
    have c22b0 : decide (0 < (x8_1.length : Int)) = false := decide_eq_false c22
    have c22b1 : decide (0 < x8_1.length) = false := decide_eq_false (by omega)
    clear c22
    obtain rfl := Option.some.inj H
    obtain ⟨Ao42, co42, eo42, _⟩ := Kd.Q_slice HO_8.out
    subst eo42
    go_wp2
    repeat (go_quiet (fail); try go_wp2)
    go_ret
    exact ⟨_, rfl, by (with_reducible repeat (first | apply Kd.R_alloc | apply Kd.R_drewN | apply Kd.R_drew)); exact HO_7.out, HB.out⟩
   rw [if_pos c22] at H
   have c22b0 : decide (0 < (x8_1.length : Int)) = true := decide_eq_true c22
   have c22b1 : decide (0 < x8_1.length) = true := decide_eq_true (by omega)
   clear c22
   by_cases c23 : 0 < (x8_1.length : Int)
   rotate_left
   ·rw [if_neg c23] at H
    exact absurd H (by simp)
   rw [if_pos c23] at H
   have c23b0 : decide (0 < (x8_1.length : Int)) = true := decide_eq_true c23
   have c23b1 : decide (0 < x8_1.length) = true := decide_eq_true (by omega)
   clear c23
   by_cases c24 : 0 ≤ (rd x8_1 0)
   rotate_left
   ·rw [if_neg c24] at H
    exact absurd H (by simp)
   rw [if_pos c24] at H
   have c24b0 : decide (0 ≤ (rd x8_1 0)) = true := decide_eq_true c24
   clear c24
   by_cases c25 : (rd x8_1 0) < (l0_0.length : Int)
   rotate_left
   ·rw [if_neg c25] at H
    exact absurd H (by simp)
   rw [if_pos c25] at H
   have c25b0 : decide ((rd x8_1 0) < (l0_0.length : Int)) = true := decide_eq_true c25
   clear c25
   by_cases c26 : 1 ≤ (x8_1.length : Int)
   rotate_left
   ·rw [if_neg c26] at H
    exact absurd H (by simp)
   rw [if_pos c26] at H
   have c26b0 := eq_true c26
   have c26b1 : decide (1 ≤ (x8_1.length : Int)) = true := decide_eq_true c26
   clear c26
   obtain ⟨y213, hy213⟩ : ∃ y_ : List Int, y_ = (x8_1.drop (1 : Int).toNat) := ⟨_, rfl⟩
   replace H : (q_Reach.l1 k1 a2 x7_1 y213 ((rd_T58 l0_0 (rd x8_1 0)).f2) 0 l0_0) = some r := by rw [hy213]; exact H
   have Ny213 := am hy213
   clear hy213
   have H' := am H
   clear H
   obtain ⟨Ao27, co27, eo27, _⟩ := Kd.Q_slice HO_8.out
   subst eo27
   have hcz28_0 : wr.cell? ⟨gb203, 0, none⟩ = some (.slice A0_0 l0_0.length c0_0) := (blk_cell BK203.out 0).trans rfl
   have hfz28_0 := blk_frozen BK203.out 0
   have p211 : 0 ≤ (0 : Int) := (by omega)
   have q211 : 0 < (x8_1.length : Int) := odt ‹_›
   obtain ⟨ad211, e211, hx211_0⟩ := Kd.at_int (Kd.Q_reads' HO_8.out).2.2 0 p211 q211
   cases e211
   have qi211 : (0 < x8_1.length) = True := eq_true (by omega)
   (try rw [show ((0 : Int)).toNat = 0 from rfl] at hx211_0)
   (try rw [Addr.add_zero'] at hx211_0)
   replace p211 := eq_true p211
   replace q211 := eq_true q211
   have p212 : 0 ≤ ((rd x8_1 0) : Int) := odt ‹_›
   have q212 : (rd x8_1 0) < (l0_0.length : Int) := odt ‹_›
   obtain ⟨ad212, A212_2, c212_2, e212, hx212_0, hx212_1, hx212_2, hl212_2, hi212_2⟩ := at_T58 HR0_0.out (rd x8_1 0) p212 q212
   cases e212
   replace hx212_0 := (HB.out.cell (blc w _ hx212_0)).trans hx212_0
   replace hx212_1 := (HB.out.cell (blc w _ hx212_1)).trans hx212_1
   replace hx212_2 := (HB.out.cell (blc w _ hx212_2)).trans hx212_2
   have HR212_2 := am hi212_2
   have HC212_2 := am hl212_2
   clear hi212_2 hl212_2
   replace p212 := eq_true p212
   replace q212 := eq_true q212
   have q29 : (1 : Int) ≤ ((x8_1.length : Int) : Int) := odt ‹_›
   obtain ⟨i029, hi029, _, hsz29, _⟩ := info_parts info3
   have hcut29 := cut_from (P := Tryz.prog) 27 3 .i64 Tryz.underlying27 hi029 1 hsz29 (some ad211) x8_1.length co27 1 (by omega) q29
   have hr29 := Kd.Q_drop (k := (1 : Int).toNat) HO_8.out (by omega)
   obtain ⟨A29, hA29⟩ : ∃ A1, A1 = (if co27 = (1 : Int).toNat then (some ad211) else ((some ad211) : Option Addr).map (·.add ((1 : Int).toNat * 1))) := ⟨_, rfl⟩
   obtain ⟨c29, hc29⟩ : ∃ c1, c1 = co27 - (1 : Int).toNat := ⟨_, rfl⟩
   have hy29 : y213.length = x8_1.length - (1 : Int).toNat := (by rw [Ny213.out, List.length_drop])
   rw [← Ny213.out] at hr29
   rw [← hy29, ← hA29, ← hc29] at hcut29
   replace hr29 : Kd.Q (Kd.int .i64) 3 wr w.heap.size (fun _ => True) (.slice A29 y213.length c29) y213 := (by rw [hA29, hc29, hy29]; exact hr29)
   have HE29 : Aside0 ((Value.slice A29 y213.length c29).ownBlock = (.slice (some ad211) x8_1.length co27 : Value).ownBlock) := ⟨by rw [hA29]; split <;> (cases ((some ad211) : Option Addr) <;> rfl)⟩
   clear hy29 hi029 hsz29 HO_8 hA29 hc29
   have HO215 := am hr29
   clear hr29
   replace q29 := eq_true q29
   go_wp2
   repeat (go_quiet (fail); try go_wp2)
   go_loopg [8, 10] k1 (fun kq v8 v10 w' => ∃ (x7_2 : List Bool) (x8_2 : List Int) (x10_2 : Int), v10 = .int .i64 x10_2 ∧ Aside0 (q_Reach.l1 kq a2 x7_2 x8_2 ((rd_T58 l0_0 (rd x8_1 0)).f2) x10_2 l0_0 = some r) ∧ Aside0 (kq ≤ k1) ∧ Aside0 (Kd.R Kd.bool 4 w' w.heap.size (fun _ => True) (.slice (some ⟨go13, 0, none⟩) x7_1.length co13) x7_2) ∧ Aside0 (Kd.Q (Kd.int .i64) 3 w' w.heap.size (fun _ => True) v8 x8_2) ∧ Aside0 (w'.heap[gb203]? = some (.cells #[(.slice (some ad212) l0_0.length c0_0)] 36 (0, 0))) ∧ Aside0 (Below w.heap.size w w'))
   case atStart => exact ⟨(x7_1), (y213), (0), (rfl), H', ⟨Nat.le_refl _⟩, ⟨by (try simp only [hl7_1]); (with_reducible repeat (first | apply Kd.R_alloc | apply Kd.R_drewN | apply Kd.R_drew)); exact HO_7.out⟩, ⟨by (try simp only [hl7_1]); (with_reducible repeat (first | apply Kd.Q_alloc | apply Kd.Q_drewN | apply Kd.Q_drew)); exact HO215.out⟩, ⟨by (try simp only [hl7_1]); (with_reducible repeat (first | refine blk_drewN ?_ _ | refine blk_drew ?_ | refine blk_alloc ?_ _)); exact BK203.out⟩, ⟨by repeat (first | (with_reducible first | exact HB.out | apply below_alloc | apply pw_below_drewN | apply below_drew1 | refine below_set ?_ GE203.out) | exact HB.out)⟩⟩
   case round =>
    clear H'
    clear c22b0 c22b1 c23b0 c23b1 c24b0 c25b0 c26b0 c26b1 q29 hcz28_0 hfz28_0 hx211_0 hx212_0 hx212_1 hx212_2 p211 p212 q211 q212
    obtain ⟨x7_2, x8_2, x10_2, rfl, HA, HK2, HO_7, HO_8, BK203, HB⟩ := hrel
    have hl7_2 := (Kd.R_reads' HO_7.out).1
    rw [hl7_2] at HO_7
    (try simp only [hl7_2])
    (try simp only [hl7_2] at BK203)
    (try simp only [hl7_2] at HO_8)
    cases gk with
    | zero => exact absurd HA.out (by simp [q_Reach.l1])
    | succ k2 =>
     have H := HA.out
     clear HA
     simp only [q_Reach.l1] at H
     by_cases c30 : x10_2 < (((rd_T58 l0_0 (rd x8_1 0)).f2).length : Int)
     rotate_left
     ·rw [if_neg c30] at H
      have c30b0 : decide (x10_2 < (((rd_T58 l0_0 (rd x8_1 0)).f2).length : Int)) = false := decide_eq_false c30
      clear c30
      have H' := am H
      clear H
      go_wp2
      repeat (go_quiet (fail); try go_wp2)
      (try simp only [← hl7_1, ← hl7_2])
      go_roundg k2
      case measure => have := HK1.out; have := HK2.out; omega
      case rel => exact ⟨(x7_2), (x8_2), H', ⟨by have := HK1.out; have := HK2.out; omega⟩, ⟨by (try simp only [hl7_1]); (try simp only [hl7_2]); (with_reducible repeat (first | apply Kd.R_alloc | apply Kd.R_drewN | apply Kd.R_drew)); exact HO_7.out⟩, ⟨by (try simp only [hl7_1]); (try simp only [hl7_2]); (with_reducible repeat (first | apply Kd.Q_alloc | apply Kd.Q_drewN | apply Kd.Q_drew)); exact HO_8.out⟩, ⟨by (try simp only [hl7_1]); (try simp only [hl7_2]); (with_reducible repeat (first | refine blk_drewN ?_ _ | refine blk_drew ?_ | refine blk_alloc ?_ _)); exact BK203.out⟩, ⟨HB.out⟩⟩
     rw [if_pos c30] at H
     have c30b0 : decide (x10_2 < (((rd_T58 l0_0 (rd x8_1 0)).f2).length : Int)) = true := decide_eq_true c30
     clear c30
     by_cases c31 : 0 ≤ x10_2
     rotate_left
     ·rw [if_neg c31] at H
      exact absurd H (by simp)
     rw [if_pos c31] at H
     have c31b0 : decide (0 ≤ x10_2) = true := decide_eq_true c31
     clear c31
     by_cases c32 : (rd ((rd_T58 l0_0 (rd x8_1 0)).f2) x10_2) = a2
     ·rw [if_pos c32] at H
      have c32b0 : ((rd ((rd_T58 l0_0 (rd x8_1 0)).f2) x10_2) == a2) = true := beq_iff_eq.mpr c32
      have c32b1 : ((rd ((rd_T58 l0_0 (rd x8_1 0)).f2) x10_2) != a2) = false := bne_eq_false_iff_eq.mpr c32
      clear c32
      have H' := am H
      clear H
      have p216 : 0 ≤ (x10_2 : Int) := odt ‹_›
      have q216 : x10_2 < (((rd_T58 l0_0 (rd x8_1 0)).f2).length : Int) := odt ‹_›
      obtain ⟨ad216, e216, hx216_0⟩ := Kd.at_int HR212_2.out x10_2 p216 q216
      cases e216
      replace hx216_0 := (HB.out.cell (blc w _ hx216_0)).trans hx216_0
      replace p216 := eq_true p216
      replace q216 := eq_true q216
      go_wp2
      repeat (go_quiet (fail); try go_wp2)
      (try simp only [← hl7_2])
      go_roundg k2
      case measure => have := HK1.out; have := HK2.out; omega
      case rel => exact ⟨(x7_2), (x8_2), (wrap64 (x10_2 + 1)), (rfl), H', ⟨by have := HK1.out; have := HK2.out; omega⟩, ⟨by (try simp only [hl7_1]); (try simp only [hl7_2]); (with_reducible repeat (first | apply Kd.R_alloc | apply Kd.R_drewN | apply Kd.R_drew)); exact HO_7.out⟩, ⟨by (try simp only [hl7_1]); (try simp only [hl7_2]); (with_reducible repeat (first | apply Kd.Q_alloc | apply Kd.Q_drewN | apply Kd.Q_drew)); exact HO_8.out⟩, ⟨by (try simp only [hl7_1]); (try simp only [hl7_2]); (with_reducible repeat (first | refine blk_drewN ?_ _ | refine blk_drew ?_ | refine blk_alloc ?_ _)); exact BK203.out⟩, ⟨HB.out⟩⟩
     rw [if_neg c32] at H
     have c32b0 : ((rd ((rd_T58 l0_0 (rd x8_1 0)).f2) x10_2) == a2) = false := beq_eq_false_iff_ne.mpr c32
     have c32b1 : ((rd ((rd_T58 l0_0 (rd x8_1 0)).f2) x10_2) != a2) = true := bne_iff_ne.mpr c32
     by_cases c33 : 0 ≤ (rd ((rd_T58 l0_0 (rd x8_1 0)).f2) x10_2)
     rotate_left
     ·rw [if_neg c33] at H
      exact absurd H (by simp)
     rw [if_pos c33] at H
     have c33b0 : decide (0 ≤ (rd ((rd_T58 l0_0 (rd x8_1 0)).f2) x10_2)) = true := decide_eq_true c33
     clear c33
     by_cases c34 : (rd ((rd_T58 l0_0 (rd x8_1 0)).f2) x10_2) < (x7_2.length : Int)
     rotate_left
     ·rw [if_neg c34] at H
      exact absurd H (by simp)
     rw [if_pos c34] at H
     have c34b0 : decide ((rd ((rd_T58 l0_0 (rd x8_1 0)).f2) x10_2) < (x7_2.length : Int)) = true := decide_eq_true c34
     clear c34
     obtain ⟨bq35, hbq35⟩ : ∃ b_ : Bool, b_ = (rdOf false x7_2 (rd ((rd_T58 l0_0 (rd x8_1 0)).f2) x10_2)) := ⟨_, rfl⟩
     replace H : (if (bq35 = true) then (q_Reach.l1 k2 a2 x7_2 x8_2 ((rd_T58 l0_0 (rd x8_1 0)).f2) (wrap64 (x10_2 + 1)) l0_0) else (if x8_2.length < 17592186044416 then (q_Reach.l1 k2 a2 (x7_2.set ((rd ((rd_T58 l0_0 (rd x8_1 0)).f2) x10_2) : Int).toNat true) (x8_2 ++ [rd ((rd_T58 l0_0 (rd x8_1 0)).f2) x10_2]) ((rd_T58 l0_0 (rd x8_1 0)).f2) (wrap64 (x10_2 + 1)) l0_0) else (none))) = some r := by rw [← hbq35] at H; exact H
     have Nbq35 := am hbq35
     clear hbq35
     by_cases c36 : (bq35 = true)
     ·subst c36
      rw [if_pos rfl] at H
      have H' := am H
      clear H
      have p216 : 0 ≤ (x10_2 : Int) := odt ‹_›
      have q216 : x10_2 < (((rd_T58 l0_0 (rd x8_1 0)).f2).length : Int) := odt ‹_›
      obtain ⟨ad216, e216, hx216_0⟩ := Kd.at_int HR212_2.out x10_2 p216 q216
      cases e216
      replace hx216_0 := (HB.out.cell (blc w _ hx216_0)).trans hx216_0
      replace p216 := eq_true p216
      replace q216 := eq_true q216
      have p217 : 0 ≤ (x10_2 : Int) := odt ‹_›
      have q217 : x10_2 < (((rd_T58 l0_0 (rd x8_1 0)).f2).length : Int) := odt ‹_›
      obtain ⟨ad217, e217, hx217_0⟩ := Kd.at_int HR212_2.out x10_2 p217 q217
      obtain rfl : ad216 = ad217 := (by injection e217)
      replace hx217_0 := (HB.out.cell (blc w _ hx217_0)).trans hx217_0
      replace p217 := eq_true p217
      replace q217 := eq_true q217
      have p218 : 0 ≤ ((rd ((rd_T58 l0_0 (rd x8_1 0)).f2) x10_2) : Int) := odt ‹_›
      have q218 : (rd ((rd_T58 l0_0 (rd x8_1 0)).f2) x10_2) < (x7_2.length : Int) := odt ‹_›
      obtain ⟨ad218, e218, hx218_0⟩ := Kd.at_bool (Kd.R_reads' HO_7.out).2.2 (rd ((rd_T58 l0_0 (rd x8_1 0)).f2) x10_2) p218 q218
      (try rw [← Nbq35.out] at hx218_0)
      obtain rfl : (⟨go13, 0, none⟩ : Addr) = ad218 := (by injection e218)
      (first | simp only [add_plain] at hx218_0 | simp only [add_at] at hx218_0 | simp only [Addr.add, Nat.zero_add] at hx218_0 | skip)
      replace p218 := eq_true p218
      replace q218 := eq_true q218
      go_wp2
      repeat (go_quiet (fail); try go_wp2)
      (try simp only [← hl7_2])
      go_roundg k2
      case measure => have := HK1.out; have := HK2.out; omega
      case rel => exact ⟨(x7_2), (x8_2), (wrap64 (x10_2 + 1)), (rfl), H', ⟨by have := HK1.out; have := HK2.out; omega⟩, ⟨by (try simp only [hl7_1]); (try simp only [hl7_2]); (with_reducible repeat (first | apply Kd.R_alloc | apply Kd.R_drewN | apply Kd.R_drew)); exact HO_7.out⟩, ⟨by (try simp only [hl7_1]); (try simp only [hl7_2]); (with_reducible repeat (first | apply Kd.Q_alloc | apply Kd.Q_drewN | apply Kd.Q_drew)); exact HO_8.out⟩, ⟨by (try simp only [hl7_1]); (try simp only [hl7_2]); (with_reducible repeat (first | refine blk_drewN ?_ _ | refine blk_drew ?_ | refine blk_alloc ?_ _)); exact BK203.out⟩, ⟨HB.out⟩⟩
     replace c36 := Bool.eq_false_iff.mpr c36
     subst c36
     rw [if_neg (show ¬ (false = true) by decide)] at H
     obtain ⟨y220, hy220⟩ : ∃ y_ : List Bool, y_ = (x7_2.set ((rd ((rd_T58 l0_0 (rd x8_1 0)).f2) x10_2) : Int).toNat true) := ⟨_, rfl⟩
     replace H : (if x8_2.length < 17592186044416 then (q_Reach.l1 k2 a2 y220 (x8_2 ++ [rd ((rd_T58 l0_0 (rd x8_1 0)).f2) x10_2]) ((rd_T58 l0_0 (rd x8_1 0)).f2) (wrap64 (x10_2 + 1)) l0_0) else (none)) = some r := by rw [hy220]; exact H
     have Ny220 := am hy220
     clear hy220
     by_cases c38 : x8_2.length < 17592186044416
     rotate_left
     ·rw [if_neg c38] at H
      exact absurd H (by simp)
     rw [if_pos c38] at H
     have LMc38 := am c38
     clear c38
     obtain ⟨y222, hy222⟩ : ∃ y_ : List Int, y_ = (x8_2 ++ [rd ((rd_T58 l0_0 (rd x8_1 0)).f2) x10_2]) := ⟨_, rfl⟩
     replace H : (q_Reach.l1 k2 a2 y220 y222 ((rd_T58 l0_0 (rd x8_1 0)).f2) (wrap64 (x10_2 + 1)) l0_0) = some r := by rw [hy222]; exact H
     have Ny222 := am hy222
     clear hy222
     have H' := am H
     clear H
     have p216 : 0 ≤ (x10_2 : Int) := odt ‹_›
     have q216 : x10_2 < (((rd_T58 l0_0 (rd x8_1 0)).f2).length : Int) := odt ‹_›
     obtain ⟨ad216, e216, hx216_0⟩ := Kd.at_int HR212_2.out x10_2 p216 q216
     cases e216
     replace hx216_0 := (HB.out.cell (blc w _ hx216_0)).trans hx216_0
     replace p216 := eq_true p216
     replace q216 := eq_true q216
     have p217 : 0 ≤ (x10_2 : Int) := odt ‹_›
     have q217 : x10_2 < (((rd_T58 l0_0 (rd x8_1 0)).f2).length : Int) := odt ‹_›
     obtain ⟨ad217, e217, hx217_0⟩ := Kd.at_int HR212_2.out x10_2 p217 q217
     obtain rfl : ad216 = ad217 := (by injection e217)
     replace hx217_0 := (HB.out.cell (blc w _ hx217_0)).trans hx217_0
     replace p217 := eq_true p217
     replace q217 := eq_true q217
     have p218 : 0 ≤ ((rd ((rd_T58 l0_0 (rd x8_1 0)).f2) x10_2) : Int) := odt ‹_›
     have q218 : (rd ((rd_T58 l0_0 (rd x8_1 0)).f2) x10_2) < (x7_2.length : Int) := odt ‹_›
     obtain ⟨ad218, e218, hx218_0⟩ := Kd.at_bool (Kd.R_reads' HO_7.out).2.2 (rd ((rd_T58 l0_0 (rd x8_1 0)).f2) x10_2) p218 q218
     (try rw [← Nbq35.out] at hx218_0)
     obtain rfl : (⟨go13, 0, none⟩ : Addr) = ad218 := (by injection e218)
     (first | simp only [add_plain] at hx218_0 | simp only [add_at] at hx218_0 | simp only [Addr.add, Nat.zero_add] at hx218_0 | skip)
     replace p218 := eq_true p218
     replace q218 := eq_true q218
     have p219 : 0 ≤ (x10_2 : Int) := odt ‹_›
     have q219 : x10_2 < (((rd_T58 l0_0 (rd x8_1 0)).f2).length : Int) := odt ‹_›
     obtain ⟨ad219, e219, hx219_0⟩ := Kd.at_int HR212_2.out x10_2 p219 q219
     obtain rfl : ad216 = ad219 := (by injection e219)
     replace hx219_0 := (HB.out.cell (blc w _ hx219_0)).trans hx219_0
     replace p219 := eq_true p219
     replace q219 := eq_true q219
     have p37 : 0 ≤ ((rd ((rd_T58 l0_0 (rd x8_1 0)).f2) x10_2) : Int) := odt ‹_›
     have q37 : ((rd ((rd_T58 l0_0 (rd x8_1 0)).f2) x10_2) : Int) < ((x7_2.length : Int) : Int) := odt ‹_›
     obtain ⟨hx37_0, hf37_0⟩ := Kd.R_celln false HO_7.out ((rd ((rd_T58 l0_0 (rd x8_1 0)).f2) x10_2) : Int) p37 q37
     replace p37 := eq_true p37
     replace q37 := eq_true q37
     have HP39 := Kd.R_putg HO_7.out ((rd ((rd_T58 l0_0 (rd x8_1 0)).f2) x10_2) : Int) true
     go_wp2_with (first | ((with_reducible refine gate_store (t := 4) (p := 64) rfl ?_); (try (rw [drewN_self wr]; generalize hq_ : World.drewN wr _ = wr; have n0_ := am (Kd.R_at hq_ HO_7.out); have n1_ := am (Kd.Q_at hq_ HO_8.out); have n2_ := am (blk_at hq_ BK203.out); have n3_ := am (below_at hq_ HB.out); clear hq_ HO_7 HO_8 BK203 HB; have HO_7 := n0_; have HO_8 := n1_; have BK203 := n2_; have HB := n3_; clear n0_ n1_ n2_ n3_; (try (have HP39 := Kd.R_putg HO_7.out ((rd ((rd_T58 l0_0 (rd x8_1 0)).f2) x10_2) : Int) true)))); refine store_event (t := 4) (p := 64) (v := ?vo_w40) (w1 := (wr.setCell ⟨go13, ((rd ((rd_T58 l0_0 (rd x8_1 0)).f2) x10_2) : Int).toNat, none⟩ (.bool true))) ?hg ?ho ?hn ?hr ?_; (case ho => rfl); (case hg => rfl); (case hn => rfl); (case hr => first | (go_simp; done) | (go_simp; rfl)); intro w40 hw; have hg : wr.grownBy w40 (some go13) := (by rw [hw]; exact HP39.2); have hp_ : Kd.R Kd.bool 4 w40 w.heap.size (fun _ => True) (.slice (some ⟨go13, 0, none⟩) x7_2.length co13) y220 := (by rw [hw, Ny220.out]; exact HP39.1); clear HP39; have n0_ := am (hp_); have n1_ := am (Kd.Q_over' (v := (.slice (some ⟨go13, 0, none⟩) x7_2.length co13)) (by (with_reducible repeat (first | apply Kd.Q_alloc | apply Kd.Q_drewN | apply Kd.Q_drew)); exact HO_8.out) (Kd.R_typed HO_7.out) (by decide) hg); have n2_ := am (blk_grown (g := gb203) (o := .cells #[.slice (some ad212) l0_0.length c0_0] 36 (0, 0)) (BK203.out) hg (Kd.R_ne HO_7.out BK203.out (by decide))); have n3_ := am ((by rw [hw]; exact below_set (HB.out) GB13.out : Below w.heap.size w w40)); clear HO_7; clear HO_8; clear BK203; clear HB; have HO_7 := n0_; have HO_8 := n1_; have BK203 := n2_; have HB := n3_; clear n0_ n1_ n2_ n3_; clear hg hw hp_; have p221 : 0 ≤ (x10_2 : Int) := odt ‹_›; have q221 : x10_2 < (((rd_T58 l0_0 (rd x8_1 0)).f2).length : Int) := odt ‹_›; obtain ⟨ad221, e221, hx221_0⟩ := Kd.at_int HR212_2.out x10_2 p221 q221; obtain rfl : ad216 = ad221 := (by injection e221); replace hx221_0 := (HB.out.cell (blc w _ hx221_0)).trans hx221_0; replace p221 := eq_true p221; replace q221 := eq_true q221) | ((with_reducible refine gate_builtin (b := .append) (xs := #[.tmp 65, .tmp 70]) rfl ?_); at_builtin; refine Kd.Q_append (Kd.int .i64) (w0 := w) w.heap.size rfl (.tmp 65) (.tmp 70) 27 3 (.int .i64 0) 8 rfl Tryz.underlying27 info3 rfl (by decide) (by omega) u8 x8_2 (rd ((rd_T58 l0_0 (rd x8_1 0)).f2) x10_2) [.int .i64 (rd ((rd_T58 l0_0 (rd x8_1 0)).f2) x10_2)] (fun _ => True) (fun _ => False) rfl rfl ?aP (fun _ hk => hk.elim) ?aF ?aO ?aB ?aS ?aL ?_; (case aP => exact rfl); (case aB => exact (HB.out)); (case aF => exact (fun _ _ => trivial)); (case aO => exact (by (with_reducible repeat (first | apply Kd.Q_alloc | apply Kd.Q_drewN | apply Kd.Q_drew)); exact HO_8.out)); (case aS => exact (below_size (HB.out))); (case aL => have := LMc38.out; omega); intro v223 w41 ho hb hg hat; rw [← Ny222.out] at ho; have n0_ := am (Kd.R_over' (HO_7.out) (Kd.Q_typed (by (with_reducible repeat (first | apply Kd.Q_alloc | apply Kd.Q_drewN | apply Kd.Q_drew)); exact HO_8.out)) (by decide) hg); have n1_ := am (blk_grown (g := gb203) (o := .cells #[.slice (some ad212) l0_0.length c0_0] 36 (0, 0)) (BK203.out) hg (Kd.Q_ne HO_8.out BK203.out (by decide))); have n2_ := am (hb); have n3_ := am (ho); clear HO_7; clear BK203; clear HB; clear HO_8; have HO_7 := n0_; have BK203 := n1_; have HB := n2_; have HO224 := n3_; clear n0_ n1_ n2_ n3_; clear ho hb hg hat))
     repeat (go_quiet (first | ((with_reducible refine gate_store (t := 4) (p := 64) rfl ?_); (try (rw [drewN_self wr]; generalize hq_ : World.drewN wr _ = wr; have n0_ := am (Kd.R_at hq_ HO_7.out); have n1_ := am (Kd.Q_at hq_ HO_8.out); have n2_ := am (blk_at hq_ BK203.out); have n3_ := am (below_at hq_ HB.out); clear hq_ HO_7 HO_8 BK203 HB; have HO_7 := n0_; have HO_8 := n1_; have BK203 := n2_; have HB := n3_; clear n0_ n1_ n2_ n3_; (try (have HP39 := Kd.R_putg HO_7.out ((rd ((rd_T58 l0_0 (rd x8_1 0)).f2) x10_2) : Int) true)))); refine store_event (t := 4) (p := 64) (v := ?vo_w40) (w1 := (wr.setCell ⟨go13, ((rd ((rd_T58 l0_0 (rd x8_1 0)).f2) x10_2) : Int).toNat, none⟩ (.bool true))) ?hg ?ho ?hn ?hr ?_; (case ho => rfl); (case hg => rfl); (case hn => rfl); (case hr => first | (go_simp; done) | (go_simp; rfl)); intro w40 hw; have hg : wr.grownBy w40 (some go13) := (by rw [hw]; exact HP39.2); have hp_ : Kd.R Kd.bool 4 w40 w.heap.size (fun _ => True) (.slice (some ⟨go13, 0, none⟩) x7_2.length co13) y220 := (by rw [hw, Ny220.out]; exact HP39.1); clear HP39; have n0_ := am (hp_); have n1_ := am (Kd.Q_over' (v := (.slice (some ⟨go13, 0, none⟩) x7_2.length co13)) (by (with_reducible repeat (first | apply Kd.Q_alloc | apply Kd.Q_drewN | apply Kd.Q_drew)); exact HO_8.out) (Kd.R_typed HO_7.out) (by decide) hg); have n2_ := am (blk_grown (g := gb203) (o := .cells #[.slice (some ad212) l0_0.length c0_0] 36 (0, 0)) (BK203.out) hg (Kd.R_ne HO_7.out BK203.out (by decide))); have n3_ := am ((by rw [hw]; exact below_set (HB.out) GB13.out : Below w.heap.size w w40)); clear HO_7; clear HO_8; clear BK203; clear HB; have HO_7 := n0_; have HO_8 := n1_; have BK203 := n2_; have HB := n3_; clear n0_ n1_ n2_ n3_; clear hg hw hp_; have p221 : 0 ≤ (x10_2 : Int) := odt ‹_›; have q221 : x10_2 < (((rd_T58 l0_0 (rd x8_1 0)).f2).length : Int) := odt ‹_›; obtain ⟨ad221, e221, hx221_0⟩ := Kd.at_int HR212_2.out x10_2 p221 q221; obtain rfl : ad216 = ad221 := (by injection e221); replace hx221_0 := (HB.out.cell (blc w _ hx221_0)).trans hx221_0; replace p221 := eq_true p221; replace q221 := eq_true q221) | ((with_reducible refine gate_builtin (b := .append) (xs := #[.tmp 65, .tmp 70]) rfl ?_); at_builtin; refine Kd.Q_append (Kd.int .i64) (w0 := w) w.heap.size rfl (.tmp 65) (.tmp 70) 27 3 (.int .i64 0) 8 rfl Tryz.underlying27 info3 rfl (by decide) (by omega) u8 x8_2 (rd ((rd_T58 l0_0 (rd x8_1 0)).f2) x10_2) [.int .i64 (rd ((rd_T58 l0_0 (rd x8_1 0)).f2) x10_2)] (fun _ => True) (fun _ => False) rfl rfl ?aP (fun _ hk => hk.elim) ?aF ?aO ?aB ?aS ?aL ?_; (case aP => exact rfl); (case aB => exact (HB.out)); (case aF => exact (fun _ _ => trivial)); (case aO => exact (by (with_reducible repeat (first | apply Kd.Q_alloc | apply Kd.Q_drewN | apply Kd.Q_drew)); exact HO_8.out)); (case aS => exact (below_size (HB.out))); (case aL => have := LMc38.out; omega); intro v223 w41 ho hb hg hat; rw [← Ny222.out] at ho; have n0_ := am (Kd.R_over' (HO_7.out) (Kd.Q_typed (by (with_reducible repeat (first | apply Kd.Q_alloc | apply Kd.Q_drewN | apply Kd.Q_drew)); exact HO_8.out)) (by decide) hg); have n1_ := am (blk_grown (g := gb203) (o := .cells #[.slice (some ad212) l0_0.length c0_0] 36 (0, 0)) (BK203.out) hg (Kd.Q_ne HO_8.out BK203.out (by decide))); have n2_ := am (hb); have n3_ := am (ho); clear HO_7; clear BK203; clear HB; clear HO_8; have HO_7 := n0_; have BK203 := n1_; have HB := n2_; have HO224 := n3_; clear n0_ n1_ n2_ n3_; clear ho hb hg hat)); try go_wp2_with (first | ((with_reducible refine gate_store (t := 4) (p := 64) rfl ?_); (try (rw [drewN_self wr]; generalize hq_ : World.drewN wr _ = wr; have n0_ := am (Kd.R_at hq_ HO_7.out); have n1_ := am (Kd.Q_at hq_ HO_8.out); have n2_ := am (blk_at hq_ BK203.out); have n3_ := am (below_at hq_ HB.out); clear hq_ HO_7 HO_8 BK203 HB; have HO_7 := n0_; have HO_8 := n1_; have BK203 := n2_; have HB := n3_; clear n0_ n1_ n2_ n3_; (try (have HP39 := Kd.R_putg HO_7.out ((rd ((rd_T58 l0_0 (rd x8_1 0)).f2) x10_2) : Int) true)))); refine store_event (t := 4) (p := 64) (v := ?vo_w40) (w1 := (wr.setCell ⟨go13, ((rd ((rd_T58 l0_0 (rd x8_1 0)).f2) x10_2) : Int).toNat, none⟩ (.bool true))) ?hg ?ho ?hn ?hr ?_; (case ho => rfl); (case hg => rfl); (case hn => rfl); (case hr => first | (go_simp; done) | (go_simp; rfl)); intro w40 hw; have hg : wr.grownBy w40 (some go13) := (by rw [hw]; exact HP39.2); have hp_ : Kd.R Kd.bool 4 w40 w.heap.size (fun _ => True) (.slice (some ⟨go13, 0, none⟩) x7_2.length co13) y220 := (by rw [hw, Ny220.out]; exact HP39.1); clear HP39; have n0_ := am (hp_); have n1_ := am (Kd.Q_over' (v := (.slice (some ⟨go13, 0, none⟩) x7_2.length co13)) (by (with_reducible repeat (first | apply Kd.Q_alloc | apply Kd.Q_drewN | apply Kd.Q_drew)); exact HO_8.out) (Kd.R_typed HO_7.out) (by decide) hg); have n2_ := am (blk_grown (g := gb203) (o := .cells #[.slice (some ad212) l0_0.length c0_0] 36 (0, 0)) (BK203.out) hg (Kd.R_ne HO_7.out BK203.out (by decide))); have n3_ := am ((by rw [hw]; exact below_set (HB.out) GB13.out : Below w.heap.size w w40)); clear HO_7; clear HO_8; clear BK203; clear HB; have HO_7 := n0_; have HO_8 := n1_; have BK203 := n2_; have HB := n3_; clear n0_ n1_ n2_ n3_; clear hg hw hp_; have p221 : 0 ≤ (x10_2 : Int) := odt ‹_›; have q221 : x10_2 < (((rd_T58 l0_0 (rd x8_1 0)).f2).length : Int) := odt ‹_›; obtain ⟨ad221, e221, hx221_0⟩ := Kd.at_int HR212_2.out x10_2 p221 q221; obtain rfl : ad216 = ad221 := (by injection e221); replace hx221_0 := (HB.out.cell (blc w _ hx221_0)).trans hx221_0; replace p221 := eq_true p221; replace q221 := eq_true q221) | ((with_reducible refine gate_builtin (b := .append) (xs := #[.tmp 65, .tmp 70]) rfl ?_); at_builtin; refine Kd.Q_append (Kd.int .i64) (w0 := w) w.heap.size rfl (.tmp 65) (.tmp 70) 27 3 (.int .i64 0) 8 rfl Tryz.underlying27 info3 rfl (by decide) (by omega) u8 x8_2 (rd ((rd_T58 l0_0 (rd x8_1 0)).f2) x10_2) [.int .i64 (rd ((rd_T58 l0_0 (rd x8_1 0)).f2) x10_2)] (fun _ => True) (fun _ => False) rfl rfl ?aP (fun _ hk => hk.elim) ?aF ?aO ?aB ?aS ?aL ?_; (case aP => exact rfl); (case aB => exact (HB.out)); (case aF => exact (fun _ _ => trivial)); (case aO => exact (by (with_reducible repeat (first | apply Kd.Q_alloc | apply Kd.Q_drewN | apply Kd.Q_drew)); exact HO_8.out)); (case aS => exact (below_size (HB.out))); (case aL => have := LMc38.out; omega); intro v223 w41 ho hb hg hat; rw [← Ny222.out] at ho; have n0_ := am (Kd.R_over' (HO_7.out) (Kd.Q_typed (by (with_reducible repeat (first | apply Kd.Q_alloc | apply Kd.Q_drewN | apply Kd.Q_drew)); exact HO_8.out)) (by decide) hg); have n1_ := am (blk_grown (g := gb203) (o := .cells #[.slice (some ad212) l0_0.length c0_0] 36 (0, 0)) (BK203.out) hg (Kd.Q_ne HO_8.out BK203.out (by decide))); have n2_ := am (hb); have n3_ := am (ho); clear HO_7; clear BK203; clear HB; clear HO_8; have HO_7 := n0_; have BK203 := n1_; have HB := n2_; have HO224 := n3_; clear n0_ n1_ n2_ n3_; clear ho hb hg hat)))
     (try simp only [← hl7_2])
     go_roundg k2
     case measure => have := HK1.out; have := HK2.out; omega
     case rel => exact ⟨(y220), (y222), (wrap64 (x10_2 + 1)), (rfl), H', ⟨by have := HK1.out; have := HK2.out; omega⟩, ⟨by (try simp only [hl7_1]); (try simp only [hl7_2]); (with_reducible repeat (first | apply Kd.R_alloc | apply Kd.R_drewN | apply Kd.R_drew)); exact HO_7.out⟩, ⟨by (try simp only [hl7_1]); (try simp only [hl7_2]); (with_reducible repeat (first | apply Kd.Q_alloc | apply Kd.Q_drewN | apply Kd.Q_drew)); exact HO224.out⟩, ⟨by (try simp only [hl7_1]); (try simp only [hl7_2]); (with_reducible repeat (first | refine blk_drewN ?_ _ | refine blk_drew ?_ | refine blk_alloc ?_ _)); exact BK203.out⟩, ⟨HB.out⟩⟩
def q_Reachable.f (k : Nat) (l0_0 : List (S58)) : Option (List Bool) := (q_Valid.f k l0_0).bind fun t226 => (if t226 = true then ((q_Reach.f k l0_0 0 (-1)).bind fun t227 => (some t227)) else (some (([] : List Bool))))
set_option maxHeartbeats 8000000 in
set_option maxRecDepth 100000 in
theorem q_Reachable.calls (k : Nat) (A0_0 : Option Addr) (c0_0 : Nat) (l0_0 : List (S58)) (r : List Bool) (w : World) (hr0_0 : Kd.C k58 w A0_0 l0_0.length l0_0) (hc0_0 : l0_0.length ≤ c0_0) (h : q_Reachable.f k l0_0 = some r) :
 Calls Tryz.prog 21 #[.agg #[.slice A0_0 l0_0.length c0_0]] w fun e w' => ∃ v0_ : Value, e = .returned (v0_) ∧ Kd.R Kd.bool 4 w' w.heap.size (fun _ => True) v0_ r ∧ Below w.heap.size w w' := by
 have hu36 := Tryz.underlying36
 have HR0_0 := am hr0_0
 have HC0_0 := am hc0_0
 clear hr0_0 hc0_0
 have HB := am (Below.refl w.heap.size w)
 have H : ((q_Valid.f k l0_0).bind fun t226 => (if t226 = true then ((q_Reach.f k l0_0 0 (-1)).bind fun t227 => (some t227)) else (some (([] : List Bool))))) = some r := h
 clear h
 replace H := Option.bind_eq_some_iff.mp H
 obtain ⟨t226, A20, H⟩ := H
 try dsimp only at H
 have A2 := am A20
 clear A20
 by_cases c3 : t226 = true
 rotate_left
 ·replace c3 := Bool.eq_false_iff.mpr c3
  subst c3
  rw [if_neg (show ¬ (false = true) by decide)] at H
  obtain ⟨y230, hy230⟩ : ∃ y_ : List Bool, y_ = (([] : List Bool)) := ⟨_, rfl⟩
  replace H : (some y230) = some r := by rw [hy230]; exact H
  have Ny230 := am hy230
  clear hy230
  obtain rfl := Option.some.inj H
  go_enter Tryz.func21, Tryz.ntmps21
  go_wp2_with (first | ((with_reducible refine gate_dst (N := 1) rfl ?_); refine box_event ?hg (N := 1) ?hd (cs := #[.slice A0_0 l0_0.length c0_0]) (t := 36) ?hr ?_; (case hd => rfl); (case hg => rfl); (case hr => first | (go_simp; done) | (go_simp; rfl)); intro gb225 hg w10 hbox hb; have n0_ := am (below_step (HB.out) hb); have n1_ := am (hbox); have n2_ := am ((by rw [hg]; exact (below_size (HB.out)) : w.heap.size ≤ gb225)); have n3_ := am ((by rw [hg]; exact (below_size (HB.out)) : w.heap.size ≤ gb225)); clear HB; have HB := n0_; have BK225 := n1_; have GW225 := n2_; have GE225 := n3_; clear n0_ n1_ n2_ n3_; clear hb hbox hg; have hcz11_0 : w10.cell? ⟨gb225, 0, none⟩ = some (.slice A0_0 l0_0.length c0_0) := (blk_cell BK225.out 0).trans rfl; have hfz11_0 := blk_frozen BK225.out 0) | ((with_reducible refine gate_callee (f := 24) rfl ?_); refine goesL_ (some 4) rfl rfl Tryz.func24 (by kernel_rfl) rfl #[.agg #[.slice A0_0 l0_0.length c0_0]] rfl (by (try simp only [List.map_toArray, List.map_cons, List.map_nil]); first | done | rfl | (simp only [List.length_drop, List.length_take]; rfl)) ?_; (with_reducible refine (q_Valid.calls k _ _ l0_0 false _ ?side1 ?side2 A2.out).mono ?_); (case side1 => repeat (first | exact (Kd.C_below HR0_0.out HB.out) | (with_reducible refine Kd.C_alloc ?_ _) | (with_reducible refine Kd.C_drewN ?_ _) | (with_reducible refine Kd.C_drew ?_))); (case side2 => exact HC0_0.out); rintro e w12 ⟨rfl, hb⟩; refine ⟨_, rfl, ?_⟩; have n0_ := am (blk_below (g := gb225) (o := .cells #[.slice A0_0 l0_0.length c0_0] 36 (0, 0)) (BK225.out) hb); have n1_ := am (below_step (HB.out) hb); clear BK225; clear HB; have BK225 := n0_; have HB := n1_; clear n0_ n1_; (try clear hb); (try clear hb2); (try clear hk); (try clear hi)) | ((with_reducible refine gate_dst (N := 6) rfl ?_); refine Kd.R_lit Kd.bool _ 4 ?hg (N := 6) ?hd (xs := ([] : List Bool)) (inner := []) (ok := fun _ => True) (okp := fun _ => True) ?hr ?hp (fun _ hk => hk) trivial (Below.refl _ _) (Nat.le_refl _) (by simp) ?_; (case hd => rfl); (case hg => rfl); (case hr => first | (go_simp; done) | (go_simp; rfl)); (case hp => exact (Reps.none _ _)); intro v231 w13 ho14 hb hg_ hnew_; clear hg_ hnew_; (first | rw [← Ny230.out] at ho14 | (simp only [Int.reduceToNat] at ho14; rw [← Ny230.out] at ho14)); have n0_ := am (Kd.R_lower ho14 (below_size (HB.out))); have n1_ := am (blk_below (g := gb225) (o := .cells #[.slice A0_0 l0_0.length c0_0] 36 (0, 0)) (BK225.out) hb); have n2_ := am (below_step (HB.out) hb); clear BK225; clear HB; have HO232 := n0_; have BK225 := n1_; have HB := n2_; clear n0_ n1_ n2_; clear hb ho14))
  go_ret
  exact ⟨_, rfl, by (with_reducible repeat (first | apply Kd.R_alloc | apply Kd.R_drewN | apply Kd.R_drew)); exact HO232.out, HB.out⟩
 subst c3
 rw [if_pos rfl] at H
 replace H := Option.bind_eq_some_iff.mp H
 obtain ⟨t227, A40, H⟩ := H
 try dsimp only at H
 have A4 := am A40
 clear A40
 obtain rfl := Option.some.inj H
 go_enter Tryz.func21, Tryz.ntmps21
 go_wp2_with (first | ((with_reducible refine gate_dst (N := 1) rfl ?_); refine box_event ?hg (N := 1) ?hd (cs := #[.slice A0_0 l0_0.length c0_0]) (t := 36) ?hr ?_; (case hd => rfl); (case hg => rfl); (case hr => first | (go_simp; done) | (go_simp; rfl)); intro gb225 hg w5 hbox hb; have n0_ := am (below_step (HB.out) hb); have n1_ := am (hbox); have n2_ := am ((by rw [hg]; exact (below_size (HB.out)) : w.heap.size ≤ gb225)); have n3_ := am ((by rw [hg]; exact (below_size (HB.out)) : w.heap.size ≤ gb225)); clear HB; have HB := n0_; have BK225 := n1_; have GW225 := n2_; have GE225 := n3_; clear n0_ n1_ n2_ n3_; clear hb hbox hg; have hcz6_0 : w5.cell? ⟨gb225, 0, none⟩ = some (.slice A0_0 l0_0.length c0_0) := (blk_cell BK225.out 0).trans rfl; have hfz6_0 := blk_frozen BK225.out 0) | ((with_reducible refine gate_callee (f := 24) rfl ?_); refine goesL_ (some 4) rfl rfl Tryz.func24 (by kernel_rfl) rfl #[.agg #[.slice A0_0 l0_0.length c0_0]] rfl (by (try simp only [List.map_toArray, List.map_cons, List.map_nil]); first | done | rfl | (simp only [List.length_drop, List.length_take]; rfl)) ?_; (with_reducible refine (q_Valid.calls k _ _ l0_0 true _ ?side1 ?side2 A2.out).mono ?_); (case side1 => repeat (first | exact (Kd.C_below HR0_0.out HB.out) | (with_reducible refine Kd.C_alloc ?_ _) | (with_reducible refine Kd.C_drewN ?_ _) | (with_reducible refine Kd.C_drew ?_))); (case side2 => exact HC0_0.out); rintro e w7 ⟨rfl, hb⟩; refine ⟨_, rfl, ?_⟩; have n0_ := am (blk_below (g := gb225) (o := .cells #[.slice A0_0 l0_0.length c0_0] 36 (0, 0)) (BK225.out) hb); have n1_ := am (below_step (HB.out) hb); clear BK225; clear HB; have BK225 := n0_; have HB := n1_; clear n0_ n1_; (try clear hb); (try clear hb2); (try clear hk); (try clear hi); have hcz8_0 : w7.cell? ⟨gb225, 0, none⟩ = some (.slice A0_0 l0_0.length c0_0) := (blk_cell BK225.out 0).trans rfl; have hfz8_0 := blk_frozen BK225.out 0) | ((with_reducible refine gate_callee (f := 25) rfl ?_); refine goesL_ (some 8) rfl rfl Tryz.func25 (by kernel_rfl) rfl #[.agg #[.slice A0_0 l0_0.length c0_0], .int .i64 0, .int .i64 (-1)] rfl (by (try simp only [List.map_toArray, List.map_cons, List.map_nil]); first | done | rfl | (simp only [List.length_drop, List.length_take]; rfl)) ?_; (with_reducible refine (q_Reach.calls k _ _ l0_0 0 (-1) t227 _ ?side1 ?side2 A4.out).mono ?_); (case side1 => repeat (first | exact (Kd.C_below HR0_0.out HB.out) | (with_reducible refine Kd.C_alloc ?_ _) | (with_reducible refine Kd.C_drewN ?_ _) | (with_reducible refine Kd.C_drew ?_))); (case side2 => exact HC0_0.out); rintro e w9 ⟨v228, rfl, ho0, hb⟩; refine ⟨_, rfl, ?_⟩; have n0_ := am (Kd.R_lower ho0 (below_size (HB.out))); have n1_ := am (blk_below (g := gb225) (o := .cells #[.slice A0_0 l0_0.length c0_0] 36 (0, 0)) (BK225.out) hb); have n2_ := am (below_step (HB.out) hb); clear BK225; clear HB; have HO229 := n0_; have BK225 := n1_; have HB := n2_; clear n0_ n1_ n2_; (try clear hb); (try clear hb2); (try clear hk); (try clear hi); (try clear ho0)))
 go_ret
 exact ⟨_, rfl, by (with_reducible repeat (first | apply Kd.R_alloc | apply Kd.R_drewN | apply Kd.R_drew)); exact HO229.out, HB.out⟩
def flow_begins.f (a0 : Int) (l1 : List Int) (l2 : List Bool) : Option (Bool) := if a0 < 2 then (some true) else (if 0 ≤ a0 then (if a0 < (l1.length : Int) then (if (rd l1 a0) = 1 then (if a0 < (l2.length : Int) then (some (rdOf false l2 a0)) else (none)) else (some true)) else (none)) else (none))
set_option maxHeartbeats 8000000 in
set_option maxRecDepth 100000 in
theorem flow_begins.calls (g4 g5 : Nat) (a0 : Int) (A1 : Option Addr) (c1 : Nat) (l1 : List Int) (A2 : Option Addr) (c2 : Nat) (l2 : List Bool) (r : Bool) (w : World) (hg4 : w.heap[g4]? = some (.cells #[.slice A1 l1.length c1] 27 (0, 0))) (hg5 : w.heap[g5]? = some (.cells #[.slice A2 l2.length c2] 49 (0, 0))) (hr1 : Kd.C (Kd.int .i64) w A1 l1.length l1) (hc1 : l1.length ≤ c1) (hr2 : Kd.C Kd.bool w A2 l2.length l2) (hc2 : l2.length ≤ c2) (h : flow_begins.f a0 l1 l2 = some r) :
 Calls Tryz.prog 43 #[.int .i64 a0, .pointer (some ⟨g4, 0, none⟩), .pointer (some ⟨g5, 0, none⟩)] w fun e w' => e = .returned (.bool r) ∧ Drawn0 w w' := by
 have HR1 := am hr1
 have HC1 := am hc1
 clear hr1 hc1
 have HR2 := am hr2
 have HC2 := am hc2
 clear hr2 hc2
 have H : (if a0 < 2 then (some true) else (if 0 ≤ a0 then (if a0 < (l1.length : Int) then (if (rd l1 a0) = 1 then (if a0 < (l2.length : Int) then (some (rdOf false l2 a0)) else (none)) else (some true)) else (none)) else (none))) = some r := h
 clear h
 by_cases c4 : a0 < 2
 ·rw [if_pos c4] at H
  have c4b0 : decide (a0 < 2) = true := decide_eq_true c4
  clear c4
  obtain rfl := Option.some.inj H
  have hcz4 : w.cell? ⟨g4, 0, none⟩ = some _ := (blk_cell hg4 0).trans rfl
  have hcz5 : w.cell? ⟨g5, 0, none⟩ = some _ := (blk_cell hg5 0).trans rfl
  go_enter Tryz.func43, Tryz.ntmps43
  go_wp2
  go_ret
  exact ⟨rfl, by repeat (first | exact Drawn0.refl _ | apply Drawn0.step)⟩
 rw [if_neg c4] at H
 have c4b0 : decide (a0 < 2) = false := decide_eq_false c4
 clear c4
 by_cases c5 : 0 ≤ a0
 rotate_left
 ·rw [if_neg c5] at H
  exact absurd H (by simp)
 rw [if_pos c5] at H
 have c5b0 : decide (0 ≤ a0) = true := decide_eq_true c5
 clear c5
 by_cases c6 : a0 < (l1.length : Int)
 rotate_left
 ·rw [if_neg c6] at H
  exact absurd H (by simp)
 rw [if_pos c6] at H
 have c6b0 : decide (a0 < (l1.length : Int)) = true := decide_eq_true c6
 clear c6
 by_cases c7 : (rd l1 a0) = 1
 rotate_left
 ·rw [if_neg c7] at H
  have c7b0 : ((rd l1 a0) == 1) = false := beq_eq_false_iff_ne.mpr c7
  have c7b1 : ((rd l1 a0) != 1) = true := bne_iff_ne.mpr c7
  obtain rfl := Option.some.inj H
  have p233 : 0 ≤ (a0 : Int) := odt ‹_›
  have q233 : a0 < (l1.length : Int) := odt ‹_›
  obtain ⟨ad233, e233, hx233_0⟩ := Kd.at_int HR1.out a0 p233 q233
  cases e233
  replace p233 := eq_true p233
  replace q233 := eq_true q233
  have hcz4 : w.cell? ⟨g4, 0, none⟩ = some _ := (blk_cell hg4 0).trans rfl
  have hcz5 : w.cell? ⟨g5, 0, none⟩ = some _ := (blk_cell hg5 0).trans rfl
  go_enter Tryz.func43, Tryz.ntmps43
  go_wp2
  go_ret
  exact ⟨rfl, by repeat (first | exact Drawn0.refl _ | apply Drawn0.step)⟩
 rw [if_pos c7] at H
 have c7b0 : ((rd l1 a0) == 1) = true := beq_iff_eq.mpr c7
 have c7b1 : ((rd l1 a0) != 1) = false := bne_eq_false_iff_eq.mpr c7
 clear c7
 by_cases c8 : a0 < (l2.length : Int)
 rotate_left
 ·rw [if_neg c8] at H
  exact absurd H (by simp)
 rw [if_pos c8] at H
 have c8b0 : decide (a0 < (l2.length : Int)) = true := decide_eq_true c8
 clear c8
 obtain rfl := Option.some.inj H
 have p233 : 0 ≤ (a0 : Int) := odt ‹_›
 have q233 : a0 < (l1.length : Int) := odt ‹_›
 obtain ⟨ad233, e233, hx233_0⟩ := Kd.at_int HR1.out a0 p233 q233
 cases e233
 replace p233 := eq_true p233
 replace q233 := eq_true q233
 have p234 : 0 ≤ (a0 : Int) := odt ‹_›
 have q234 : a0 < (l2.length : Int) := odt ‹_›
 obtain ⟨ad234, e234, hx234_0⟩ := Kd.at_bool HR2.out a0 p234 q234
 cases e234
 replace p234 := eq_true p234
 replace q234 := eq_true q234
 have hcz4 : w.cell? ⟨g4, 0, none⟩ = some _ := (blk_cell hg4 0).trans rfl
 have hcz5 : w.cell? ⟨g5, 0, none⟩ = some _ := (blk_cell hg5 0).trans rfl
 go_enter Tryz.func43, Tryz.ntmps43
 go_wp2
 go_ret
 exact ⟨rfl, by repeat (first | exact Drawn0.refl _ | apply Drawn0.step)⟩
end Go.Proofs.YtfcjeoihfphphaaGreatDoor.PFlow
end

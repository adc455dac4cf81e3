/- A part of the proof, written by programs of this seat and by hand: P2. -/
import Derived.Test.YtfcjeoihfphphaaGreatDoorPtP0
set_option linter.unusedVariables false
set_option linter.unusedSimpArgs false
section
namespace Go.Proofs.YtfcjeoihfphphaaGreatDoor.PFlow
open Go.RowKit Go.Proofs.YtfcjeoihfphphaaGreatDoorW.PrintWords Go.Proofs.YtfcjeoihfphphaaGreatDoorW.PrintLast Go.Proofs.YtfcjeoihfphphaaGreatDoorW.PrintMore
attribute [local go_sem] max2_int min2_int max_two min_two max_three min_three max_four min_four   -- for this text's walks alone
set_option linter.unusedVariables false
set_option linter.unusedSimpArgs false
mutual
def q_Valid.j0 : Nat → Int → Bool → List (S58) → Option (Bool)
 | 0, _, _, _ => none
 | k + 1, x3, x23, x119000 => if x23 = true then (some false) else (q_Valid.l0 k x3 0 x119000)
def q_Valid.l0 : Nat → Int → Int → List (S58) → Option (Bool)
 | 0, _, _, _ => none
 | k + 1, x3, x4, x119000 => if x4 < x3 then (q_Valid.l1 k x3 x4 0 x119000) else (some true)
def q_Valid.l1 : Nat → Int → Int → Int → List (S58) → Option (Bool)
 | 0, _, _, _, _ => none
 | k + 1, x3, x4, x5, x119000 => if 0 ≤ x4 then (if x4 < (x119000.length : Int) then (if x5 < (((rd_T58 x119000 x4).f2).length : Int) then (if 0 ≤ x5 then (if (rd ((rd_T58 x119000 x4).f2) x5) < 1 then (some false) else (if (rd ((rd_T58 x119000 x4).f2) x5) ≥ x3 then (some false) else (q_Valid.l1 k x3 x4 (wrap64 (x5 + 1)) x119000))) else (none)) else (q_Valid.l0 k x3 (wrap64 (x4 + 1)) x119000)) else (none)) else (none)
end
def q_Valid.f (k : Nat) (l0_0 : List (S58)) : Option (Bool) := if (l0_0.length : Int) < 2 then (q_Valid.j0 k (l0_0.length : Int) true l0_0) else (if (l0_0.length : Int) > 1024 then (q_Valid.j0 k (l0_0.length : Int) true l0_0) else (if 1 < (l0_0.length : Int) then (q_Valid.j0 k (l0_0.length : Int) (decide ((((rd_T58 l0_0 1).f2).length : Int) > 0)) l0_0) else (none)))
set_option maxHeartbeats 8000000 in
set_option maxRecDepth 100000 in
theorem q_Valid.calls (k : Nat) (A0_0 : Option Addr) (c0_0 : Nat) (l0_0 : List (S58)) (r : Bool) (w : World) (hr0_0 : Kd.C k58 w A0_0 l0_0.length l0_0) (hc0_0 : l0_0.length ≤ c0_0) (h : q_Valid.f k l0_0 = some r) :
 Calls Tryz.prog 24 #[.agg #[.slice A0_0 l0_0.length c0_0]] w fun e w' => e = .returned (.bool r) ∧ Below w.heap.size w w' := by
 have hu36 := Tryz.underlying36
 have HR0_0 := am hr0_0
 have HC0_0 := am hc0_0
 clear hr0_0 hc0_0
 have HB := am (Below.refl w.heap.size w)
 have H : (if (l0_0.length : Int) < 2 then (q_Valid.j0 k (l0_0.length : Int) true l0_0) else (if (l0_0.length : Int) > 1024 then (q_Valid.j0 k (l0_0.length : Int) true l0_0) else (if 1 < (l0_0.length : Int) then (q_Valid.j0 k (l0_0.length : Int) (decide ((((rd_T58 l0_0 1).f2).length : Int) > 0)) l0_0) else (none)))) = some r := h
 clear h
 have HC2 := am H
 clear H
 go_enter Tryz.func24, Tryz.ntmps24
 go_upto_region 2 with (first | ((with_reducible refine gate_dst (N := 1) rfl ?_); (try (refine gate_guard (by rfl) ?_; dsimp only)); refine box_event ?hg (N := 1) ?hd (cs := #[.slice A0_0 l0_0.length c0_0]) (t := 36) ?hr ?_; (case hd => rfl); (case hg => rfl); (case hr => first | (go_simp; done) | (go_simp; rfl)); intro gb118 hg w3 hbox hb; have n0_ := am (below_step (HB.out) hb); have n1_ := am (hbox); have n2_ := am ((by rw [hg]; exact (below_size (HB.out)) : w.heap.size ≤ gb118)); have n3_ := am ((by rw [hg]; exact (below_size (HB.out)) : w.heap.size ≤ gb118)); clear HB; have HB := n0_; have BK118 := n1_; have GW118 := n2_; have GE118 := n3_; clear n0_ n1_ n2_ n3_; clear hb hbox hg; have hcz4_0 : w3.cell? ⟨gb118, 0, none⟩ = some (.slice A0_0 l0_0.length c0_0) := (blk_cell BK118.out 0).trans rfl; have hfz4_0 := blk_frozen BK118.out 0))
 (try simp only [Act.put, List.setIfInBounds_toArray, List.set_cons_zero, List.set_cons_succ])
 go_cut [23] (fun v23 wc => ∃ (kq : Nat) (x23_1 : Bool), v23 = .bool x23_1 ∧ Aside0 (q_Valid.j0 kq (l0_0.length : Int) x23_1 l0_0 = some r) ∧ Aside0 (kq ≤ k) ∧ Aside0 (wc.heap[gb118]? = some (.cells #[(.slice A0_0 l0_0.length c0_0)] 36 (0, 0))) ∧ Aside0 (Below w.heap.size w wc))
 case first =>
  have H := HC2.out
  clear HC2
  by_cases c5 : (l0_0.length : Int) < 2
  ·rw [if_pos c5] at H
   have c5b0 : decide ((l0_0.length : Int) < 2) = true := decide_eq_true c5
   have c5b1 : decide (l0_0.length < 2) = true := decide_eq_true (by omega)
   clear c5
   (first | rw [c5b0] | (simp only [i64_w, i32_w]; rw [c5b0]) | skip)
   have H' := am H
   clear H
   go_wp2
   go_meet
   case rel => exact ⟨_, (true), (rfl), H', ⟨by first | omega | exact Nat.le_refl _⟩, ⟨BK118.out⟩, ⟨HB.out⟩⟩
  rw [if_neg c5] at H
  have c5b0 : decide ((l0_0.length : Int) < 2) = false := decide_eq_false c5
  have c5b1 : decide (l0_0.length < 2) = false := decide_eq_false (by omega)
  clear c5
  (first | rw [c5b0] | (simp only [i64_w, i32_w]; rw [c5b0]) | skip)
  by_cases c6 : (l0_0.length : Int) > 1024
  ·rw [if_pos c6] at H
   have c6b0 : decide (1024 < (l0_0.length : Int)) = true := decide_eq_true c6
   have c6b1 : decide (1024 < l0_0.length) = true := decide_eq_true (by omega)
   clear c6
   have H' := am H
   clear H
   go_wp2
   go_meet
   case rel => exact ⟨_, (true), (rfl), H', ⟨by first | omega | exact Nat.le_refl _⟩, ⟨BK118.out⟩, ⟨HB.out⟩⟩
  rw [if_neg c6] at H
  have c6b0 : decide (1024 < (l0_0.length : Int)) = false := decide_eq_false c6
  have c6b1 : decide (1024 < l0_0.length) = false := decide_eq_false (by omega)
  clear c6
  by_cases c7 : 1 < (l0_0.length : Int)
  rotate_left
  ·rw [if_neg c7] at H
   exact absurd H (by simp)
  rw [if_pos c7] at H
  have c7b0 : decide (1 < (l0_0.length : Int)) = true := decide_eq_true c7
  have c7b1 : decide (1 < l0_0.length) = true := decide_eq_true (by omega)
  clear c7
  have H' := am H
  clear H
  have hcz8_0 : w3.cell? ⟨gb118, 0, none⟩ = some (.slice A0_0 l0_0.length c0_0) := (blk_cell BK118.out 0).trans rfl
  have hfz8_0 := blk_frozen BK118.out 0
  have p119 : 0 ≤ (1 : Int) := (by omega)
  have q119 : 1 < (l0_0.length : Int) := odt ‹_›
  obtain ⟨ad119, A119_2, c119_2, e119, hx119_0, hx119_1, hx119_2, hl119_2, hi119_2⟩ := at_T58 HR0_0.out 1 p119 q119
  cases e119
  (try simp only [show (1 : Int).toNat = 1 from rfl, Nat.reduceMul, Nat.reduceEqDiff, Go.Addr.add, ↓reduceIte] at hx119_0)
  (try simp only [show (1 : Int).toNat = 1 from rfl, Nat.reduceMul, Nat.reduceEqDiff, Go.Addr.add, ↓reduceIte] at hx119_1)
  (try simp only [show (1 : Int).toNat = 1 from rfl, Nat.reduceMul, Nat.reduceEqDiff, Go.Addr.add, ↓reduceIte] at hx119_2)
  have qi119 : (1 < l0_0.length) = True := eq_true (by omega)
  (try rw [show ((1 : Int)).toNat = 1 from rfl] at hx119_0)
  (try rw [show 1 * 3 = 3 from rfl] at hx119_0)
  (try rw [show ((1 : Int)).toNat = 1 from rfl] at hx119_1)
  (try rw [show 1 * 3 = 3 from rfl] at hx119_1)
  (try rw [show ((1 : Int)).toNat = 1 from rfl] at hx119_2)
  (try rw [show 1 * 3 = 3 from rfl] at hx119_2)
  replace hx119_0 := (HB.out.cell (blc w _ hx119_0)).trans hx119_0
  replace hx119_1 := (HB.out.cell (blc w _ hx119_1)).trans hx119_1
  replace hx119_2 := (HB.out.cell (blc w _ hx119_2)).trans hx119_2
  have HR119_2 := am hi119_2
  have HC119_2 := am hl119_2
  clear hi119_2 hl119_2
  replace p119 := eq_true p119
  replace q119 := eq_true q119
  go_wp2
  go_meet
  case rel => exact ⟨_, (decide ((((rd_T58 l0_0 1).f2).length : Int) > 0)), (by first | rfl | (simp; done) | (simp [*]; done)), H', ⟨by first | omega | exact Nat.le_refl _⟩, ⟨BK118.out⟩, ⟨HB.out⟩⟩
 case rest =>
  clear HC2 hcz4_0 hfz4_0
  obtain ⟨kq, x23_1, rfl, HA, HJ1, BK118, HB⟩ := hcut
  cases kq with
  | zero => exact absurd HA.out (by simp [q_Valid.j0])
  | succ kj1 =>
   have H := HA.out
   clear HA
   simp only [q_Valid.j0] at H
   by_cases c9 : x23_1 = true
   ·subst c9
    rw [if_pos rfl] at H
    obtain rfl := Option.some.inj H
    go_wp2
    go_ret
    exact ⟨rfl, HB.out⟩
   replace c9 := Bool.eq_false_iff.mpr c9
   subst c9
   rw [if_neg (show ¬ (false = true) by decide)] at H
   have H' := am H
   clear H
   go_wp2
   go_loopg [4] kj1 (fun kq v4 w' => ∃ (x4_2 : Int), v4 = .int .i64 x4_2 ∧ Aside0 (q_Valid.l0 kq (l0_0.length : Int) x4_2 l0_0 = some r) ∧ Aside0 (kq ≤ kj1) ∧ Aside0 (w'.heap[gb118]? = some (.cells #[(.slice A0_0 l0_0.length c0_0)] 36 (0, 0))) ∧ Aside0 (Below w.heap.size w w'))
   case atStart => exact ⟨(0), (rfl), H', ⟨Nat.le_refl _⟩, ⟨BK118.out⟩, ⟨HB.out⟩⟩
   case round =>
    clear H'
    obtain ⟨x4_2, rfl, HA, HK2, BK118, HB⟩ := hrel
    cases gk with
    | zero => exact absurd HA.out (by simp [q_Valid.l0])
    | succ k2 =>
     have H := HA.out
     clear HA
     simp only [q_Valid.l0] at H
     by_cases c10 : x4_2 < (l0_0.length : Int)
     rotate_left
     ·rw [if_neg c10] at H
      have c10b0 : decide (x4_2 < (l0_0.length : Int)) = false := decide_eq_false c10
      clear c10
      obtain rfl := Option.some.inj H
      go_wp2
      go_ret
      exact ⟨rfl, HB.out⟩
     rw [if_pos c10] at H
     have c10b0 : decide (x4_2 < (l0_0.length : Int)) = true := decide_eq_true c10
     clear c10
     have H' := am H
     clear H
     go_wp2
     go_loopg [5] k2 (fun kq v5 w' => ∃ (x5_3 : Int), v5 = .int .i64 x5_3 ∧ Aside0 (q_Valid.l1 kq (l0_0.length : Int) x4_2 x5_3 l0_0 = some r) ∧ Aside0 (kq ≤ k2) ∧ Aside0 (w'.heap[gb118]? = some (.cells #[(.slice A0_0 l0_0.length c0_0)] 36 (0, 0))) ∧ Aside0 (Below w.heap.size w w'))
     case atStart => exact ⟨(0), (rfl), H', ⟨Nat.le_refl _⟩, ⟨BK118.out⟩, ⟨HB.out⟩⟩
     case round =>
      clear H'
      clear c10b0
      obtain ⟨x5_3, rfl, HA, HK3, BK118, HB⟩ := hrel
      cases gk with
      | zero => exact absurd HA.out (by simp [q_Valid.l1])
      | succ k3 =>
       have H := HA.out
       clear HA
       simp only [q_Valid.l1] at H
       by_cases c11 : 0 ≤ x4_2
       rotate_left
       ·rw [if_neg c11] at H
        exact absurd H (by simp)
       rw [if_pos c11] at H
       have c11b0 : decide (0 ≤ x4_2) = true := decide_eq_true c11
       clear c11
       by_cases c12 : x4_2 < (l0_0.length : Int)
       rotate_left
       ·rw [if_neg c12] at H
        exact absurd H (by simp)
       rw [if_pos c12] at H
       have c12b0 : decide (x4_2 < (l0_0.length : Int)) = true := decide_eq_true c12
       clear c12
       by_cases c13 : x5_3 < (((rd_T58 l0_0 x4_2).f2).length : Int)
       rotate_left
       ·rw [if_neg c13] at H
        have c13b0 : decide (x5_3 < (((rd_T58 l0_0 x4_2).f2).length : Int)) = false := decide_eq_false c13
        clear c13
        have H' := am H
        clear H
        have hcz20_0 : wr.cell? ⟨gb118, 0, none⟩ = some (.slice A0_0 l0_0.length c0_0) := (blk_cell BK118.out 0).trans rfl
        have hfz20_0 := blk_frozen BK118.out 0
        have p120 : 0 ≤ (x4_2 : Int) := odt ‹_›
        have q120 : x4_2 < (l0_0.length : Int) := odt ‹_›
        obtain ⟨ad120, A120_2, c120_2, e120, hx120_0, hx120_1, hx120_2, hl120_2, hi120_2⟩ := at_T58 HR0_0.out x4_2 p120 q120
        cases e120
        replace hx120_0 := (HB.out.cell (blc w _ hx120_0)).trans hx120_0
        replace hx120_1 := (HB.out.cell (blc w _ hx120_1)).trans hx120_1
        replace hx120_2 := (HB.out.cell (blc w _ hx120_2)).trans hx120_2
        have HR120_2 := am hi120_2
        have HC120_2 := am hl120_2
        clear hi120_2 hl120_2
        replace p120 := eq_true p120
        replace q120 := eq_true q120
        go_wp2
        go_roundg k3
        case measure => have := HJ1.out; have := HK2.out; have := HK3.out; omega
        case rel => exact ⟨(wrap64 (x4_2 + 1)), (rfl), H', ⟨by have := HJ1.out; have := HK2.out; have := HK3.out; omega⟩, ⟨BK118.out⟩, ⟨HB.out⟩⟩
       rw [if_pos c13] at H
       have c13b0 : decide (x5_3 < (((rd_T58 l0_0 x4_2).f2).length : Int)) = true := decide_eq_true c13
       clear c13
       by_cases c14 : 0 ≤ x5_3
       rotate_left
       ·rw [if_neg c14] at H
        exact absurd H (by simp)
       rw [if_pos c14] at H
       have c14b0 : decide (0 ≤ x5_3) = true := decide_eq_true c14
       clear c14
       by_cases c15 : (rd ((rd_T58 l0_0 x4_2).f2) x5_3) < 1
       ·rw [if_pos c15] at H
        have c15b0 : decide ((rd ((rd_T58 l0_0 x4_2).f2) x5_3) < 1) = true := decide_eq_true c15
        clear c15
        obtain rfl := Option.some.inj H
        have hcz16_0 : wr.cell? ⟨gb118, 0, none⟩ = some (.slice A0_0 l0_0.length c0_0) := (blk_cell BK118.out 0).trans rfl
        have hfz16_0 := blk_frozen BK118.out 0
        have p120 : 0 ≤ (x4_2 : Int) := odt ‹_›
        have q120 : x4_2 < (l0_0.length : Int) := odt ‹_›
        obtain ⟨ad120, A120_2, c120_2, e120, hx120_0, hx120_1, hx120_2, hl120_2, hi120_2⟩ := at_T58 HR0_0.out x4_2 p120 q120
        cases e120
        replace hx120_0 := (HB.out.cell (blc w _ hx120_0)).trans hx120_0
        replace hx120_1 := (HB.out.cell (blc w _ hx120_1)).trans hx120_1
        replace hx120_2 := (HB.out.cell (blc w _ hx120_2)).trans hx120_2
        have HR120_2 := am hi120_2
        have HC120_2 := am hl120_2
        clear hi120_2 hl120_2
        replace p120 := eq_true p120
        replace q120 := eq_true q120
        have p121 : 0 ≤ (x4_2 : Int) := odt ‹_›
        have q121 : x4_2 < (l0_0.length : Int) := odt ‹_›
        obtain ⟨ad121, A121_2, c121_2, e121, hx121_0, hx121_1, hx121_2, hl121_2, hi121_2⟩ := at_T58 HR0_0.out x4_2 p121 q121
        obtain rfl : ad120 = ad121 := (by injection e121)
        replace hx121_0 := (HB.out.cell (blc w _ hx121_0)).trans hx121_0
        replace hx121_1 := (HB.out.cell (blc w _ hx121_1)).trans hx121_1
        replace hx121_2 := (HB.out.cell (blc w _ hx121_2)).trans hx121_2
        have HR121_2 := am hi121_2
        have HC121_2 := am hl121_2
        clear hi121_2 hl121_2
        replace p121 := eq_true p121
        replace q121 := eq_true q121
        have ea_ := Option.some.inj (hx120_2.symm.trans hx121_2)
        injection ea_ with ea_ en_ ec_
        subst ea_
        subst ec_
        clear en_
        have p122 : 0 ≤ (x5_3 : Int) := odt ‹_›
        have q122 : x5_3 < (((rd_T58 l0_0 x4_2).f2).length : Int) := odt ‹_›
        obtain ⟨ad122, e122, hx122_0⟩ := Kd.at_int HR121_2.out x5_3 p122 q122
        cases e122
        replace hx122_0 := (HB.out.cell (blc w _ hx122_0)).trans hx122_0
        replace p122 := eq_true p122
        replace q122 := eq_true q122
        go_wp2
        go_ret
        exact ⟨rfl, HB.out⟩
       rw [if_neg c15] at H
       have c15b0 : decide ((rd ((rd_T58 l0_0 x4_2).f2) x5_3) < 1) = false := decide_eq_false c15
       clear c15
       by_cases c17 : (rd ((rd_T58 l0_0 x4_2).f2) x5_3) ≥ (l0_0.length : Int)
       ·rw [if_pos c17] at H
        have c17b0 : decide ((l0_0.length : Int) ≤ (rd ((rd_T58 l0_0 x4_2).f2) x5_3)) = true := decide_eq_true c17
        clear c17
        obtain rfl := Option.some.inj H
        have hcz18_0 : wr.cell? ⟨gb118, 0, none⟩ = some (.slice A0_0 l0_0.length c0_0) := (blk_cell BK118.out 0).trans rfl
        have hfz18_0 := blk_frozen BK118.out 0
        have p120 : 0 ≤ (x4_2 : Int) := odt ‹_›
        have q120 : x4_2 < (l0_0.length : Int) := odt ‹_›
        obtain ⟨ad120, A120_2, c120_2, e120, hx120_0, hx120_1, hx120_2, hl120_2, hi120_2⟩ := at_T58 HR0_0.out x4_2 p120 q120
        cases e120
        replace hx120_0 := (HB.out.cell (blc w _ hx120_0)).trans hx120_0
        replace hx120_1 := (HB.out.cell (blc w _ hx120_1)).trans hx120_1
        replace hx120_2 := (HB.out.cell (blc w _ hx120_2)).trans hx120_2
        have HR120_2 := am hi120_2
        have HC120_2 := am hl120_2
        clear hi120_2 hl120_2
        replace p120 := eq_true p120
        replace q120 := eq_true q120
        have p121 : 0 ≤ (x4_2 : Int) := odt ‹_›
        have q121 : x4_2 < (l0_0.length : Int) := odt ‹_›
        obtain ⟨ad121, A121_2, c121_2, e121, hx121_0, hx121_1, hx121_2, hl121_2, hi121_2⟩ := at_T58 HR0_0.out x4_2 p121 q121
        obtain rfl : ad120 = ad121 := (by injection e121)
        replace hx121_0 := (HB.out.cell (blc w _ hx121_0)).trans hx121_0
        replace hx121_1 := (HB.out.cell (blc w _ hx121_1)).trans hx121_1
        replace hx121_2 := (HB.out.cell (blc w _ hx121_2)).trans hx121_2
        have HR121_2 := am hi121_2
        have HC121_2 := am hl121_2
        clear hi121_2 hl121_2
        replace p121 := eq_true p121
        replace q121 := eq_true q121
        have ea_ := Option.some.inj (hx120_2.symm.trans hx121_2)
        injection ea_ with ea_ en_ ec_
        subst ea_
        subst ec_
        clear en_
        have p122 : 0 ≤ (x5_3 : Int) := odt ‹_›
        have q122 : x5_3 < (((rd_T58 l0_0 x4_2).f2).length : Int) := odt ‹_›
        obtain ⟨ad122, e122, hx122_0⟩ := Kd.at_int HR121_2.out x5_3 p122 q122
        cases e122
        replace hx122_0 := (HB.out.cell (blc w _ hx122_0)).trans hx122_0
        replace p122 := eq_true p122
        replace q122 := eq_true q122
        have p123 : 0 ≤ (x4_2 : Int) := odt ‹_›
        have q123 : x4_2 < (l0_0.length : Int) := odt ‹_›
        obtain ⟨ad123, A123_2, c123_2, e123, hx123_0, hx123_1, hx123_2, hl123_2, hi123_2⟩ := at_T58 HR0_0.out x4_2 p123 q123
        obtain rfl : ad120 = ad123 := (by injection e123)
        replace hx123_0 := (HB.out.cell (blc w _ hx123_0)).trans hx123_0
        replace hx123_1 := (HB.out.cell (blc w _ hx123_1)).trans hx123_1
        replace hx123_2 := (HB.out.cell (blc w _ hx123_2)).trans hx123_2
        have HR123_2 := am hi123_2
        have HC123_2 := am hl123_2
        clear hi123_2 hl123_2
        replace p123 := eq_true p123
        replace q123 := eq_true q123
        have ea_ := Option.some.inj (hx120_2.symm.trans hx123_2)
        injection ea_ with ea_ en_ ec_
        subst ea_
        subst ec_
        clear en_
        have p124 : 0 ≤ (x5_3 : Int) := odt ‹_›
        have q124 : x5_3 < (((rd_T58 l0_0 x4_2).f2).length : Int) := odt ‹_›
        obtain ⟨ad124, e124, hx124_0⟩ := Kd.at_int HR123_2.out x5_3 p124 q124
        cases e124
        replace hx124_0 := (HB.out.cell (blc w _ hx124_0)).trans hx124_0
        replace p124 := eq_true p124
        replace q124 := eq_true q124
        go_wp2
        go_ret
        exact ⟨rfl, HB.out⟩
       rw [if_neg c17] at H
       have c17b0 : decide ((l0_0.length : Int) ≤ (rd ((rd_T58 l0_0 x4_2).f2) x5_3)) = false := decide_eq_false c17
       clear c17
       have H' := am H
       clear H
       have hcz19_0 : wr.cell? ⟨gb118, 0, none⟩ = some (.slice A0_0 l0_0.length c0_0) := (blk_cell BK118.out 0).trans rfl
       have hfz19_0 := blk_frozen BK118.out 0
       have p120 : 0 ≤ (x4_2 : Int) := odt ‹_›
       have q120 : x4_2 < (l0_0.length : Int) := odt ‹_›
       obtain ⟨ad120, A120_2, c120_2, e120, hx120_0, hx120_1, hx120_2, hl120_2, hi120_2⟩ := at_T58 HR0_0.out x4_2 p120 q120
       cases e120
       replace hx120_0 := (HB.out.cell (blc w _ hx120_0)).trans hx120_0
       replace hx120_1 := (HB.out.cell (blc w _ hx120_1)).trans hx120_1
       replace hx120_2 := (HB.out.cell (blc w _ hx120_2)).trans hx120_2
       have HR120_2 := am hi120_2
       have HC120_2 := am hl120_2
       clear hi120_2 hl120_2
       replace p120 := eq_true p120
       replace q120 := eq_true q120
       have p121 : 0 ≤ (x4_2 : Int) := odt ‹_›
       have q121 : x4_2 < (l0_0.length : Int) := odt ‹_›
       obtain ⟨ad121, A121_2, c121_2, e121, hx121_0, hx121_1, hx121_2, hl121_2, hi121_2⟩ := at_T58 HR0_0.out x4_2 p121 q121
       obtain rfl : ad120 = ad121 := (by injection e121)
       replace hx121_0 := (HB.out.cell (blc w _ hx121_0)).trans hx121_0
       replace hx121_1 := (HB.out.cell (blc w _ hx121_1)).trans hx121_1
       replace hx121_2 := (HB.out.cell (blc w _ hx121_2)).trans hx121_2
       have HR121_2 := am hi121_2
       have HC121_2 := am hl121_2
       clear hi121_2 hl121_2
       replace p121 := eq_true p121
       replace q121 := eq_true q121
       have ea_ := Option.some.inj (hx120_2.symm.trans hx121_2)
       injection ea_ with ea_ en_ ec_
       subst ea_
       subst ec_
       clear en_
       have p122 : 0 ≤ (x5_3 : Int) := odt ‹_›
       have q122 : x5_3 < (((rd_T58 l0_0 x4_2).f2).length : Int) := odt ‹_›
       obtain ⟨ad122, e122, hx122_0⟩ := Kd.at_int HR121_2.out x5_3 p122 q122
       cases e122
       replace hx122_0 := (HB.out.cell (blc w _ hx122_0)).trans hx122_0
       replace p122 := eq_true p122
       replace q122 := eq_true q122
       have p123 : 0 ≤ (x4_2 : Int) := odt ‹_›
       have q123 : x4_2 < (l0_0.length : Int) := odt ‹_›
       obtain ⟨ad123, A123_2, c123_2, e123, hx123_0, hx123_1, hx123_2, hl123_2, hi123_2⟩ := at_T58 HR0_0.out x4_2 p123 q123
       obtain rfl : ad120 = ad123 := (by injection e123)
       replace hx123_0 := (HB.out.cell (blc w _ hx123_0)).trans hx123_0
       replace hx123_1 := (HB.out.cell (blc w _ hx123_1)).trans hx123_1
       replace hx123_2 := (HB.out.cell (blc w _ hx123_2)).trans hx123_2
       have HR123_2 := am hi123_2
       have HC123_2 := am hl123_2
       clear hi123_2 hl123_2
       replace p123 := eq_true p123
       replace q123 := eq_true q123
       have ea_ := Option.some.inj (hx120_2.symm.trans hx123_2)
       injection ea_ with ea_ en_ ec_
       subst ea_
       subst ec_
       clear en_
       have p124 : 0 ≤ (x5_3 : Int) := odt ‹_›
       have q124 : x5_3 < (((rd_T58 l0_0 x4_2).f2).length : Int) := odt ‹_›
       obtain ⟨ad124, e124, hx124_0⟩ := Kd.at_int HR123_2.out x5_3 p124 q124
       cases e124
       replace hx124_0 := (HB.out.cell (blc w _ hx124_0)).trans hx124_0
       replace p124 := eq_true p124
       replace q124 := eq_true q124
       go_wp2
       go_roundg k3
       case measure => have := HJ1.out; have := HK2.out; have := HK3.out; omega
       case rel => exact ⟨(wrap64 (x5_3 + 1)), (rfl), H', ⟨by have := HJ1.out; have := HK2.out; have := HK3.out; omega⟩, ⟨BK118.out⟩, ⟨HB.out⟩⟩
mutual
def q_Points.l0 : Nat → Int → List Int → Int → List (S58) → Option (List Int)
 | 0, _, _, _, _ => none
 | k + 1, x1, x5, x6, x126000 => if x6 < (x126000.length : Int) then ((q_Valid.f k x126000).bind fun t129 => (if t129 = true then (q_Points.j1 k x1 x5 x6 (decide (x1 ≥ 0)) x126000) else (q_Points.j1 k x1 x5 x6 false x126000))) else (q_Points.j1 k x1 x5 x6 false x126000)
def q_Points.j1 : Nat → Int → List Int → Int → Bool → List (S58) → Option (List Int)
 | 0, _, _, _, _, _ => none
 | k + 1, x1, x5, x6, x20, x126000 => if x20 = true then (if 0 ≤ x6 then (if x6 < (x126000.length : Int) then (if ((rd_T58 x126000 x6).f1) = x1 then (if x5.length < 17592186044416 then (q_Points.l0 k x1 (x5 ++ [x6]) (wrap64 (x6 + 1)) x126000) else (none)) else (q_Points.l0 k x1 x5 (wrap64 (x6 + 1)) x126000)) else (none)) else (none)) else (some x5)
end
def q_Points.f (k : Nat) (l0_0 : List (S58)) (a1 : Int) : Option (List Int) := q_Points.l0 k a1 (([] : List Int)) 0 l0_0
set_option maxHeartbeats 8000000 in
set_option maxRecDepth 100000 in
theorem q_Points.calls (k : Nat) (A0_0 : Option Addr) (c0_0 : Nat) (l0_0 : List (S58)) (a1 : Int) (r : List Int) (w : World) (hr0_0 : Kd.C k58 w A0_0 l0_0.length l0_0) (hc0_0 : l0_0.length ≤ c0_0) (h : q_Points.f k l0_0 a1 = some r) :
 Calls Tryz.prog 15 #[.agg #[.slice A0_0 l0_0.length c0_0], .int .i64 a1] w fun e w' => ∃ v0_ : Value, e = .returned (v0_) ∧ Kd.R (Kd.int .i64) 3 w' w.heap.size (fun _ => True) v0_ r ∧ Below w.heap.size w w' := by
 have hu36 := Tryz.underlying36
 have HR0_0 := am hr0_0
 have HC0_0 := am hc0_0
 clear hr0_0 hc0_0
 have HB := am (Below.refl w.heap.size w)
 have H : (q_Points.l0 k a1 (([] : List Int)) 0 l0_0) = some r := h
 clear h
 obtain ⟨y126, hy126⟩ : ∃ y_ : List Int, y_ = (([] : List Int)) := ⟨_, rfl⟩
 replace H : (q_Points.l0 k a1 y126 0 l0_0) = some r := by rw [hy126]; exact H
 have Ny126 := am hy126
 clear hy126
 have H' := am H
 clear H
 go_enter Tryz.func15, Tryz.ntmps15
 go_wp2_with (first | ((with_reducible refine gate_dst (N := 2) rfl ?_); refine box_event ?hg (N := 2) ?hd (cs := #[.slice A0_0 l0_0.length c0_0]) (t := 36) ?hr ?_; (case hd => rfl); (case hg => rfl); (case hr => first | (go_simp; done) | (go_simp; rfl)); intro gb125 hg w3 hbox hb; have n0_ := am (below_step (HB.out) hb); have n1_ := am (hbox); have n2_ := am ((by rw [hg]; exact (below_size (HB.out)) : w.heap.size ≤ gb125)); have n3_ := am ((by rw [hg]; exact (below_size (HB.out)) : w.heap.size ≤ gb125)); clear HB; have HB := n0_; have BK125 := n1_; have GW125 := n2_; have GE125 := n3_; clear n0_ n1_ n2_ n3_; clear hb hbox hg) | ((with_reducible refine gate_dst (N := 7) rfl ?_); refine Kd.R_lit (Kd.int .i64) _ 3 ?hg (N := 7) ?hd (xs := ([] : List Int)) (inner := []) (ok := fun _ => True) (okp := fun _ => True) ?hr ?hp (fun _ hk => hk) trivial (Below.refl _ _) (Nat.le_refl _) (by simp) ?_; (case hd => rfl); (case hg => rfl); (case hr => first | (go_simp; done) | (go_simp; rfl)); (case hp => exact (Reps.none _ _)); intro v127 w4 ho5 hb hg_ hnew_; clear hg_ hnew_; (first | rw [← Ny126.out] at ho5 | (simp only [Int.reduceToNat] at ho5; rw [← Ny126.out] at ho5)); have n0_ := am (Kd.R_lower ho5 (below_size (HB.out))); have n1_ := am (blk_below (g := gb125) (o := .cells #[.slice A0_0 l0_0.length c0_0] 36 (0, 0)) (BK125.out) hb); have n2_ := am (below_step (HB.out) hb); clear BK125; clear HB; have HO128 := n0_; have BK125 := n1_; have HB := n2_; clear n0_ n1_ n2_; clear hb ho5))
 go_loopg [5, 6] k (fun kq v5 v6 w' => ∃ (x5_1 : List Int) (x6_1 : Int), v6 = .int .i64 x6_1 ∧ Aside0 (q_Points.l0 kq a1 x5_1 x6_1 l0_0 = some r) ∧ Aside0 (kq ≤ k) ∧ Aside0 (Kd.R (Kd.int .i64) 3 w' w.heap.size (fun _ => True) v5 x5_1) ∧ Aside0 (w'.heap[gb125]? = some (.cells #[(.slice A0_0 l0_0.length c0_0)] 36 (0, 0))) ∧ Aside0 (Below w.heap.size w w'))
 case atStart => exact ⟨(y126), (0), (rfl), H', ⟨Nat.le_refl _⟩, ⟨HO128.out⟩, ⟨BK125.out⟩, ⟨HB.out⟩⟩
 case round =>
  clear H'
  obtain ⟨x5_1, x6_1, rfl, HA, HK1, HO_5, BK125, HB⟩ := hrel
  cases gk with
  | zero => exact absurd HA.out (by simp [q_Points.l0])
  | succ k1 =>
   have H := HA.out
   clear HA
   simp only [q_Points.l0] at H
   have HC6 := am H
   clear H
   go_upto_region 3 with (fail)
   go_cut [20] (fun v20 wc => ∃ (kq : Nat) (x20_5 : Bool), v20 = .bool x20_5 ∧ Aside0 (q_Points.j1 kq a1 x5_1 x6_1 x20_5 l0_0 = some r) ∧ Aside0 (kq ≤ k1) ∧ Aside0 (Kd.R (Kd.int .i64) 3 wc w.heap.size (fun _ => True) u5 x5_1) ∧ Aside0 (wc.heap[gb125]? = some (.cells #[(.slice A0_0 l0_0.length c0_0)] 36 (0, 0))) ∧ Aside0 (Below w.heap.size w wc))
   case first =>
    have H := HC6.out
    clear HC6
    by_cases c7 : x6_1 < (l0_0.length : Int)
    rotate_left
    ·rw [if_neg c7] at H
     have c7b0 : decide (x6_1 < (l0_0.length : Int)) = false := decide_eq_false c7
     clear c7
     (first | rw [c7b0] | (simp only [i64_w, i32_w]; rw [c7b0]) | skip)
     have H' := am H
     clear H
     have hcz14_0 : wr.cell? ⟨gb125, 0, none⟩ = some (.slice A0_0 l0_0.length c0_0) := (blk_cell BK125.out 0).trans rfl
     have hfz14_0 := blk_frozen BK125.out 0
     go_wp2
     go_meet
     case rel => exact ⟨_, (false), (rfl), H', ⟨by have := HK1.out; first | omega | exact Nat.le_refl _⟩, ⟨HO_5.out⟩, ⟨BK125.out⟩, ⟨HB.out⟩⟩
    rw [if_pos c7] at H
    have c7b0 : decide (x6_1 < (l0_0.length : Int)) = true := decide_eq_true c7
    clear c7
    (first | rw [c7b0] | (simp only [i64_w, i32_w]; rw [c7b0]) | skip)
    replace H := Option.bind_eq_some_iff.mp H
    obtain ⟨t129, A80, H⟩ := H
    try dsimp only at H
    have A8 := am A80
    clear A80
    by_cases c9 : t129 = true
    ·subst c9
     rw [if_pos rfl] at H
     have H' := am H
     clear H
     have hcz10_0 : wr.cell? ⟨gb125, 0, none⟩ = some (.slice A0_0 l0_0.length c0_0) := (blk_cell BK125.out 0).trans rfl
     have hfz10_0 := blk_frozen BK125.out 0
     go_wp2_with (first | (go_at_call 24; (with_reducible refine (q_Valid.calls k1 _ _ l0_0 true _ ?side1 ?side2 A8.out).mono ?_); (case side1 => repeat (first | exact (Kd.C_below HR0_0.out HB.out) | (with_reducible refine Kd.C_alloc ?_ _) | (with_reducible refine Kd.C_drewN ?_ _) | (with_reducible refine Kd.C_drew ?_))); (case side2 => exact HC0_0.out); rintro e w11 ⟨rfl, hb⟩; have n0_ := am (Kd.R_below (HO_5.out) hb); have n1_ := am (blk_below (g := gb125) (o := .cells #[.slice A0_0 l0_0.length c0_0] 36 (0, 0)) (BK125.out) hb); have n2_ := am (below_step (HB.out) hb); clear HO_5; clear BK125; clear HB; have HO_5 := n0_; have BK125 := n1_; have HB := n2_; clear n0_ n1_ n2_; (try clear hb); (try clear hb2); (try clear hk); (try clear hi)))
     go_meet
     case rel => exact ⟨_, (decide (a1 ≥ 0)), (rfl), H', ⟨by have := HK1.out; first | omega | exact Nat.le_refl _⟩, ⟨HO_5.out⟩, ⟨BK125.out⟩, ⟨HB.out⟩⟩
    replace c9 := Bool.eq_false_iff.mpr c9
    subst c9
    rw [if_neg (show ¬ (false = true) by decide)] at H
    have H' := am H
    clear H
    have hcz12_0 : wr.cell? ⟨gb125, 0, none⟩ = some (.slice A0_0 l0_0.length c0_0) := (blk_cell BK125.out 0).trans rfl
    have hfz12_0 := blk_frozen BK125.out 0
    go_wp2_with (first | (go_at_call 24; (with_reducible refine (q_Valid.calls k1 _ _ l0_0 false _ ?side1 ?side2 A8.out).mono ?_); (case side1 => repeat (first | exact (Kd.C_below HR0_0.out HB.out) | (with_reducible refine Kd.C_alloc ?_ _) | (with_reducible refine Kd.C_drewN ?_ _) | (with_reducible refine Kd.C_drew ?_))); (case side2 => exact HC0_0.out); rintro e w13 ⟨rfl, hb⟩; have n0_ := am (Kd.R_below (HO_5.out) hb); have n1_ := am (blk_below (g := gb125) (o := .cells #[.slice A0_0 l0_0.length c0_0] 36 (0, 0)) (BK125.out) hb); have n2_ := am (below_step (HB.out) hb); clear HO_5; clear BK125; clear HB; have HO_5 := n0_; have BK125 := n1_; have HB := n2_; clear n0_ n1_ n2_; (try clear hb); (try clear hb2); (try clear hk); (try clear hi)))
    go_meet
    case rel => exact ⟨_, (false), (rfl), H', ⟨by have := HK1.out; first | omega | exact Nat.le_refl _⟩, ⟨HO_5.out⟩, ⟨BK125.out⟩, ⟨HB.out⟩⟩
   case rest =>
    clear HC6
    obtain ⟨kq, x20_5, rfl, HA, HJ5, HO_5, BK125, HB⟩ := hcut
    cases kq with
    | zero => exact absurd HA.out (by simp [q_Points.j1])
    | succ kj5 =>
     have H := HA.out
     clear HA
     simp only [q_Points.j1] at H
     by_cases c15 : x20_5 = true
     rotate_left
     ·replace c15 := Bool.eq_false_iff.mpr c15
      subst c15
      rw [if_neg (show ¬ (false = true) by decide)] at H
      obtain rfl := Option.some.inj H
      go_wp2
      go_ret
      exact ⟨_, rfl, by (with_reducible repeat (first | apply Kd.R_alloc | apply Kd.R_drewN | apply Kd.R_drew)); exact HO_5.out, HB.out⟩
     subst c15
     rw [if_pos rfl] at H
     by_cases c16 : 0 ≤ x6_1
     rotate_left
     ·rw [if_neg c16] at H
      exact absurd H (by simp)
     rw [if_pos c16] at H
     have c16b0 : decide (0 ≤ x6_1) = true := decide_eq_true c16
     clear c16
     by_cases c17 : x6_1 < (l0_0.length : Int)
     rotate_left
     ·rw [if_neg c17] at H
      exact absurd H (by simp)
     rw [if_pos c17] at H
     have c17b0 : decide (x6_1 < (l0_0.length : Int)) = true := decide_eq_true c17
     clear c17
     by_cases c18 : ((rd_T58 l0_0 x6_1).f1) = a1
     rotate_left
     ·rw [if_neg c18] at H
      have c18b0 : (((rd_T58 l0_0 x6_1).f1) == a1) = false := beq_eq_false_iff_ne.mpr c18
      have c18b1 : (((rd_T58 l0_0 x6_1).f1) != a1) = true := bne_iff_ne.mpr c18
      have H' := am H
      clear H
      have hcz22_0 : wc.cell? ⟨gb125, 0, none⟩ = some (.slice A0_0 l0_0.length c0_0) := (blk_cell BK125.out 0).trans rfl
      have hfz22_0 := blk_frozen BK125.out 0
      have p130 : 0 ≤ (x6_1 : Int) := odt ‹_›
      have q130 : x6_1 < (l0_0.length : Int) := odt ‹_›
      obtain ⟨ad130, A130_2, c130_2, e130, hx130_0, hx130_1, hx130_2, hl130_2, hi130_2⟩ := at_T58 HR0_0.out x6_1 p130 q130
      cases e130
      replace hx130_0 := (HB.out.cell (blc w _ hx130_0)).trans hx130_0
      replace hx130_1 := (HB.out.cell (blc w _ hx130_1)).trans hx130_1
      replace hx130_2 := (HB.out.cell (blc w _ hx130_2)).trans hx130_2
      have HR130_2 := am hi130_2
      have HC130_2 := am hl130_2
      clear hi130_2 hl130_2
      replace p130 := eq_true p130
      replace q130 := eq_true q130
      go_wp2
      go_roundg kj5
      case measure => have := HK1.out; have := HJ5.out; omega
      case rel => exact ⟨(x5_1), (wrap64 (x6_1 + 1)), (rfl), H', ⟨by have := HK1.out; have := HJ5.out; omega⟩, ⟨HO_5.out⟩, ⟨BK125.out⟩, ⟨HB.out⟩⟩
     rw [if_pos c18] at H
     have c18b0 : (((rd_T58 l0_0 x6_1).f1) == a1) = true := beq_iff_eq.mpr c18
     have c18b1 : (((rd_T58 l0_0 x6_1).f1) != a1) = false := bne_eq_false_iff_eq.mpr c18
     clear c18
     by_cases c19 : x5_1.length < 17592186044416
     rotate_left
     ·rw [if_neg c19] at H
      exact absurd H (by simp)
     rw [if_pos c19] at H
     have LMc19 := am c19
     clear c19
     obtain ⟨y131, hy131⟩ : ∃ y_ : List Int, y_ = (x5_1 ++ [x6_1]) := ⟨_, rfl⟩
     replace H : (q_Points.l0 kj5 a1 y131 (wrap64 (x6_1 + 1)) l0_0) = some r := by rw [hy131]; exact H
     have Ny131 := am hy131
     clear hy131
     have H' := am H
     clear H
     have hcz20_0 : wc.cell? ⟨gb125, 0, none⟩ = some (.slice A0_0 l0_0.length c0_0) := (blk_cell BK125.out 0).trans rfl
     have hfz20_0 := blk_frozen BK125.out 0
     have p130 : 0 ≤ (x6_1 : Int) := odt ‹_›
     have q130 : x6_1 < (l0_0.length : Int) := odt ‹_›
     obtain ⟨ad130, A130_2, c130_2, e130, hx130_0, hx130_1, hx130_2, hl130_2, hi130_2⟩ := at_T58 HR0_0.out x6_1 p130 q130
     cases e130
     replace hx130_0 := (HB.out.cell (blc w _ hx130_0)).trans hx130_0
     replace hx130_1 := (HB.out.cell (blc w _ hx130_1)).trans hx130_1
     replace hx130_2 := (HB.out.cell (blc w _ hx130_2)).trans hx130_2
     have HR130_2 := am hi130_2
     have HC130_2 := am hl130_2
     clear hi130_2 hl130_2
     replace p130 := eq_true p130
     replace q130 := eq_true q130
     go_wp2_with (first | ((with_reducible refine gate_builtin (b := .append) (xs := #[.tmp 31, .tmp 33]) rfl ?_); at_builtin; refine Kd.R_append (Kd.int .i64) (w0 := w) w.heap.size rfl (.tmp 31) (.tmp 33) 27 3 (.int .i64 0) 8 rfl Tryz.underlying27 info3 rfl (by decide) (by omega) u5 x5_1 x6_1 [.int .i64 x6_1] (fun _ => True) (fun _ => False) rfl rfl ?aP (fun _ hk => hk.elim) ?aF ?aO ?aB ?aS ?aL ?_; (case aP => exact rfl); (case aB => exact (HB.out)); (case aF => exact (fun _ _ => trivial)); (case aO => exact (HO_5.out)); (case aS => exact (below_size (HB.out))); (case aL => have := LMc19.out; omega); intro v132 w21 ho hb hg hat; rw [← Ny131.out] at ho; have n0_ := am (blk_grown (g := gb125) (o := .cells #[.slice (some ad130) l0_0.length c0_0] 36 (0, 0)) (BK125.out) hg (Kd.R_ne HO_5.out BK125.out (by decide))); have n1_ := am (hb); have n2_ := am (ho); clear BK125; clear HB; clear HO_5; have BK125 := n0_; have HB := n1_; have HO133 := n2_; clear n0_ n1_ n2_; clear ho hb hg hat))
     go_roundg kj5
     case measure => have := HK1.out; have := HJ5.out; omega
     case rel => exact ⟨(y131), (wrap64 (x6_1 + 1)), (rfl), H', ⟨by have := HK1.out; have := HJ5.out; omega⟩, ⟨HO133.out⟩, ⟨BK125.out⟩, ⟨HB.out⟩⟩
end Go.Proofs.YtfcjeoihfphphaaGreatDoor.PFlow
end

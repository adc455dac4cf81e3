/- A part of the proof, written by programs of this seat and by hand: P1. -/
import Derived.Test.YtfcjeoihfphphaaGreatDoorPtEvY
import Derived.Test.YtfcjeoihfphphaaGreatDoorPtP0
set_option linter.unusedVariables false
set_option linter.unusedSimpArgs false
section
namespace Go.Proofs.YtfcjeoihfphphaaGreatDoor.PFlow
open Go.RowKit Go.Proofs.YtfcjeoihfphphaaGreatDoorW.PrintWords Go.Proofs.YtfcjeoihfphphaaGreatDoorW.PrintLast Go.Proofs.YtfcjeoihfphphaaGreatDoorW.PrintMore
attribute [local go_sem] max2_int min2_int max_two min_two max_three min_three max_four min_four   -- for this text's walks alone
set_option linter.unusedVariables false
set_option linter.unusedSimpArgs false
def assessorlaw17_awake.f  : Option (Bool) := some true
set_option maxHeartbeats 8000000 in
set_option maxRecDepth 100000 in
theorem assessorlaw17_awake.calls  (r : Bool) (w : World) (h : assessorlaw17_awake.f  = some r) :
 Calls Tryz.prog 7 #[] w fun e w' => e = .returned (.bool r) ∧ Below w.heap.size w w' := awake_calls r w h
def q_Small.l0 : Nat → Int → Int → List (S58) → Option (Bool)
 | 0, _, _, _ => none
 | k + 1, x1, x5, x103000 => if x5 < (x103000.length : Int) then (if 0 ≤ x5 then (if (((rd_T58 x103000 x5).f2).length : Int) > 8 then (some false) else (q_Small.l0 k x1 (wrap64 (x5 + 1)) x103000)) else (none)) else (some (decide ((x103000.length : Int) ≤ x1)))
def q_Small.f (k : Nat) (l0_0 : List (S58)) (a1 : Int) : Option (Bool) := q_Small.l0 k a1 0 l0_0
set_option maxHeartbeats 8000000 in
set_option maxRecDepth 100000 in
theorem q_Small.calls (k : Nat) (A0_0 : Option Addr) (c0_0 : Nat) (l0_0 : List (S58)) (a1 : Int) (r : Bool) (w : World) (hr0_0 : Kd.C k58 w A0_0 l0_0.length l0_0) (hc0_0 : l0_0.length ≤ c0_0) (h : q_Small.f k l0_0 a1 = some r) :
 Calls Tryz.prog 12 #[.agg #[.slice A0_0 l0_0.length c0_0], .int .i64 a1] w fun e w' => e = .returned (.bool r) ∧ Below w.heap.size w w' := by
 have hu36 := Tryz.underlying36
 have HR0_0 := am hr0_0
 have HC0_0 := am hc0_0
 clear hr0_0 hc0_0
 have HB := am (Below.refl w.heap.size w)
 have H : (q_Small.l0 k a1 0 l0_0) = some r := h
 clear h
 have H' := am H
 clear H
 go_enter Tryz.func12, Tryz.ntmps12
 go_wp2_with (first | ((with_reducible refine gate_dst (N := 2) rfl ?_); refine box_event ?hg (N := 2) ?hd (cs := #[.slice A0_0 l0_0.length c0_0]) (t := 36) ?hr ?_; (case hd => rfl); (case hg => rfl); (case hr => first | (go_simp; done) | (go_simp; rfl)); intro gb102 hg w3 hbox hb; have n0_ := am (below_step (HB.out) hb); have n1_ := am (hbox); have n2_ := am ((by rw [hg]; exact (below_size (HB.out)) : w.heap.size ≤ gb102)); have n3_ := am ((by rw [hg]; exact (below_size (HB.out)) : w.heap.size ≤ gb102)); clear HB; have HB := n0_; have BK102 := n1_; have GW102 := n2_; have GE102 := n3_; clear n0_ n1_ n2_ n3_; clear hb hbox hg))
 go_loopg [5] k (fun kq v5 w' => ∃ (x5_1 : Int), v5 = .int .i64 x5_1 ∧ Aside0 (q_Small.l0 kq a1 x5_1 l0_0 = some r) ∧ Aside0 (kq ≤ k) ∧ Aside0 (w'.heap[gb102]? = some (.cells #[(.slice A0_0 l0_0.length c0_0)] 36 (0, 0))) ∧ Aside0 (Below w.heap.size w w'))
 case atStart => exact ⟨(0), (rfl), H', ⟨Nat.le_refl _⟩, ⟨BK102.out⟩, ⟨HB.out⟩⟩
 case round =>
  clear H'
  obtain ⟨x5_1, rfl, HA, HK1, BK102, HB⟩ := hrel
  cases gk with
  | zero => exact absurd HA.out (by simp [q_Small.l0])
  | succ k1 =>
   have H := HA.out
   clear HA
   simp only [q_Small.l0] at H
   by_cases c4 : x5_1 < (l0_0.length : Int)
   rotate_left
   ·rw [if_neg c4] at H
    have c4b0 : decide (x5_1 < (l0_0.length : Int)) = false := decide_eq_false c4
    clear c4
    obtain rfl := Option.some.inj H
    have hcz9_0 : wr.cell? ⟨gb102, 0, none⟩ = some (.slice A0_0 l0_0.length c0_0) := (blk_cell BK102.out 0).trans rfl
    have hfz9_0 := blk_frozen BK102.out 0
    go_wp2
    go_ret
    exact ⟨rfl, HB.out⟩
   rw [if_pos c4] at H
   have c4b0 : decide (x5_1 < (l0_0.length : Int)) = true := decide_eq_true c4
   clear c4
   by_cases c5 : 0 ≤ x5_1
   rotate_left
   ·rw [if_neg c5] at H
    exact absurd H (by simp)
   rw [if_pos c5] at H
   have c5b0 : decide (0 ≤ x5_1) = true := decide_eq_true c5
   clear c5
   by_cases c6 : (((rd_T58 l0_0 x5_1).f2).length : Int) > 8
   ·rw [if_pos c6] at H
    have c6b0 : decide (8 < (((rd_T58 l0_0 x5_1).f2).length : Int)) = true := decide_eq_true c6
    have c6b1 : decide (8 < ((rd_T58 l0_0 x5_1).f2).length) = true := decide_eq_true (by omega)
    clear c6
    obtain rfl := Option.some.inj H
    have hcz7_0 : wr.cell? ⟨gb102, 0, none⟩ = some (.slice A0_0 l0_0.length c0_0) := (blk_cell BK102.out 0).trans rfl
    have hfz7_0 := blk_frozen BK102.out 0
    have p103 : 0 ≤ (x5_1 : Int) := odt ‹_›
    have q103 : x5_1 < (l0_0.length : Int) := odt ‹_›
    obtain ⟨ad103, A103_2, c103_2, e103, hx103_0, hx103_1, hx103_2, hl103_2, hi103_2⟩ := at_T58 HR0_0.out x5_1 p103 q103
    cases e103
    replace hx103_0 := (HB.out.cell (blc w _ hx103_0)).trans hx103_0
    replace hx103_1 := (HB.out.cell (blc w _ hx103_1)).trans hx103_1
    replace hx103_2 := (HB.out.cell (blc w _ hx103_2)).trans hx103_2
    have HR103_2 := am hi103_2
    have HC103_2 := am hl103_2
    clear hi103_2 hl103_2
    replace p103 := eq_true p103
    replace q103 := eq_true q103
    go_wp2
    go_ret
    exact ⟨rfl, HB.out⟩
   rw [if_neg c6] at H
   have c6b0 : decide (8 < (((rd_T58 l0_0 x5_1).f2).length : Int)) = false := decide_eq_false c6
   have c6b1 : decide (8 < ((rd_T58 l0_0 x5_1).f2).length) = false := decide_eq_false (by omega)
   clear c6
   have H' := am H
   clear H
   have hcz8_0 : wr.cell? ⟨gb102, 0, none⟩ = some (.slice A0_0 l0_0.length c0_0) := (blk_cell BK102.out 0).trans rfl
   have hfz8_0 := blk_frozen BK102.out 0
   have p103 : 0 ≤ (x5_1 : Int) := odt ‹_›
   have q103 : x5_1 < (l0_0.length : Int) := odt ‹_›
   obtain ⟨ad103, A103_2, c103_2, e103, hx103_0, hx103_1, hx103_2, hl103_2, hi103_2⟩ := at_T58 HR0_0.out x5_1 p103 q103
   cases e103
   replace hx103_0 := (HB.out.cell (blc w _ hx103_0)).trans hx103_0
   replace hx103_1 := (HB.out.cell (blc w _ hx103_1)).trans hx103_1
   replace hx103_2 := (HB.out.cell (blc w _ hx103_2)).trans hx103_2
   have HR103_2 := am hi103_2
   have HC103_2 := am hl103_2
   clear hi103_2 hl103_2
   replace p103 := eq_true p103
   replace q103 := eq_true q103
   go_wp2
   go_roundg k1
   case measure => have := HK1.out; omega
   case rel => exact ⟨(wrap64 (x5_1 + 1)), (rfl), H', ⟨by have := HK1.out; omega⟩, ⟨BK102.out⟩, ⟨HB.out⟩⟩
def q_Ints.l0 : Nat → List Int → List Int → Int → Option (Bool)
 | 0, _, _, _ => none
 | k + 1, x0, x1, x5 => if x5 < (x0.length : Int) then (if 0 ≤ x5 then (if x5 < (x1.length : Int) then (if (rd x0 x5) = (rd x1 x5) then (q_Ints.l0 k x0 x1 (wrap64 (x5 + 1))) else (some false)) else (none)) else (none)) else (some true)
def q_Ints.f (k : Nat) (l0 : List Int) (l1 : List Int) : Option (Bool) := if (l0.length : Int) = (l1.length : Int) then (q_Ints.l0 k l0 l1 0) else (some false)
set_option maxHeartbeats 8000000 in
set_option maxRecDepth 100000 in
theorem q_Ints.calls (k : Nat) (A0 : Option Addr) (c0 : Nat) (l0 : List Int) (A1 : Option Addr) (c1 : Nat) (l1 : List Int) (r : Bool) (w : World) (hr0 : Kd.C (Kd.int .i64) w A0 l0.length l0) (hc0 : l0.length ≤ c0) (hr1 : Kd.C (Kd.int .i64) w A1 l1.length l1) (hc1 : l1.length ≤ c1) (h : q_Ints.f k l0 l1 = some r) :
 Calls Tryz.prog 13 #[.slice A0 l0.length c0, .slice A1 l1.length c1] w fun e w' => e = .returned (.bool r) ∧ Drawn0 w w' := by
 have HR0 := am hr0
 have HC0 := am hc0
 clear hr0 hc0
 have HR1 := am hr1
 have HC1 := am hc1
 clear hr1 hc1
 have H : (if (l0.length : Int) = (l1.length : Int) then (q_Ints.l0 k l0 l1 0) else (some false)) = some r := h
 clear h
 by_cases c3 : (l0.length : Int) = (l1.length : Int)
 rotate_left
 ·rw [if_neg c3] at H
  have c3b0 : ((l0.length : Int) == (l1.length : Int)) = false := beq_eq_false_iff_ne.mpr c3
  have c3b1 : ((l0.length : Int) != (l1.length : Int)) = true := bne_iff_ne.mpr c3
  have c3b2 : (l0.length == l1.length) = false := by first | simpa using c3 | (simp at c3 ⊢; omega)
  obtain rfl := Option.some.inj H
  go_enter Tryz.func13, Tryz.ntmps13
  go_wp2
  repeat (go_quiet (fail); try go_wp2)
  go_ret
  exact ⟨rfl, by repeat (first | exact Drawn0.refl _ | apply Drawn0.step)⟩
 rw [if_pos c3] at H
 have c3b0 : ((l0.length : Int) == (l1.length : Int)) = true := beq_iff_eq.mpr c3
 have c3b1 : ((l0.length : Int) != (l1.length : Int)) = false := bne_eq_false_iff_eq.mpr c3
 have c3b2 : (l0.length == l1.length) = true := by first | simpa using c3 | (simp at c3 ⊢; omega)
 clear c3
 have H' := am H
 clear H
 go_enter Tryz.func13, Tryz.ntmps13
 go_wp2
 repeat (go_quiet (fail); try go_wp2)
 go_loopg [5] k (fun kq v5 w' => ∃ (x5_1 : Int), v5 = .int .i64 x5_1 ∧ Aside0 (q_Ints.l0 kq l0 l1 x5_1 = some r) ∧ Aside0 (kq ≤ k) ∧ Drawn0 w w')
 case atStart => exact ⟨(0), (rfl), H', ⟨Nat.le_refl _⟩, by repeat (first | exact Drawn0.refl _ | apply Drawn0.step)⟩
 case round =>
  clear H'
  clear c3b0 c3b1 c3b2
  obtain ⟨x5_1, rfl, HA, HK1, ⟨m1, rfl⟩⟩ := hrel
  cases gk with
  | zero => exact absurd HA.out (by simp [q_Ints.l0])
  | succ k1 =>
   have H := HA.out
   clear HA
   simp only [q_Ints.l0] at H
   by_cases c4 : x5_1 < (l0.length : Int)
   rotate_left
   ·rw [if_neg c4] at H
    have c4b0 : decide (x5_1 < (l0.length : Int)) = false := decide_eq_false c4
    clear c4
    obtain rfl := Option.some.inj H
    go_wp2
    repeat (go_quiet (fail); try go_wp2)
    go_ret
    exact ⟨rfl, by repeat (first | exact Drawn0.refl _ | apply Drawn0.step)⟩
   rw [if_pos c4] at H
   have c4b0 : decide (x5_1 < (l0.length : Int)) = true := decide_eq_true c4
   clear c4
   by_cases c5 : 0 ≤ x5_1
   rotate_left
   ·rw [if_neg c5] at H
    exact absurd H (by simp)
   rw [if_pos c5] at H
   have c5b0 : decide (0 ≤ x5_1) = true := decide_eq_true c5
   clear c5
   by_cases c6 : x5_1 < (l1.length : Int)
   rotate_left
   ·rw [if_neg c6] at H
    exact absurd H (by simp)
   rw [if_pos c6] at H
   have c6b0 : decide (x5_1 < (l1.length : Int)) = true := decide_eq_true c6
   clear c6
   by_cases c7 : (rd l0 x5_1) = (rd l1 x5_1)
   rotate_left
   ·rw [if_neg c7] at H
    have c7b0 : ((rd l0 x5_1) == (rd l1 x5_1)) = false := beq_eq_false_iff_ne.mpr c7
    have c7b1 : ((rd l0 x5_1) != (rd l1 x5_1)) = true := bne_iff_ne.mpr c7
    obtain rfl := Option.some.inj H
    have p104 : 0 ≤ (x5_1 : Int) := odt ‹_›
    have q104 : x5_1 < (l0.length : Int) := odt ‹_›
    obtain ⟨ad104, e104, hx104_0⟩ := Kd.at_int HR0.out x5_1 p104 q104
    cases e104
    replace p104 := eq_true p104
    replace q104 := eq_true q104
    have p105 : 0 ≤ (x5_1 : Int) := odt ‹_›
    have q105 : x5_1 < (l1.length : Int) := odt ‹_›
    obtain ⟨ad105, e105, hx105_0⟩ := Kd.at_int HR1.out x5_1 p105 q105
    cases e105
    replace p105 := eq_true p105
    replace q105 := eq_true q105
    go_wp2
    repeat (go_quiet (fail); try go_wp2)
    go_ret
    exact ⟨rfl, by repeat (first | exact Drawn0.refl _ | apply Drawn0.step)⟩
   rw [if_pos c7] at H
   have c7b0 : ((rd l0 x5_1) == (rd l1 x5_1)) = true := beq_iff_eq.mpr c7
   have c7b1 : ((rd l0 x5_1) != (rd l1 x5_1)) = false := bne_eq_false_iff_eq.mpr c7
   clear c7
   have H' := am H
   clear H
   have p104 : 0 ≤ (x5_1 : Int) := odt ‹_›
   have q104 : x5_1 < (l0.length : Int) := odt ‹_›
   obtain ⟨ad104, e104, hx104_0⟩ := Kd.at_int HR0.out x5_1 p104 q104
   cases e104
   replace p104 := eq_true p104
   replace q104 := eq_true q104
   have p105 : 0 ≤ (x5_1 : Int) := odt ‹_›
   have q105 : x5_1 < (l1.length : Int) := odt ‹_›
   obtain ⟨ad105, e105, hx105_0⟩ := Kd.at_int HR1.out x5_1 p105 q105
   cases e105
   replace p105 := eq_true p105
   replace q105 := eq_true q105
   go_wp2
   repeat (go_quiet (fail); try go_wp2)
   go_roundg k1
   case measure => have := HK1.out; omega
   case rel => exact ⟨(wrap64 (x5_1 + 1)), (rfl), H', ⟨by have := HK1.out; omega⟩, by repeat (first | exact Drawn0.refl _ | apply Drawn0.step)⟩
def slices_ContainsFunc_int_int.f (l0 : List Int) (l1_0 : List (S58)) : Option (Bool) := if l0.length < 4611686018427387904 then some (l0.any (fun x => decide (x < 1) || decide (x ≥ (l1_0.length : Int)))) else none
set_option maxHeartbeats 800000 in
set_option maxRecDepth 100000 in
theorem valid1_calls (x : Int) (g n c : Nat) (A : Option Addr) (w : World) (hg : w.heap[g]? = some (.cells #[.slice A n c] 36 (0, 0))) :
 Calls Tryz.prog 58 #[.int .i64 x, .pointer (some ⟨g, 0, none⟩)] w fun e w' => e = .returned (.bool (decide (x < 1) || decide (x ≥ (n : Int)))) ∧ w' = w := by
 have hu36 := Tryz.underlying36
 have hcz : w.cell? ⟨g, 0, none⟩ = some (.slice A n c) := (blk_cell hg 0).trans rfl
 by_cases c1 : x < 1
 · have c1b : decide (x < 1) = true := decide_eq_true c1
   go_enter Tryz.func58, Tryz.ntmps58
   go_wp2
   go_ret
   exact ⟨by simp [c1b], rfl⟩
 · have c1b : decide (x < 1) = false := decide_eq_false c1
   go_enter Tryz.func58, Tryz.ntmps58
   go_wp2
   go_ret
   exact ⟨by simp [c1b], rfl⟩
def vix : Nat → Int → List Int → Int → Option Int
 | 0, _, _, _ => none
 | k + 1, n, l, i => if i < (l.length : Int) then (if 0 ≤ i then (if (decide (rd l i < 1) || decide (rd l i ≥ n)) = true then some i else vix k n l (wrap64 (i + 1))) else none) else some (-1)
set_option maxHeartbeats 800000 in
set_option maxRecDepth 100000 in
theorem vix_calls (k : Nat) (A0 : Option Addr) (c0 : Nat) (l0 : List Int) (g n c : Nat) (A : Option Addr) (r : Int) (w : World) (hg : w.heap[g]? = some (.cells #[.slice A n c] 36 (0, 0))) (hr0 : Kd.C (Kd.int .i64) w A0 l0.length l0) (hc0 : l0.length ≤ c0)
 (h : vix k n l0 0 = some r) :
 Calls Tryz.prog 81 #[.slice A0 l0.length c0, .func (.func 58) #[] #[.pointer (some ⟨g, 0, none⟩)]] w fun e w' => e = .returned (.int .i64 r) ∧ Drawn0 w w' := by
 have HR0 := am hr0
 have HC0 := am hc0
 have HG := am hg
 clear hr0 hc0 hg
 have H' := am h
 clear h
 go_enter Tryz.func81, Tryz.ntmps81
 go_wp2
 repeat (go_quiet (fail); try go_wp2)
 go_loopg [8] k (fun kq v8 w' => ∃ (x8 : Int), v8 = .int .i64 x8 ∧ Aside0 (vix kq n l0 x8 = some r) ∧ Aside0 (kq ≤ k) ∧ Drawn0 w w')
 case atStart => exact ⟨(0), (rfl), H', ⟨Nat.le_refl _⟩, by repeat (first | exact Drawn0.refl _ | apply Drawn0.step)⟩
 case round =>
  clear H'
  obtain ⟨x8, rfl, HA, HK1, ⟨m1, rfl⟩⟩ := hrel
  cases gk with
  | zero => exact absurd HA.out (by simp [vix])
  | succ k1 =>
    have H := HA.out
    clear HA
    simp only [vix] at H
    by_cases c4 : x8 < (l0.length : Int)
    · rw [if_pos c4] at H
      have c4b0 : decide (x8 < (l0.length : Int)) = true := decide_eq_true c4
      clear c4
      by_cases c5 : 0 ≤ x8
      · rw [if_pos c5] at H
        have c5b0 : decide (0 ≤ x8) = true := decide_eq_true c5
        clear c5
        have p104 : 0 ≤ (x8 : Int) := odt ‹_›
        have q104 : x8 < (l0.length : Int) := odt ‹_›
        obtain ⟨ad104, e104, hx104_0⟩ := Kd.at_int HR0.out x8 p104 q104
        cases e104
        replace p104 := eq_true p104
        replace q104 := eq_true q104
        by_cases c7 : (decide (rd l0 x8 < 1) || decide (rd l0 x8 ≥ (n : Int))) = true
        · rw [if_pos c7] at H
          obtain rfl := Option.some.inj H
          go_wp2_with (go_at_call 58; refine (valid1_calls _ g n c A _ (by with_reducible repeat (first | exact HG.out | refine blk_drewN ?_ _ | refine blk_drew ?_))).mono ?_; rintro e w2 ⟨rfl, rfl⟩; rw [c7])
          go_ret
          exact ⟨rfl, by repeat (first | exact Drawn0.refl _ | apply Drawn0.step)⟩
        · rw [if_neg c7] at H
          have H' := am H
          clear H
          replace c7 := Bool.eq_false_iff.mpr c7
          go_wp2_with (go_at_call 58; refine (valid1_calls _ g n c A _ (by with_reducible repeat (first | exact HG.out | refine blk_drewN ?_ _ | refine blk_drew ?_))).mono ?_; rintro e w2 ⟨rfl, rfl⟩; rw [c7])
          go_roundg k1
          case measure => have := HK1.out; omega
          case rel => exact ⟨(wrap64 (x8 + 1)), (rfl), H', ⟨by have := HK1.out; omega⟩, by repeat (first | exact Drawn0.refl _ | apply Drawn0.step)⟩
      · rw [if_neg c5] at H
        exact absurd H (by simp)
    · rw [if_neg c4] at H
      have c4b0 : decide (x8 < (l0.length : Int)) = false := decide_eq_false c4
      clear c4
      obtain rfl := Option.some.inj H
      go_wp2
      repeat (go_quiet (fail); try go_wp2)
      go_ret
      exact ⟨rfl, by repeat (first | exact Drawn0.refl _ | apply Drawn0.step)⟩
theorem vix_val (n : Int) (l : List Int) (hl : l.length < 4611686018427387904) : ∀ (d i : Nat), i + d = l.length → ∃ v, vix (d + 1) n l (i : Int) = some v ∧ decide (v ≥ 0) = (l.drop i).any (fun x => decide (x < 1) || decide (x ≥ n)) := by
 intro d
 induction d with
 | zero =>
   intro i hi
   refine ⟨-1, ?_, ?_⟩
   · simp only [vix]; rw [if_neg (by omega)]
   · rw [List.drop_of_length_le (by omega)]; rfl
 | succ d ih =>
   intro i hi
   have hlt : i < l.length := by omega
   have hdrop : l.drop i = rd l (i : Int) :: l.drop (i + 1) := by
    rw [List.drop_eq_getElem_cons hlt]
    congr 1
    simp [rd, hlt]
   rw [hdrop, List.any_cons]
   by_cases hb : (decide (rd l (i : Int) < 1) || decide (rd l (i : Int) ≥ n)) = true
   · refine ⟨i, ?_, ?_⟩
     · rw [vix.eq_2, if_pos (by omega), if_pos (by omega), if_pos hb]
     · rw [hb]; simp
   · obtain ⟨v, h1, h2⟩ := ih (i + 1) (by omega)
     refine ⟨v, ?_, ?_⟩
     · rw [vix.eq_2, if_pos (by omega), if_pos (by omega), if_neg hb]
       have hw : wrap64 ((i : Int) + 1) = ((i + 1 : Nat) : Int) := by unfold wrap64; omega
       rw [hw]; exact h1
     · rw [Bool.eq_false_iff.mpr hb, h2]; rfl
set_option maxHeartbeats 800000 in
set_option maxRecDepth 100000 in
theorem slices_ContainsFunc_int_int.calls (g : Nat) (A0 : Option Addr) (c0 : Nat) (l0 : List Int) (A1_0 : Option Addr) (c1_0 : Nat) (l1_0 : List (S58)) (r : Bool) (w : World) (hg : w.heap[g]? = some (.cells #[.slice A1_0 l1_0.length c1_0] 36 (0, 0))) (hr0 : Kd.C (Kd.int .i64) w A0 l0.length l0) (hc0 : l0.length ≤ c0) (hr1_0 : Kd.C k58 w A1_0 l1_0.length l1_0) (hc1_0 : l1_0.length ≤ c1_0) (h : slices_ContainsFunc_int_int.f l0 l1_0 = some r) :
 Calls Tryz.prog 57 #[.slice A0 l0.length c0, .func (.func 58) #[] #[.pointer (some ⟨g, 0, none⟩)]] w fun e w' => e = .returned (.bool r) ∧ Below w.heap.size w w' := by
 unfold slices_ContainsFunc_int_int.f at h
 by_cases hl : l0.length < 4611686018427387904
 rotate_left
 ·rw [if_neg hl] at h; cases h
 rw [if_pos hl] at h
 obtain rfl := Option.some.inj h
 obtain ⟨v, h1, h2⟩ := vix_val (l1_0.length : Int) l0 hl l0.length 0 (by omega)
 rw [List.drop_zero] at h2
 rw [← h2]
 clear h h2 hr1_0 hc1_0
 have HR0 := am hr0
 have HC0 := am hc0
 have HG := am hg
 have HV := am h1
 clear hr0 hc0 hg h1 hl
 go_enter Tryz.func57, Tryz.ntmps57
 go_wp2_with (go_at_call 81; refine (vix_calls _ _ _ l0 g _ _ _ v _ HG.out HR0.out HC0.out HV.out).mono ?_; rintro e w2 ⟨rfl, ⟨m2, rfl⟩⟩)
 go_ret
 exact ⟨rfl, by repeat (first | exact Below.refl _ _ | apply pw_below_drewN | apply below_drew1)⟩
mutual
def flow_valid.j0 : Nat → Bool → List (S58) → Option (Bool)
 | 0, _, _ => none
 | k + 1, x23, x107000 => if x23 = true then (some false) else (flow_valid.l0 k x107000 (x107000.length : Int) 0 x107000)
def flow_valid.l0 : Nat → List (S58) → Int → Int → List (S58) → Option (Bool)
 | 0, _, _, _, _ => none
 | k + 1, x25, x26, x27, x107000 => if x27 < x26 then (if 0 ≤ x27 then (if x27 < (x25.length : Int) then ((slices_ContainsFunc_int_int.f ((rd_T58 x25 x27).f2) x107000).bind fun t110 => (if t110 = true then (some false) else (flow_valid.l0 k x25 x26 (wrap64 (x27 + 1)) x107000))) else (none)) else (none)) else (some true)
end
def flow_valid.f (k : Nat) (l0_0 : List (S58)) : Option (Bool) := if (l0_0.length : Int) < 2 then (flow_valid.j0 k true l0_0) else (if (l0_0.length : Int) > 1024 then (flow_valid.j0 k true l0_0) else (if 1 < (l0_0.length : Int) then (flow_valid.j0 k (decide ((((rd_T58 l0_0 1).f2).length : Int) > 0)) l0_0) else (none)))
set_option maxHeartbeats 8000000 in
set_option maxRecDepth 100000 in
theorem flow_valid.calls (k : Nat) (A0_0 : Option Addr) (c0_0 : Nat) (l0_0 : List (S58)) (r : Bool) (w : World) (hr0_0 : Kd.C k58 w A0_0 l0_0.length l0_0) (hc0_0 : l0_0.length ≤ c0_0) (h : flow_valid.f k l0_0 = some r) :
 Calls Tryz.prog 41 #[.agg #[.slice A0_0 l0_0.length c0_0]] w fun e w' => e = .returned (.bool r) ∧ Below w.heap.size w w' := by
 have hu36 := Tryz.underlying36
 have hu58 := Tryz.underlying58
 have HR0_0 := am hr0_0
 have HC0_0 := am hc0_0
 clear hr0_0 hc0_0
 have HB := am (Below.refl w.heap.size w)
 have H : (if (l0_0.length : Int) < 2 then (flow_valid.j0 k true l0_0) else (if (l0_0.length : Int) > 1024 then (flow_valid.j0 k true l0_0) else (if 1 < (l0_0.length : Int) then (flow_valid.j0 k (decide ((((rd_T58 l0_0 1).f2).length : Int) > 0)) l0_0) else (none)))) = some r := h
 clear h
 have HC2 := am H
 clear H
 go_enter Tryz.func41, Tryz.ntmps41
 go_upto_region 1 with (first | ((with_reducible refine gate_dst (N := 1) rfl ?_); (try (refine gate_guard (by rfl) ?_; dsimp only)); refine box_event ?hg (N := 1) ?hd (cs := #[.slice A0_0 l0_0.length c0_0]) (t := 36) ?hr ?_; (case hd => rfl); (case hg => rfl); (case hr => first | (go_simp; done) | (go_simp; rfl)); intro gb106 hg w3 hbox hb; have n0_ := am (below_step (HB.out) hb); have n1_ := am (hbox); have n2_ := am ((by rw [hg]; exact (below_size (HB.out)) : w.heap.size ≤ gb106)); have n3_ := am ((by rw [hg]; exact (below_size (HB.out)) : w.heap.size ≤ gb106)); clear HB; have HB := n0_; have BK106 := n1_; have GW106 := n2_; have GE106 := n3_; clear n0_ n1_ n2_ n3_; clear hb hbox hg))
 (try simp only [Act.put, List.setIfInBounds_toArray, List.set_cons_zero, List.set_cons_succ])
 go_cut [23] (fun v23 wc => ∃ (kq : Nat) (x23_1 : Bool), v23 = .bool x23_1 ∧ Aside0 (flow_valid.j0 kq x23_1 l0_0 = some r) ∧ Aside0 (kq ≤ k) ∧ Aside0 (wc.heap[gb106]? = some (.cells #[(.slice A0_0 l0_0.length c0_0)] 36 (0, 0))) ∧ Aside0 (Below w.heap.size w wc))
 case first =>
  have H := HC2.out
  clear HC2
  by_cases c4 : (l0_0.length : Int) < 2
  ·rw [if_pos c4] at H
   have c4b0 : decide ((l0_0.length : Int) < 2) = true := decide_eq_true c4
   have c4b1 : decide (l0_0.length < 2) = true := decide_eq_true (by omega)
   clear c4
   (first | rw [c4b0] | (simp only [i64_w, i32_w]; rw [c4b0]) | skip)
   have H' := am H
   clear H
   have hcz5_0 : w3.cell? ⟨gb106, 0, none⟩ = some (.slice A0_0 l0_0.length c0_0) := (blk_cell BK106.out 0).trans rfl
   have hfz5_0 := blk_frozen BK106.out 0
   go_wp2
   go_meet
   case rel => exact ⟨_, (true), (rfl), H', ⟨by first | omega | exact Nat.le_refl _⟩, ⟨BK106.out⟩, ⟨HB.out⟩⟩
  rw [if_neg c4] at H
  have c4b0 : decide ((l0_0.length : Int) < 2) = false := decide_eq_false c4
  have c4b1 : decide (l0_0.length < 2) = false := decide_eq_false (by omega)
  clear c4
  (first | rw [c4b0] | (simp only [i64_w, i32_w]; rw [c4b0]) | skip)
  by_cases c6 : (l0_0.length : Int) > 1024
  ·rw [if_pos c6] at H
   have c6b0 : decide (1024 < (l0_0.length : Int)) = true := decide_eq_true c6
   have c6b1 : decide (1024 < l0_0.length) = true := decide_eq_true (by omega)
   clear c6
   have H' := am H
   clear H
   have hcz7_0 : w3.cell? ⟨gb106, 0, none⟩ = some (.slice A0_0 l0_0.length c0_0) := (blk_cell BK106.out 0).trans rfl
   have hfz7_0 := blk_frozen BK106.out 0
   go_wp2
   go_meet
   case rel => exact ⟨_, (true), (rfl), H', ⟨by first | omega | exact Nat.le_refl _⟩, ⟨BK106.out⟩, ⟨HB.out⟩⟩
  rw [if_neg c6] at H
  have c6b0 : decide (1024 < (l0_0.length : Int)) = false := decide_eq_false c6
  have c6b1 : decide (1024 < l0_0.length) = false := decide_eq_false (by omega)
  clear c6
  by_cases c8 : 1 < (l0_0.length : Int)
  rotate_left
  ·rw [if_neg c8] at H
   exact absurd H (by simp)
  rw [if_pos c8] at H
  have c8b0 : decide (1 < (l0_0.length : Int)) = true := decide_eq_true c8
  have c8b1 : decide (1 < l0_0.length) = true := decide_eq_true (by omega)
  clear c8
  have H' := am H
  clear H
  have hcz9_0 : w3.cell? ⟨gb106, 0, none⟩ = some (.slice A0_0 l0_0.length c0_0) := (blk_cell BK106.out 0).trans rfl
  have hfz9_0 := blk_frozen BK106.out 0
  have p107 : 0 ≤ (1 : Int) := (by omega)
  have q107 : 1 < (l0_0.length : Int) := odt ‹_›
  obtain ⟨ad107, A107_2, c107_2, e107, hx107_0, hx107_1, hx107_2, hl107_2, hi107_2⟩ := at_T58 HR0_0.out 1 p107 q107
  cases e107
  (try simp only [show (1 : Int).toNat = 1 from rfl, Nat.reduceMul, Nat.reduceEqDiff, Go.Addr.add, ↓reduceIte] at hx107_0)
  (try simp only [show (1 : Int).toNat = 1 from rfl, Nat.reduceMul, Nat.reduceEqDiff, Go.Addr.add, ↓reduceIte] at hx107_1)
  (try simp only [show (1 : Int).toNat = 1 from rfl, Nat.reduceMul, Nat.reduceEqDiff, Go.Addr.add, ↓reduceIte] at hx107_2)
  have qi107 : (1 < l0_0.length) = True := eq_true (by omega)
  (try rw [show ((1 : Int)).toNat = 1 from rfl] at hx107_0)
  (try rw [show 1 * 3 = 3 from rfl] at hx107_0)
  (try rw [show ((1 : Int)).toNat = 1 from rfl] at hx107_1)
  (try rw [show 1 * 3 = 3 from rfl] at hx107_1)
  (try rw [show ((1 : Int)).toNat = 1 from rfl] at hx107_2)
  (try rw [show 1 * 3 = 3 from rfl] at hx107_2)
  replace hx107_0 := (HB.out.cell (blc w _ hx107_0)).trans hx107_0
  replace hx107_1 := (HB.out.cell (blc w _ hx107_1)).trans hx107_1
  replace hx107_2 := (HB.out.cell (blc w _ hx107_2)).trans hx107_2
  have HR107_2 := am hi107_2
  have HC107_2 := am hl107_2
  clear hi107_2 hl107_2
  replace p107 := eq_true p107
  replace q107 := eq_true q107
  go_wp2
  go_meet
  case rel => exact ⟨_, (decide ((((rd_T58 l0_0 1).f2).length : Int) > 0)), (by first | rfl | (simp; done) | (simp [*]; done)), H', ⟨by first | omega | exact Nat.le_refl _⟩, ⟨BK106.out⟩, ⟨HB.out⟩⟩
 case rest =>
  clear HC2
  obtain ⟨kq, x23_1, rfl, HA, HJ1, BK106, HB⟩ := hcut
  cases kq with
  | zero => exact absurd HA.out (by simp [flow_valid.j0])
  | succ kj1 =>
   have H := HA.out
   clear HA
   simp only [flow_valid.j0] at H
   by_cases c10 : x23_1 = true
   ·subst c10
    rw [if_pos rfl] at H
    obtain rfl := Option.some.inj H
    go_wp2
    go_ret
    exact ⟨rfl, HB.out⟩
   replace c10 := Bool.eq_false_iff.mpr c10
   subst c10
   rw [if_neg (show ¬ (false = true) by decide)] at H
   have H' := am H
   clear H
   have hcz11_0 : wc.cell? ⟨gb106, 0, none⟩ = some (.slice A0_0 l0_0.length c0_0) := (blk_cell BK106.out 0).trans rfl
   have hfz11_0 := blk_frozen BK106.out 0
   go_wp2
   go_loopg [27] kj1 (fun kq v27 w' => ∃ (x27_2 : Int), v27 = .int .i64 x27_2 ∧ Aside0 (flow_valid.l0 kq l0_0 (l0_0.length : Int) x27_2 l0_0 = some r) ∧ Aside0 (kq ≤ kj1) ∧ Aside0 (w'.heap[gb106]? = some (.cells #[(.slice A0_0 l0_0.length c0_0)] 36 (0, 0))) ∧ Aside0 (Below w.heap.size w w'))
   case atStart => exact ⟨(0), (rfl), H', ⟨Nat.le_refl _⟩, ⟨BK106.out⟩, ⟨HB.out⟩⟩
   case round =>
    clear H'
    clear hcz11_0 hfz11_0
    obtain ⟨x27_2, rfl, HA, HK2, BK106, HB⟩ := hrel
    cases gk with
    | zero => exact absurd HA.out (by simp [flow_valid.l0])
    | succ k2 =>
     have H := HA.out
     clear HA
     simp only [flow_valid.l0] at H
     by_cases c12 : x27_2 < (l0_0.length : Int)
     rotate_left
     ·rw [if_neg c12] at H
      have c12b0 : decide (x27_2 < (l0_0.length : Int)) = false := decide_eq_false c12
      clear c12
      obtain rfl := Option.some.inj H
      go_wp2
      go_ret
      exact ⟨rfl, HB.out⟩
     rw [if_pos c12] at H
     have c12b0 : decide (x27_2 < (l0_0.length : Int)) = true := decide_eq_true c12
     clear c12
     by_cases c13 : 0 ≤ x27_2
     rotate_left
     ·rw [if_neg c13] at H
      exact absurd H (by simp)
     rw [if_pos c13] at H
     have c13b0 : decide (0 ≤ x27_2) = true := decide_eq_true c13
     clear c13
     by_cases c14 : x27_2 < (l0_0.length : Int)
     rotate_left
     ·rw [if_neg c14] at H
      exact absurd H (by simp)
     rw [if_pos c14] at H
     have c14b0 : decide (x27_2 < (l0_0.length : Int)) = true := decide_eq_true c14
     clear c14
     replace H := Option.bind_eq_some_iff.mp H
     obtain ⟨t110, A150, H⟩ := H
     try dsimp only at H
     have A15 := am A150
     clear A150
     by_cases c16 : t110 = true
     ·subst c16
      rw [if_pos rfl] at H
      obtain rfl := Option.some.inj H
      have p108 : 0 ≤ (x27_2 : Int) := odt ‹_›
      have q108 : x27_2 < (l0_0.length : Int) := odt ‹_›
      obtain ⟨ad108, A108_2, c108_2, e108, hx108_0, hx108_1, hx108_2, hl108_2, hi108_2⟩ := at_T58 HR0_0.out x27_2 p108 q108
      cases e108
      replace hx108_0 := (HB.out.cell (blc w _ hx108_0)).trans hx108_0
      replace hx108_1 := (HB.out.cell (blc w _ hx108_1)).trans hx108_1
      replace hx108_2 := (HB.out.cell (blc w _ hx108_2)).trans hx108_2
      have HR108_2 := am hi108_2
      have HC108_2 := am hl108_2
      clear hi108_2 hl108_2
      replace p108 := eq_true p108
      replace q108 := eq_true q108
      go_wp2_with (first | ((with_reducible refine gate_dst (N := 4) rfl ?_); (try (refine gate_guard (by rfl) ?_; dsimp only)); refine box_event ?hg (N := 4) ?hd (cs := #[.int .i64 0, .int .i64 0, .slice none 0 0]) (t := 58) ?hr ?_; (case hd => rfl); (case hg => rfl); (case hr => first | (go_simp; done) | (go_simp; rfl)); intro gb109 hg w17 hbox hb; have n0_ := am (blk_below (g := gb106) (o := .cells #[.slice (some ad108) l0_0.length c0_0] 36 (0, 0)) (BK106.out) hb); have n1_ := am (below_step (HB.out) hb); have n2_ := am (hbox); have n3_ := am ((by rw [hg]; exact (below_size (HB.out)) : w.heap.size ≤ gb109)); have n4_ := am ((by rw [hg]; exact (below_size (HB.out)) : w.heap.size ≤ gb109)); have n5_ := am ((by rw [hg]; exact Nat.ne_of_lt (blk_lt (g := gb106) (o := .cells #[.slice (some ad108) l0_0.length c0_0] 36 (0, 0)) (BK106.out)) : gb106 ≠ gb109)); have n6_ := am ((by rw [hg]; exact Nat.ne_of_gt (blk_lt (g := gb106) (o := .cells #[.slice (some ad108) l0_0.length c0_0] 36 (0, 0)) (BK106.out)) : gb109 ≠ gb106)); clear BK106; clear HB; have BK106 := n0_; have HB := n1_; have BK109 := n2_; have GW109 := n3_; have GE109 := n4_; have NB106_109 := n5_; have NB109_106 := n6_; clear n0_ n1_ n2_ n3_ n4_ n5_ n6_; clear hb hbox hg; have hnb18 := NB109_106.out; have hnc18 := NB106_109.out; have hcz19_0 : w17.cell? ⟨gb109, 0, none⟩ = some (.int .i64 0) := (blk_cell BK109.out 0).trans rfl; have hcz19_1 : w17.cell? ⟨gb109, 1, none⟩ = some (.int .i64 0) := (blk_cell BK109.out 1).trans rfl; have hcz19_2 : w17.cell? ⟨gb109, 2, none⟩ = some (.slice none 0 0) := (blk_cell BK109.out 2).trans rfl; have hfz19_0 := blk_frozen BK109.out 0; have hfz19_1 := blk_frozen BK109.out 1; have hfz19_2 := blk_frozen BK109.out 2; have hcz20_0 : w17.cell? ⟨gb106, 0, none⟩ = some (.slice (some ad108) l0_0.length c0_0) := (blk_cell BK106.out 0).trans rfl; have hfz20_0 := blk_frozen BK106.out 0) | (go_at_call 57; (refine (slices_ContainsFunc_int_int.calls gb106 _ _ ((rd_T58 l0_0 x27_2).f2) (some ad108) c0_0 l0_0 true _ ?side0 ?side1 ?side2 ?side3 ?side4 A15.out).mono ?_); (case side0 => exact (by (with_reducible repeat (first | refine blk_drewN ?_ _ | refine blk_drew ?_ | refine blk_alloc ?_ _)); refine blk_far ?_ NB106_109.out _; (with_reducible repeat (first | refine blk_drewN ?_ _ | refine blk_drew ?_ | refine blk_alloc ?_ _)); refine blk_far ?_ NB106_109.out _; (with_reducible repeat (first | refine blk_drewN ?_ _ | refine blk_drew ?_ | refine blk_alloc ?_ _)); refine blk_far ?_ NB106_109.out _; (with_reducible repeat (first | refine blk_drewN ?_ _ | refine blk_drew ?_ | refine blk_alloc ?_ _)); exact BK106.out)); (case side1 => exact Kd.C_below HR108_2.out (by repeat (first | (with_reducible first | exact HB.out | apply below_alloc | apply pw_below_drewN | apply below_drew1 | refine below_set ?_ GE106.out | refine below_set ?_ GE109.out) | exact HB.out))); (case side2 => exact HC108_2.out); (case side3 => exact Kd.C_below HR0_0.out (by repeat (first | (with_reducible first | exact HB.out | apply below_alloc | apply pw_below_drewN | apply below_drew1 | refine below_set ?_ GE106.out | refine below_set ?_ GE109.out) | exact HB.out))); (case side4 => exact HC0_0.out); rintro e w21 ⟨rfl, hb⟩; have n0_ := am (blk_below (g := gb106) (o := .cells #[.slice (some ad108) l0_0.length c0_0] 36 (0, 0)) (by (with_reducible repeat (first | refine blk_drewN ?_ _ | refine blk_drew ?_ | refine blk_alloc ?_ _)); refine blk_far ?_ NB106_109.out _; (with_reducible repeat (first | refine blk_drewN ?_ _ | refine blk_drew ?_ | refine blk_alloc ?_ _)); refine blk_far ?_ NB106_109.out _; (with_reducible repeat (first | refine blk_drewN ?_ _ | refine blk_drew ?_ | refine blk_alloc ?_ _)); refine blk_far ?_ NB106_109.out _; (with_reducible repeat (first | refine blk_drewN ?_ _ | refine blk_drew ?_ | refine blk_alloc ?_ _)); exact BK106.out) hb); have n1_ := am (blk_below (g := gb109) (o := .cells #[.int .i64 ((rd_T58 l0_0 x27_2).f0), .int .i64 ((rd_T58 l0_0 x27_2).f1), .slice A108_2 ((rd_T58 l0_0 x27_2).f2).length c108_2] 58 (0, 0)) (by (with_reducible repeat (first | refine blk_drewN ?_ _ | refine blk_drew ?_ | refine blk_alloc ?_ _)); refine blk_put (cs := #[.int .i64 ((rd_T58 l0_0 x27_2).f0), .int .i64 ((rd_T58 l0_0 x27_2).f1), .slice none 0 0]) ?_ 2 _ rfl; (with_reducible repeat (first | refine blk_drewN ?_ _ | refine blk_drew ?_ | refine blk_alloc ?_ _)); refine blk_put (cs := #[.int .i64 ((rd_T58 l0_0 x27_2).f0), .int .i64 0, .slice none 0 0]) ?_ 1 _ rfl; (with_reducible repeat (first | refine blk_drewN ?_ _ | refine blk_drew ?_ | refine blk_alloc ?_ _)); refine blk_put (cs := #[.int .i64 0, .int .i64 0, .slice none 0 0]) ?_ 0 _ rfl; (with_reducible repeat (first | refine blk_drewN ?_ _ | refine blk_drew ?_ | refine blk_alloc ?_ _)); exact BK109.out) hb); have n2_ := am (below_step (by repeat (first | (with_reducible first | exact HB.out | apply below_alloc | apply pw_below_drewN | apply below_drew1 | refine below_set ?_ GE106.out | refine below_set ?_ GE109.out) | exact HB.out)) hb); clear BK106; clear BK109; clear HB; have BK106 := n0_; have BK109 := n1_; have HB := n2_; clear n0_ n1_ n2_; (try clear hb); (try clear hb2); (try clear hk); (try clear hi)))
      go_ret
      exact ⟨rfl, HB.out⟩
     replace c16 := Bool.eq_false_iff.mpr c16
     subst c16
     rw [if_neg (show ¬ (false = true) by decide)] at H
     have H' := am H
     clear H
     have p108 : 0 ≤ (x27_2 : Int) := odt ‹_›
     have q108 : x27_2 < (l0_0.length : Int) := odt ‹_›
     obtain ⟨ad108, A108_2, c108_2, e108, hx108_0, hx108_1, hx108_2, hl108_2, hi108_2⟩ := at_T58 HR0_0.out x27_2 p108 q108
     cases e108
     replace hx108_0 := (HB.out.cell (blc w _ hx108_0)).trans hx108_0
     replace hx108_1 := (HB.out.cell (blc w _ hx108_1)).trans hx108_1
     replace hx108_2 := (HB.out.cell (blc w _ hx108_2)).trans hx108_2
     have HR108_2 := am hi108_2
     have HC108_2 := am hl108_2
     clear hi108_2 hl108_2
     replace p108 := eq_true p108
     replace q108 := eq_true q108
     go_wp2_with (first | ((with_reducible refine gate_dst (N := 4) rfl ?_); (try (refine gate_guard (by rfl) ?_; dsimp only)); refine box_event ?hg (N := 4) ?hd (cs := #[.int .i64 0, .int .i64 0, .slice none 0 0]) (t := 58) ?hr ?_; (case hd => rfl); (case hg => rfl); (case hr => first | (go_simp; done) | (go_simp; rfl)); intro gb109 hg w22 hbox hb; have n0_ := am (blk_below (g := gb106) (o := .cells #[.slice (some ad108) l0_0.length c0_0] 36 (0, 0)) (BK106.out) hb); have n1_ := am (below_step (HB.out) hb); have n2_ := am (hbox); have n3_ := am ((by rw [hg]; exact (below_size (HB.out)) : w.heap.size ≤ gb109)); have n4_ := am ((by rw [hg]; exact (below_size (HB.out)) : w.heap.size ≤ gb109)); have n5_ := am ((by rw [hg]; exact Nat.ne_of_lt (blk_lt (g := gb106) (o := .cells #[.slice (some ad108) l0_0.length c0_0] 36 (0, 0)) (BK106.out)) : gb106 ≠ gb109)); have n6_ := am ((by rw [hg]; exact Nat.ne_of_gt (blk_lt (g := gb106) (o := .cells #[.slice (some ad108) l0_0.length c0_0] 36 (0, 0)) (BK106.out)) : gb109 ≠ gb106)); clear BK106; clear HB; have BK106 := n0_; have HB := n1_; have BK109 := n2_; have GW109 := n3_; have GE109 := n4_; have NB106_109 := n5_; have NB109_106 := n6_; clear n0_ n1_ n2_ n3_ n4_ n5_ n6_; clear hb hbox hg; have hnb23 := NB109_106.out; have hnc23 := NB106_109.out; have hcz24_0 : w22.cell? ⟨gb109, 0, none⟩ = some (.int .i64 0) := (blk_cell BK109.out 0).trans rfl; have hcz24_1 : w22.cell? ⟨gb109, 1, none⟩ = some (.int .i64 0) := (blk_cell BK109.out 1).trans rfl; have hcz24_2 : w22.cell? ⟨gb109, 2, none⟩ = some (.slice none 0 0) := (blk_cell BK109.out 2).trans rfl; have hfz24_0 := blk_frozen BK109.out 0; have hfz24_1 := blk_frozen BK109.out 1; have hfz24_2 := blk_frozen BK109.out 2; have hcz25_0 : w22.cell? ⟨gb106, 0, none⟩ = some (.slice (some ad108) l0_0.length c0_0) := (blk_cell BK106.out 0).trans rfl; have hfz25_0 := blk_frozen BK106.out 0) | (go_at_call 57; (refine (slices_ContainsFunc_int_int.calls gb106 _ _ ((rd_T58 l0_0 x27_2).f2) (some ad108) c0_0 l0_0 false _ ?side0 ?side1 ?side2 ?side3 ?side4 A15.out).mono ?_); (case side0 => exact (by (with_reducible repeat (first | refine blk_drewN ?_ _ | refine blk_drew ?_ | refine blk_alloc ?_ _)); refine blk_far ?_ NB106_109.out _; (with_reducible repeat (first | refine blk_drewN ?_ _ | refine blk_drew ?_ | refine blk_alloc ?_ _)); refine blk_far ?_ NB106_109.out _; (with_reducible repeat (first | refine blk_drewN ?_ _ | refine blk_drew ?_ | refine blk_alloc ?_ _)); refine blk_far ?_ NB106_109.out _; (with_reducible repeat (first | refine blk_drewN ?_ _ | refine blk_drew ?_ | refine blk_alloc ?_ _)); exact BK106.out)); (case side1 => exact Kd.C_below HR108_2.out (by repeat (first | (with_reducible first | exact HB.out | apply below_alloc | apply pw_below_drewN | apply below_drew1 | refine below_set ?_ GE106.out | refine below_set ?_ GE109.out) | exact HB.out))); (case side2 => exact HC108_2.out); (case side3 => exact Kd.C_below HR0_0.out (by repeat (first | (with_reducible first | exact HB.out | apply below_alloc | apply pw_below_drewN | apply below_drew1 | refine below_set ?_ GE106.out | refine below_set ?_ GE109.out) | exact HB.out))); (case side4 => exact HC0_0.out); rintro e w26 ⟨rfl, hb⟩; have n0_ := am (blk_below (g := gb106) (o := .cells #[.slice (some ad108) l0_0.length c0_0] 36 (0, 0)) (by (with_reducible repeat (first | refine blk_drewN ?_ _ | refine blk_drew ?_ | refine blk_alloc ?_ _)); refine blk_far ?_ NB106_109.out _; (with_reducible repeat (first | refine blk_drewN ?_ _ | refine blk_drew ?_ | refine blk_alloc ?_ _)); refine blk_far ?_ NB106_109.out _; (with_reducible repeat (first | refine blk_drewN ?_ _ | refine blk_drew ?_ | refine blk_alloc ?_ _)); refine blk_far ?_ NB106_109.out _; (with_reducible repeat (first | refine blk_drewN ?_ _ | refine blk_drew ?_ | refine blk_alloc ?_ _)); exact BK106.out) hb); have n1_ := am (blk_below (g := gb109) (o := .cells #[.int .i64 ((rd_T58 l0_0 x27_2).f0), .int .i64 ((rd_T58 l0_0 x27_2).f1), .slice A108_2 ((rd_T58 l0_0 x27_2).f2).length c108_2] 58 (0, 0)) (by (with_reducible repeat (first | refine blk_drewN ?_ _ | refine blk_drew ?_ | refine blk_alloc ?_ _)); refine blk_put (cs := #[.int .i64 ((rd_T58 l0_0 x27_2).f0), .int .i64 ((rd_T58 l0_0 x27_2).f1), .slice none 0 0]) ?_ 2 _ rfl; (with_reducible repeat (first | refine blk_drewN ?_ _ | refine blk_drew ?_ | refine blk_alloc ?_ _)); refine blk_put (cs := #[.int .i64 ((rd_T58 l0_0 x27_2).f0), .int .i64 0, .slice none 0 0]) ?_ 1 _ rfl; (with_reducible repeat (first | refine blk_drewN ?_ _ | refine blk_drew ?_ | refine blk_alloc ?_ _)); refine blk_put (cs := #[.int .i64 0, .int .i64 0, .slice none 0 0]) ?_ 0 _ rfl; (with_reducible repeat (first | refine blk_drewN ?_ _ | refine blk_drew ?_ | refine blk_alloc ?_ _)); exact BK109.out) hb); have n2_ := am (below_step (by repeat (first | (with_reducible first | exact HB.out | apply below_alloc | apply pw_below_drewN | apply below_drew1 | refine below_set ?_ GE106.out | refine below_set ?_ GE109.out) | exact HB.out)) hb); clear BK106; clear BK109; clear HB; have BK106 := n0_; have BK109 := n1_; have HB := n2_; clear n0_ n1_ n2_; (try clear hb); (try clear hb2); (try clear hk); (try clear hi)))
     go_roundg k2
     case measure => have := HJ1.out; have := HK2.out; omega
     case rel => exact ⟨(wrap64 (x27_2 + 1)), (rfl), H', ⟨by have := HJ1.out; have := HK2.out; omega⟩, ⟨BK106.out⟩, ⟨HB.out⟩⟩
mutual
def flow_Points.j0 : Nat → Int → Bool → List (S58) → Option (List Int)
 | 0, _, _, _ => none
 | k + 1, x1, x14, x112000 => if x14 = true then (some ([] : List Int)) else (flow_Points.l0 k x1 ([] : List Int) x112000 (x112000.length : Int) 0)
def flow_Points.l0 : Nat → Int → List Int → List (S58) → Int → Int → Option (List Int)
 | 0, _, _, _, _, _ => none
 | k + 1, x1, x5, x16, x17, x18 => if x18 < x17 then (if 0 ≤ x18 then (if x18 < (x16.length : Int) then (if ((rd_T58 x16 x18).f1) = x1 then (if x5.length < 17592186044416 then (flow_Points.l0 k x1 (x5 ++ [x18]) x16 x17 (wrap64 (x18 + 1))) else (none)) else (flow_Points.l0 k x1 x5 x16 x17 (wrap64 (x18 + 1)))) else (none)) else (none)) else (some x5)
end
def flow_Points.f (k : Nat) (l0_0 : List (S58)) (a1 : Int) : Option (List Int) := (flow_valid.f k l0_0).bind fun t112 => (if t112 = true then (flow_Points.j0 k a1 (decide (a1 < 0)) l0_0) else (flow_Points.j0 k a1 true l0_0))
set_option maxHeartbeats 8000000 in
set_option maxRecDepth 100000 in
theorem flow_Points.calls (k : Nat) (A0_0 : Option Addr) (c0_0 : Nat) (l0_0 : List (S58)) (a1 : Int) (r : List Int) (w : World) (hr0_0 : Kd.C k58 w A0_0 l0_0.length l0_0) (hc0_0 : l0_0.length ≤ c0_0) (h : flow_Points.f k l0_0 a1 = some r) :
 Calls Tryz.prog 14 #[.agg #[.slice A0_0 l0_0.length c0_0], .int .i64 a1] w fun e w' => ∃ v0_ : Value, e = .returned (v0_) ∧ Kd.R (Kd.int .i64) 3 w' w.heap.size (fun _ => True) v0_ r ∧ Below w.heap.size w w' := by
 have hu36 := Tryz.underlying36
 have hu58 := Tryz.underlying58
 have HR0_0 := am hr0_0
 have HC0_0 := am hc0_0
 clear hr0_0 hc0_0
 have HB := am (Below.refl w.heap.size w)
 have H : ((flow_valid.f k l0_0).bind fun t112 => (if t112 = true then (flow_Points.j0 k a1 (decide (a1 < 0)) l0_0) else (flow_Points.j0 k a1 true l0_0))) = some r := h
 clear h
 have HC3 := am H
 clear H
 go_enter Tryz.func14, Tryz.ntmps14
 go_upto_region 1 with (first | ((with_reducible refine gate_dst (N := 2) rfl ?_); refine box_event ?hg (N := 2) ?hd (cs := #[.slice A0_0 l0_0.length c0_0]) (t := 36) ?hr ?_; (case hd => rfl); (case hg => rfl); (case hr => first | (go_simp; done) | (go_simp; rfl)); intro gb111 hg w4 hbox hb; have n0_ := am (below_step (HB.out) hb); have n1_ := am (hbox); have n2_ := am ((by rw [hg]; exact (below_size (HB.out)) : w.heap.size ≤ gb111)); have n3_ := am ((by rw [hg]; exact (below_size (HB.out)) : w.heap.size ≤ gb111)); clear HB; have HB := n0_; have BK111 := n1_; have GW111 := n2_; have GE111 := n3_; clear n0_ n1_ n2_ n3_; clear hb hbox hg))
 (try simp only [Act.put, List.setIfInBounds_toArray, List.set_cons_zero, List.set_cons_succ])
 go_cut [14] (fun v14 wc => ∃ (kq : Nat) (x14_2 : Bool), v14 = .bool x14_2 ∧ Aside0 (flow_Points.j0 kq a1 x14_2 l0_0 = some r) ∧ Aside0 (kq ≤ k) ∧ Aside0 (wc.heap[gb111]? = some (.cells #[(.slice A0_0 l0_0.length c0_0)] 36 (0, 0))) ∧ Aside0 (Below w.heap.size w wc))
 case first =>
  have H := HC3.out
  clear HC3
  replace H := Option.bind_eq_some_iff.mp H
  obtain ⟨t112, A50, H⟩ := H
  try dsimp only at H
  have A5 := am A50
  clear A50
  by_cases c6 : t112 = true
  ·subst c6
   rw [if_pos rfl] at H
   have H' := am H
   clear H
   have hcz7_0 : w4.cell? ⟨gb111, 0, none⟩ = some (.slice A0_0 l0_0.length c0_0) := (blk_cell BK111.out 0).trans rfl
   have hfz7_0 := blk_frozen BK111.out 0
   go_wp2_with (first | ((with_reducible refine gate_callee (f := 41) rfl ?_); refine goesL_ (some 9) rfl rfl Tryz.func41 (by kernel_rfl) rfl #[.agg #[.slice A0_0 l0_0.length c0_0]] rfl (by (try simp only [List.map_toArray, List.map_cons, List.map_nil]); first | done | rfl | (simp only [List.length_drop, List.length_take]; rfl)) ?_; (with_reducible refine (flow_valid.calls k _ _ l0_0 true _ ?side1 ?side2 A5.out).mono ?_); (case side1 => repeat (first | exact (Kd.C_below HR0_0.out HB.out) | (with_reducible refine Kd.C_alloc ?_ _) | (with_reducible refine Kd.C_drewN ?_ _) | (with_reducible refine Kd.C_drew ?_))); (case side2 => exact HC0_0.out); rintro e w8 ⟨rfl, hb⟩; refine ⟨_, rfl, ?_⟩; have n0_ := am (blk_below (g := gb111) (o := .cells #[.slice A0_0 l0_0.length c0_0] 36 (0, 0)) (BK111.out) hb); have n1_ := am (below_step (HB.out) hb); clear BK111; clear HB; have BK111 := n0_; have HB := n1_; clear n0_ n1_; (try clear hb); (try clear hb2); (try clear hk); (try clear hi)))
   go_meet
   case rel => exact ⟨_, (decide (a1 < 0)), (rfl), H', ⟨by first | omega | exact Nat.le_refl _⟩, ⟨BK111.out⟩, ⟨HB.out⟩⟩
  replace c6 := Bool.eq_false_iff.mpr c6
  subst c6
  rw [if_neg (show ¬ (false = true) by decide)] at H
  have H' := am H
  clear H
  have hcz9_0 : w4.cell? ⟨gb111, 0, none⟩ = some (.slice A0_0 l0_0.length c0_0) := (blk_cell BK111.out 0).trans rfl
  have hfz9_0 := blk_frozen BK111.out 0
  go_wp2_with (first | ((with_reducible refine gate_callee (f := 41) rfl ?_); refine goesL_ (some 9) rfl rfl Tryz.func41 (by kernel_rfl) rfl #[.agg #[.slice A0_0 l0_0.length c0_0]] rfl (by (try simp only [List.map_toArray, List.map_cons, List.map_nil]); first | done | rfl | (simp only [List.length_drop, List.length_take]; rfl)) ?_; (with_reducible refine (flow_valid.calls k _ _ l0_0 false _ ?side1 ?side2 A5.out).mono ?_); (case side1 => repeat (first | exact (Kd.C_below HR0_0.out HB.out) | (with_reducible refine Kd.C_alloc ?_ _) | (with_reducible refine Kd.C_drewN ?_ _) | (with_reducible refine Kd.C_drew ?_))); (case side2 => exact HC0_0.out); rintro e w10 ⟨rfl, hb⟩; refine ⟨_, rfl, ?_⟩; have n0_ := am (blk_below (g := gb111) (o := .cells #[.slice A0_0 l0_0.length c0_0] 36 (0, 0)) (BK111.out) hb); have n1_ := am (below_step (HB.out) hb); clear BK111; clear HB; have BK111 := n0_; have HB := n1_; clear n0_ n1_; (try clear hb); (try clear hb2); (try clear hk); (try clear hi)))
  go_meet
  case rel => exact ⟨_, (true), (rfl), H', ⟨by first | omega | exact Nat.le_refl _⟩, ⟨BK111.out⟩, ⟨HB.out⟩⟩
 case rest =>
  clear HC3
  obtain ⟨kq, x14_2, rfl, HA, HJ2, BK111, HB⟩ := hcut
  cases kq with
  | zero => exact absurd HA.out (by simp [flow_Points.j0])
  | succ kj2 =>
   have H := HA.out
   clear HA
   simp only [flow_Points.j0] at H
   by_cases c11 : x14_2 = true
   ·subst c11
    rw [if_pos rfl] at H
    obtain rfl := Option.some.inj H
    go_wp2
    go_ret
    exact ⟨_, rfl, by first | exact Kd.R_nil _ _ _ _ _ | exact Kd.N_nil _ _ _ _ _ | exact Kd.V_nil _ _ _ _ _ | exact Kd.Q_nil _ _ _ _ _ | exact Kd.S_nil _ _ _ _ _, HB.out⟩
   replace c11 := Bool.eq_false_iff.mpr c11
   subst c11
   rw [if_neg (show ¬ (false = true) by decide)] at H
   have H' := am H
   clear H
   have hcz12_0 : wc.cell? ⟨gb111, 0, none⟩ = some (.slice A0_0 l0_0.length c0_0) := (blk_cell BK111.out 0).trans rfl
   have hfz12_0 := blk_frozen BK111.out 0
   go_wp2
   go_loopg [5, 18] kj2 (fun kq v5 v18 w' => ∃ (x5_2 : List Int) (x18_2 : Int), v18 = .int .i64 x18_2 ∧ Aside0 (flow_Points.l0 kq a1 x5_2 l0_0 (l0_0.length : Int) x18_2 = some r) ∧ Aside0 (kq ≤ kj2) ∧ Aside0 (Kd.R (Kd.int .i64) 3 w' w.heap.size (fun _ => True) v5 x5_2) ∧ Aside0 (w'.heap[gb111]? = some (.cells #[(.slice A0_0 l0_0.length c0_0)] 36 (0, 0))) ∧ Aside0 (Below w.heap.size w w'))
   case atStart => exact ⟨(([] : List Int)), (0), (rfl), H', ⟨Nat.le_refl _⟩, ⟨by first | exact Kd.R_nil _ _ _ _ _ | exact Kd.N_nil _ _ _ _ _ | exact Kd.V_nil _ _ _ _ _ | exact Kd.Q_nil _ _ _ _ _ | exact Kd.S_nil _ _ _ _ _⟩, ⟨BK111.out⟩, ⟨HB.out⟩⟩
   case round =>
    clear H'
    clear hcz12_0 hfz12_0
    obtain ⟨x5_2, x18_2, rfl, HA, HK2, HO_5, BK111, HB⟩ := hrel
    cases gk with
    | zero => exact absurd HA.out (by simp [flow_Points.l0])
    | succ k2 =>
     have H := HA.out
     clear HA
     simp only [flow_Points.l0] at H
     by_cases c13 : x18_2 < (l0_0.length : Int)
     rotate_left
     ·rw [if_neg c13] at H
      have c13b0 : decide (x18_2 < (l0_0.length : Int)) = false := decide_eq_false c13
      clear c13
      obtain rfl := Option.some.inj H
      go_wp2
      go_ret
      exact ⟨_, rfl, by (with_reducible repeat (first | apply Kd.R_alloc | apply Kd.R_drewN | apply Kd.R_drew)); exact HO_5.out, HB.out⟩
     rw [if_pos c13] at H
     have c13b0 : decide (x18_2 < (l0_0.length : Int)) = true := decide_eq_true c13
     clear c13
     by_cases c14 : 0 ≤ x18_2
     rotate_left
     ·rw [if_neg c14] at H
      exact absurd H (by simp)
     rw [if_pos c14] at H
     have c14b0 : decide (0 ≤ x18_2) = true := decide_eq_true c14
     clear c14
     by_cases c15 : x18_2 < (l0_0.length : Int)
     rotate_left
     ·rw [if_neg c15] at H
      exact absurd H (by simp)
     rw [if_pos c15] at H
     have c15b0 : decide (x18_2 < (l0_0.length : Int)) = true := decide_eq_true c15
     clear c15
     by_cases c16 : ((rd_T58 l0_0 x18_2).f1) = a1
     rotate_left
     ·rw [if_neg c16] at H
      have c16b0 : (((rd_T58 l0_0 x18_2).f1) == a1) = false := beq_eq_false_iff_ne.mpr c16
      have c16b1 : (((rd_T58 l0_0 x18_2).f1) != a1) = true := bne_iff_ne.mpr c16
      have H' := am H
      clear H
      have p113 : 0 ≤ (x18_2 : Int) := odt ‹_›
      have q113 : x18_2 < (l0_0.length : Int) := odt ‹_›
      obtain ⟨ad113, A113_2, c113_2, e113, hx113_0, hx113_1, hx113_2, hl113_2, hi113_2⟩ := at_T58 HR0_0.out x18_2 p113 q113
      cases e113
      replace hx113_0 := (HB.out.cell (blc w _ hx113_0)).trans hx113_0
      replace hx113_1 := (HB.out.cell (blc w _ hx113_1)).trans hx113_1
      replace hx113_2 := (HB.out.cell (blc w _ hx113_2)).trans hx113_2
      have HR113_2 := am hi113_2
      have HC113_2 := am hl113_2
      clear hi113_2 hl113_2
      replace p113 := eq_true p113
      replace q113 := eq_true q113
      go_wp2_with (first | ((with_reducible refine gate_dst (N := 7) rfl ?_); refine box_event ?hg (N := 7) ?hd (cs := #[.int .i64 0, .int .i64 0, .slice none 0 0]) (t := 58) ?hr ?_; (case hd => rfl); (case hg => rfl); (case hr => first | (go_simp; done) | (go_simp; rfl)); intro gb114 hg w22 hbox hb; have n0_ := am (Kd.R_below (HO_5.out) hb); have n1_ := am (blk_below (g := gb111) (o := .cells #[.slice (some ad113) l0_0.length c0_0] 36 (0, 0)) (BK111.out) hb); have n2_ := am (below_step (HB.out) hb); have n3_ := am (hbox); have n4_ := am ((by rw [hg]; exact (below_size (HB.out)) : w.heap.size ≤ gb114)); have n5_ := am ((by rw [hg]; exact (below_size (HB.out)) : w.heap.size ≤ gb114)); have n6_ := am ((by rw [hg]; exact Nat.ne_of_lt (blk_lt (g := gb111) (o := .cells #[.slice (some ad113) l0_0.length c0_0] 36 (0, 0)) (BK111.out)) : gb111 ≠ gb114)); have n7_ := am ((by rw [hg]; exact Nat.ne_of_gt (blk_lt (g := gb111) (o := .cells #[.slice (some ad113) l0_0.length c0_0] 36 (0, 0)) (BK111.out)) : gb114 ≠ gb111)); clear HO_5; clear BK111; clear HB; have HO_5 := n0_; have BK111 := n1_; have HB := n2_; have BK114 := n3_; have GW114 := n4_; have GE114 := n5_; have NB111_114 := n6_; have NB114_111 := n7_; clear n0_ n1_ n2_ n3_ n4_ n5_ n6_ n7_; clear hb hbox hg; have hnb23 := NB114_111.out; have hnc23 := NB111_114.out; have hcz24_0 : w22.cell? ⟨gb114, 0, none⟩ = some (.int .i64 0) := (blk_cell BK114.out 0).trans rfl; have hcz24_1 : w22.cell? ⟨gb114, 1, none⟩ = some (.int .i64 0) := (blk_cell BK114.out 1).trans rfl; have hcz24_2 : w22.cell? ⟨gb114, 2, none⟩ = some (.slice none 0 0) := (blk_cell BK114.out 2).trans rfl; have hfz24_0 := blk_frozen BK114.out 0; have hfz24_1 := blk_frozen BK114.out 1; have hfz24_2 := blk_frozen BK114.out 2))
      go_roundg k2
      case measure => have := HJ2.out; have := HK2.out; omega
      case rel => exact ⟨(x5_2), (wrap64 (x18_2 + 1)), (rfl), H', ⟨by have := HJ2.out; have := HK2.out; omega⟩, ⟨Kd.R_mono (Kd.R_far (p := ⟨gb114, 2, none⟩) (Kd.R_far (p := ⟨gb114, 1, none⟩) (Kd.R_far (p := ⟨gb114, 0, none⟩) (Kd.R_types HO_5.out BK114.out (by decide)) (fun _ hk => hk.2) (.int .i64 ((rd_T58 l0_0 x18_2).f0))) (fun _ hk => hk.2) (.int .i64 ((rd_T58 l0_0 x18_2).f1))) (fun _ hk => hk.2) (.slice A113_2 ((rd_T58 l0_0 x18_2).f2).length c113_2)) (fun _ hk => trivial)⟩, ⟨by (with_reducible repeat (first | refine blk_drewN ?_ _ | refine blk_drew ?_ | refine blk_alloc ?_ _)); refine blk_far ?_ NB111_114.out _; (with_reducible repeat (first | refine blk_drewN ?_ _ | refine blk_drew ?_ | refine blk_alloc ?_ _)); refine blk_far ?_ NB111_114.out _; (with_reducible repeat (first | refine blk_drewN ?_ _ | refine blk_drew ?_ | refine blk_alloc ?_ _)); refine blk_far ?_ NB111_114.out _; (with_reducible repeat (first | refine blk_drewN ?_ _ | refine blk_drew ?_ | refine blk_alloc ?_ _)); exact BK111.out⟩, ⟨by repeat (first | (with_reducible first | exact HB.out | apply below_alloc | apply pw_below_drewN | apply below_drew1 | refine below_set ?_ GE111.out | refine below_set ?_ GE114.out) | exact HB.out)⟩⟩
     rw [if_pos c16] at H
     have c16b0 : (((rd_T58 l0_0 x18_2).f1) == a1) = true := beq_iff_eq.mpr c16
     have c16b1 : (((rd_T58 l0_0 x18_2).f1) != a1) = false := bne_eq_false_iff_eq.mpr c16
     clear c16
     by_cases c17 : x5_2.length < 17592186044416
     rotate_left
     ·rw [if_neg c17] at H
      exact absurd H (by simp)
     rw [if_pos c17] at H
     have LMc17 := am c17
     clear c17
     obtain ⟨y115, hy115⟩ : ∃ y_ : List Int, y_ = (x5_2 ++ [x18_2]) := ⟨_, rfl⟩
     replace H : (flow_Points.l0 k2 a1 y115 l0_0 (l0_0.length : Int) (wrap64 (x18_2 + 1))) = some r := by rw [hy115]; exact H
     have Ny115 := am hy115
     clear hy115
     have H' := am H
     clear H
     have p113 : 0 ≤ (x18_2 : Int) := odt ‹_›
     have q113 : x18_2 < (l0_0.length : Int) := odt ‹_›
     obtain ⟨ad113, A113_2, c113_2, e113, hx113_0, hx113_1, hx113_2, hl113_2, hi113_2⟩ := at_T58 HR0_0.out x18_2 p113 q113
     cases e113
     replace hx113_0 := (HB.out.cell (blc w _ hx113_0)).trans hx113_0
     replace hx113_1 := (HB.out.cell (blc w _ hx113_1)).trans hx113_1
     replace hx113_2 := (HB.out.cell (blc w _ hx113_2)).trans hx113_2
     have HR113_2 := am hi113_2
     have HC113_2 := am hl113_2
     clear hi113_2 hl113_2
     replace p113 := eq_true p113
     replace q113 := eq_true q113
     go_wp2_with (first | ((with_reducible refine gate_dst (N := 7) rfl ?_); refine box_event ?hg (N := 7) ?hd (cs := #[.int .i64 0, .int .i64 0, .slice none 0 0]) (t := 58) ?hr ?_; (case hd => rfl); (case hg => rfl); (case hr => first | (go_simp; done) | (go_simp; rfl)); intro gb114 hg w18 hbox hb; have n0_ := am (Kd.R_below (HO_5.out) hb); have n1_ := am (blk_below (g := gb111) (o := .cells #[.slice (some ad113) l0_0.length c0_0] 36 (0, 0)) (BK111.out) hb); have n2_ := am (below_step (HB.out) hb); have n3_ := am (hbox); have n4_ := am ((by rw [hg]; exact (below_size (HB.out)) : w.heap.size ≤ gb114)); have n5_ := am ((by rw [hg]; exact (below_size (HB.out)) : w.heap.size ≤ gb114)); have n6_ := am ((by rw [hg]; exact Nat.ne_of_lt (blk_lt (g := gb111) (o := .cells #[.slice (some ad113) l0_0.length c0_0] 36 (0, 0)) (BK111.out)) : gb111 ≠ gb114)); have n7_ := am ((by rw [hg]; exact Nat.ne_of_gt (blk_lt (g := gb111) (o := .cells #[.slice (some ad113) l0_0.length c0_0] 36 (0, 0)) (BK111.out)) : gb114 ≠ gb111)); clear HO_5; clear BK111; clear HB; have HO_5 := n0_; have BK111 := n1_; have HB := n2_; have BK114 := n3_; have GW114 := n4_; have GE114 := n5_; have NB111_114 := n6_; have NB114_111 := n7_; clear n0_ n1_ n2_ n3_ n4_ n5_ n6_ n7_; clear hb hbox hg; have hnb19 := NB114_111.out; have hnc19 := NB111_114.out; have hcz20_0 : w18.cell? ⟨gb114, 0, none⟩ = some (.int .i64 0) := (blk_cell BK114.out 0).trans rfl; have hcz20_1 : w18.cell? ⟨gb114, 1, none⟩ = some (.int .i64 0) := (blk_cell BK114.out 1).trans rfl; have hcz20_2 : w18.cell? ⟨gb114, 2, none⟩ = some (.slice none 0 0) := (blk_cell BK114.out 2).trans rfl; have hfz20_0 := blk_frozen BK114.out 0; have hfz20_1 := blk_frozen BK114.out 1; have hfz20_2 := blk_frozen BK114.out 2) | ((with_reducible refine gate_builtin (b := .append) (xs := #[.tmp 27, .tmp 29]) rfl ?_); at_builtin; refine Kd.R_append (Kd.int .i64) (w0 := w) w.heap.size rfl (.tmp 27) (.tmp 29) 27 3 (.int .i64 0) 8 rfl Tryz.underlying27 info3 rfl (by decide) (by omega) u5 x5_2 x18_2 [.int .i64 x18_2] (fun _ => True) (fun _ => False) rfl (by first | (go_simp; done) | (go_simp; rfl)) ?aP (fun _ hk => hk.elim) ?aF ?aO ?aB ?aS ?aL ?_; (case aP => exact rfl); (case aB => exact (by repeat (first | (with_reducible first | exact HB.out | apply below_alloc | apply pw_below_drewN | apply below_drew1 | refine below_set ?_ GE111.out | refine below_set ?_ GE114.out) | exact HB.out))); (case aF => exact (fun _ _ => trivial)); (case aO => exact (Kd.R_mono (Kd.R_far (p := ⟨gb114, 2, none⟩) (Kd.R_far (p := ⟨gb114, 1, none⟩) (Kd.R_far (p := ⟨gb114, 0, none⟩) (Kd.R_types HO_5.out BK114.out (by decide)) (fun _ hk => hk.2) (.int .i64 ((rd_T58 l0_0 x18_2).f0))) (fun _ hk => hk.2) (.int .i64 ((rd_T58 l0_0 x18_2).f1))) (fun _ hk => hk.2) (.slice A113_2 ((rd_T58 l0_0 x18_2).f2).length c113_2)) (fun _ hk => trivial))); (case aS => exact (below_size (by repeat (first | (with_reducible first | exact HB.out | apply below_alloc | apply pw_below_drewN | apply below_drew1 | refine below_set ?_ GE111.out | refine below_set ?_ GE114.out) | exact HB.out)))); (case aL => have := LMc17.out; omega); intro v116 w21 ho hb hg hat; rw [← Ny115.out] at ho; have n0_ := am (blk_grown (g := gb111) (o := .cells #[.slice (some ad113) l0_0.length c0_0] 36 (0, 0)) (by (with_reducible repeat (first | refine blk_drewN ?_ _ | refine blk_drew ?_ | refine blk_alloc ?_ _)); refine blk_far ?_ NB111_114.out _; (with_reducible repeat (first | refine blk_drewN ?_ _ | refine blk_drew ?_ | refine blk_alloc ?_ _)); refine blk_far ?_ NB111_114.out _; (with_reducible repeat (first | refine blk_drewN ?_ _ | refine blk_drew ?_ | refine blk_alloc ?_ _)); refine blk_far ?_ NB111_114.out _; (with_reducible repeat (first | refine blk_drewN ?_ _ | refine blk_drew ?_ | refine blk_alloc ?_ _)); exact BK111.out) hg (Kd.R_ne HO_5.out BK111.out (by decide))); have n1_ := am (blk_grown (g := gb114) (o := .cells #[.int .i64 ((rd_T58 l0_0 x18_2).f0), .int .i64 ((rd_T58 l0_0 x18_2).f1), .slice A113_2 ((rd_T58 l0_0 x18_2).f2).length c113_2] 58 (0, 0)) (by (with_reducible repeat (first | refine blk_drewN ?_ _ | refine blk_drew ?_ | refine blk_alloc ?_ _)); refine blk_put (cs := #[.int .i64 ((rd_T58 l0_0 x18_2).f0), .int .i64 ((rd_T58 l0_0 x18_2).f1), .slice none 0 0]) ?_ 2 _ rfl; (with_reducible repeat (first | refine blk_drewN ?_ _ | refine blk_drew ?_ | refine blk_alloc ?_ _)); refine blk_put (cs := #[.int .i64 ((rd_T58 l0_0 x18_2).f0), .int .i64 0, .slice none 0 0]) ?_ 1 _ rfl; (with_reducible repeat (first | refine blk_drewN ?_ _ | refine blk_drew ?_ | refine blk_alloc ?_ _)); refine blk_put (cs := #[.int .i64 0, .int .i64 0, .slice none 0 0]) ?_ 0 _ rfl; (with_reducible repeat (first | refine blk_drewN ?_ _ | refine blk_drew ?_ | refine blk_alloc ?_ _)); exact BK114.out) hg (Kd.R_ne HO_5.out BK114.out (by decide))); have n2_ := am (hb); have n3_ := am (ho); clear BK111; clear BK114; clear HB; clear HO_5; have BK111 := n0_; have BK114 := n1_; have HB := n2_; have HO117 := n3_; clear n0_ n1_ n2_ n3_; clear ho hb hg hat))
     go_roundg k2
     case measure => have := HJ2.out; have := HK2.out; omega
     case rel => exact ⟨(y115), (wrap64 (x18_2 + 1)), (rfl), H', ⟨by have := HJ2.out; have := HK2.out; omega⟩, ⟨HO117.out⟩, ⟨BK111.out⟩, ⟨HB.out⟩⟩
end Go.Proofs.YtfcjeoihfphphaaGreatDoor.PFlow
end

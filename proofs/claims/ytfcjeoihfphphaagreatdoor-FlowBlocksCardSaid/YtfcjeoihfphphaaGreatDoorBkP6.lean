/- A part of the proof, written by programs of this seat and by hand: P6. -/
import Derived.Test.YtfcjeoihfphphaaGreatDoorBkP0
import Derived.Test.YtfcjeoihfphphaaGreatDoorBkP2
section
namespace Go.Proofs.YtfcjeoihfphphaaGreatDoor.PFlow
open Go.RowKit Go.Proofs.YtfcjeoihfphphaaGreatDoorW.PrintWords Go.Proofs.YtfcjeoihfphphaaGreatDoorW.PrintLast Go.Proofs.YtfcjeoihfphphaaGreatDoorW.PrintMore
attribute [local go_sem] max2_int min2_int max_two min_two max_three min_three max_four min_four   -- for this text's walks alone
set_option linter.unusedVariables false
set_option linter.unusedSimpArgs false
mutual
def q_Reach.l0 : Nat → Int → List Bool → List Int → List (S58) → Option (List Bool)
 | 0, _, _, _, _ => none
 | k + 1, x2, x7, x8, x204000 => if (x8.length : Int) > 0 then (if 0 < (x8.length : Int) then (if 0 ≤ (rd x8 0) then (if (rd x8 0) < (x204000.length : Int) then (if 1 ≤ (x8.length : Int) then (q_Reach.l1 k x2 x7 (x8.drop (1 : Int).toNat) ((rd_T58 x204000 (rd x8 0)).f2) 0 x204000) else (none)) else (none)) else (none)) else (none)) else (some x7)
def q_Reach.l1 : Nat → Int → List Bool → List Int → List Int → Int → List (S58) → Option (List Bool)
 | 0, _, _, _, _, _, _ => none
 | k + 1, x2, x7, x8, x9, x10, x204000 => if x10 < (x9.length : Int) then (if 0 ≤ x10 then (if (rd x9 x10) = x2 then (q_Reach.l1 k x2 x7 x8 x9 (wrap64 (x10 + 1)) x204000) else (if 0 ≤ (rd x9 x10) then (if (rd x9 x10) < (x7.length : Int) then (if (rdOf false x7 (rd x9 x10) = true) then (q_Reach.l1 k x2 x7 x8 x9 (wrap64 (x10 + 1)) x204000) else (if x8.length < 17592186044416 then (q_Reach.l1 k x2 (x7.set ((rd x9 x10) : Int).toNat true) (x8 ++ [rd x9 x10]) x9 (wrap64 (x10 + 1)) x204000) else (none))) else (none)) else (none))) else (none)) else (q_Reach.l0 k x2 x7 x8 x204000)
end
def q_Reach.f (k : Nat) (l0_0 : List (S58)) (a1 : Int) (a2 : Int) : Option (List Bool) := if 0 ≤ (l0_0.length : Int) then (if ((l0_0.length : Int) : Int).toNat ≤ 281474976710656 then ((some (List.replicate ((l0_0.length : Int) : Int).toNat false : List Bool)).bind fun y204 => (if a1 = a2 then (some y204) else (if 0 ≤ a1 then (if a1 < (y204.length : Int) then (q_Reach.l0 k a2 (y204.set (a1 : Int).toNat true) (([a1] : List Int)) l0_0) else (none)) else (none)))) else (none)) else (none)
def q_Reachable.f (k : Nat) (l0_0 : List (S58)) : Option (List Bool) := (q_Valid.f k l0_0).bind fun t226 => (if t226 = true then ((q_Reach.f k l0_0 0 (-1)).bind fun t227 => (some t227)) else (some (([] : List Bool))))
def flow_begins.f (a0 : Int) (l1 : List Int) (l2 : List Bool) : Option (Bool) := if a0 < 2 then (some true) else (if 0 ≤ a0 then (if a0 < (l1.length : Int) then (if (rd l1 a0) = 1 then (if a0 < (l2.length : Int) then (some (rdOf false l2 a0)) else (none)) else (some true)) else (none)) else (none))
set_option maxHeartbeats 8000000 in
set_option maxRecDepth 100000 in
theorem flow_begins.calls (g4 g5 : Nat) (a0 : Int) (A1 : Option Addr) (c1 : Nat) (l1 : List Int) (A2 : Option Addr) (c2 : Nat) (l2 : List Bool) (r : Bool) (w : World) (hg4 : w.heap[g4]? = some (.cells #[.slice A1 l1.length c1] 27 (0, 0))) (hg5 : w.heap[g5]? = some (.cells #[.slice A2 l2.length c2] 49 (0, 0))) (hr1 : Kd.C (Kd.int .i64) w A1 l1.length l1) (hc1 : l1.length ≤ c1) (hr2 : Kd.C Kd.bool w A2 l2.length l2) (hc2 : l2.length ≤ c2) (h : flow_begins.f a0 l1 l2 = some r) :
 Calls Tryz.prog 43 #[.int .i64 a0, .pointer (some ⟨g4, 0, none⟩), .pointer (some ⟨g5, 0, none⟩)] w fun e w' => e = .returned (.bool r) ∧ Drawn0 w w' := by
 have HR1 := am hr1
 have HC1 := am hc1
 clear hr1 hc1
 have HR2 := am hr2
 have HC2 := am hc2
 clear hr2 hc2
 have H : (if a0 < 2 then (some true) else (if 0 ≤ a0 then (if a0 < (l1.length : Int) then (if (rd l1 a0) = 1 then (if a0 < (l2.length : Int) then (some (rdOf false l2 a0)) else (none)) else (some true)) else (none)) else (none))) = some r := h
 clear h
 by_cases c4 : a0 < 2
 ·rw [if_pos c4] at H
  have c4b0 : decide (a0 < 2) = true := decide_eq_true c4
  clear c4
  obtain rfl := Option.some.inj H
  have hcz4 : w.cell? ⟨g4, 0, none⟩ = some _ := (blk_cell hg4 0).trans rfl
  have hcz5 : w.cell? ⟨g5, 0, none⟩ = some _ := (blk_cell hg5 0).trans rfl
  go_enter Tryz.func43, Tryz.ntmps43
  go_wp2
  go_ret
  exact ⟨rfl, by repeat (first | exact Drawn0.refl _ | apply Drawn0.step)⟩
 rw [if_neg c4] at H
 have c4b0 : decide (a0 < 2) = false := decide_eq_false c4
 clear c4
 by_cases c5 : 0 ≤ a0
 rotate_left
 ·rw [if_neg c5] at H
  exact absurd H (by simp)
 rw [if_pos c5] at H
 have c5b0 : decide (0 ≤ a0) = true := decide_eq_true c5
 clear c5
 by_cases c6 : a0 < (l1.length : Int)
 rotate_left
 ·rw [if_neg c6] at H
  exact absurd H (by simp)
 rw [if_pos c6] at H
 have c6b0 : decide (a0 < (l1.length : Int)) = true := decide_eq_true c6
 clear c6
 by_cases c7 : (rd l1 a0) = 1
 rotate_left
 ·rw [if_neg c7] at H
  have c7b0 : ((rd l1 a0) == 1) = false := beq_eq_false_iff_ne.mpr c7
  have c7b1 : ((rd l1 a0) != 1) = true := bne_iff_ne.mpr c7
  obtain rfl := Option.some.inj H
  have p233 : 0 ≤ (a0 : Int) := odt ‹_›
  have q233 : a0 < (l1.length : Int) := odt ‹_›
  obtain ⟨ad233, e233, hx233_0⟩ := Kd.at_int HR1.out a0 p233 q233
  cases e233
  replace p233 := eq_true p233
  replace q233 := eq_true q233
  have hcz4 : w.cell? ⟨g4, 0, none⟩ = some _ := (blk_cell hg4 0).trans rfl
  have hcz5 : w.cell? ⟨g5, 0, none⟩ = some _ := (blk_cell hg5 0).trans rfl
  go_enter Tryz.func43, Tryz.ntmps43
  go_wp2
  go_ret
  exact ⟨rfl, by repeat (first | exact Drawn0.refl _ | apply Drawn0.step)⟩
 rw [if_pos c7] at H
 have c7b0 : ((rd l1 a0) == 1) = true := beq_iff_eq.mpr c7
 have c7b1 : ((rd l1 a0) != 1) = false := bne_eq_false_iff_eq.mpr c7
 clear c7
 by_cases c8 : a0 < (l2.length : Int)
 rotate_left
 ·rw [if_neg c8] at H
  exact absurd H (by simp)
 rw [if_pos c8] at H
 have c8b0 : decide (a0 < (l2.length : Int)) = true := decide_eq_true c8
 clear c8
 obtain rfl := Option.some.inj H
 have p233 : 0 ≤ (a0 : Int) := odt ‹_›
 have q233 : a0 < (l1.length : Int) := odt ‹_›
 obtain ⟨ad233, e233, hx233_0⟩ := Kd.at_int HR1.out a0 p233 q233
 cases e233
 replace p233 := eq_true p233
 replace q233 := eq_true q233
 have p234 : 0 ≤ (a0 : Int) := odt ‹_›
 have q234 : a0 < (l2.length : Int) := odt ‹_›
 obtain ⟨ad234, e234, hx234_0⟩ := Kd.at_bool HR2.out a0 p234 q234
 cases e234
 replace p234 := eq_true p234
 replace q234 := eq_true q234
 have hcz4 : w.cell? ⟨g4, 0, none⟩ = some _ := (blk_cell hg4 0).trans rfl
 have hcz5 : w.cell? ⟨g5, 0, none⟩ = some _ := (blk_cell hg5 0).trans rfl
 go_enter Tryz.func43, Tryz.ntmps43
 go_wp2
 go_ret
 exact ⟨rfl, by repeat (first | exact Drawn0.refl _ | apply Drawn0.step)⟩
end Go.Proofs.YtfcjeoihfphphaaGreatDoor.PFlow
end

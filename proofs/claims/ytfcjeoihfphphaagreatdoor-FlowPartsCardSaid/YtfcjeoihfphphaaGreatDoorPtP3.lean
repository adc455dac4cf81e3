/- A part of the proof, written by programs of this seat and by hand: P3. -/
import Derived.Test.YtfcjeoihfphphaaGreatDoorPtP0
set_option linter.unusedVariables false
set_option linter.unusedSimpArgs false
section
namespace Go.Proofs.YtfcjeoihfphphaaGreatDoor.PFlow
open Go.RowKit Go.Proofs.YtfcjeoihfphphaaGreatDoorW.PrintWords Go.Proofs.YtfcjeoihfphphaaGreatDoorW.PrintLast Go.Proofs.YtfcjeoihfphphaaGreatDoorW.PrintMore
attribute [local go_sem] max2_int min2_int max_two min_two max_three min_three max_four min_four   -- for this text's walks alone
set_option linter.unusedVariables false
set_option linter.unusedSimpArgs false
mutual
def q_Lists.l0 : Nat → List (List Int) → List (List Int) → Int → Option (Bool)
 | 0, _, _, _ => none
 | k + 1, x0, x1, x5 => if x5 < (x0.length : Int) then (if 0 ≤ x5 then (if x5 < (x1.length : Int) then (if ((rd_L1 x0 x5).length : Int) = ((rd_L1 x1 x5).length : Int) then (q_Lists.l1 k x0 x1 x5 0) else (some false)) else (none)) else (none)) else (some true)
def q_Lists.l1 : Nat → List (List Int) → List (List Int) → Int → Int → Option (Bool)
 | 0, _, _, _, _ => none
 | k + 1, x0, x1, x5, x6 => if 0 ≤ x5 then (if x5 < (x0.length : Int) then (if x6 < ((rd_L1 x0 x5).length : Int) then (if 0 ≤ x6 then (if x5 < (x1.length : Int) then (if x6 < ((rd_L1 x1 x5).length : Int) then (if (rd (rd_L1 x0 x5) x6) = (rd (rd_L1 x1 x5) x6) then (q_Lists.l1 k x0 x1 x5 (wrap64 (x6 + 1))) else (some false)) else (none)) else (none)) else (none)) else (q_Lists.l0 k x0 x1 (wrap64 (x5 + 1)))) else (none)) else (none)
end
def q_Lists.f (k : Nat) (l0 : List (List Int)) (l1 : List (List Int)) : Option (Bool) := if (l0.length : Int) = (l1.length : Int) then (q_Lists.l0 k l0 l1 0) else (some false)
set_option maxHeartbeats 8000000 in
set_option maxRecDepth 100000 in
theorem q_Lists.calls (k : Nat) (A0 : Option Addr) (c0 : Nat) (l0 : List (List Int)) (A1 : Option Addr) (c1 : Nat) (l1 : List (List Int)) (r : Bool) (w : World) (hr0 : Kd.C (Kd.slice 3 (Kd.int .i64)) w A0 l0.length l0) (hc0 : l0.length ≤ c0) (hr1 : Kd.C (Kd.slice 3 (Kd.int .i64)) w A1 l1.length l1) (hc1 : l1.length ≤ c1) (h : q_Lists.f k l0 l1 = some r) :
 Calls Tryz.prog 16 #[.slice A0 l0.length c0, .slice A1 l1.length c1] w fun e w' => e = .returned (.bool r) ∧ Drawn0 w w' := by
 have HR0 := am hr0
 have HC0 := am hc0
 clear hr0 hc0
 have HR1 := am hr1
 have HC1 := am hc1
 clear hr1 hc1
 have H : (if (l0.length : Int) = (l1.length : Int) then (q_Lists.l0 k l0 l1 0) else (some false)) = some r := h
 clear h
 by_cases c3 : (l0.length : Int) = (l1.length : Int)
 rotate_left
 ·rw [if_neg c3] at H
  have c3b0 : ((l0.length : Int) == (l1.length : Int)) = false := beq_eq_false_iff_ne.mpr c3
  have c3b1 : ((l0.length : Int) != (l1.length : Int)) = true := bne_iff_ne.mpr c3
  have c3b2 : (l0.length == l1.length) = false := by first | simpa using c3 | (simp at c3 ⊢; omega)
  obtain rfl := Option.some.inj H
  go_enter Tryz.func16, Tryz.ntmps16
  go_wp2
  repeat (go_quiet (fail); try go_wp2)
  go_ret
  exact ⟨rfl, by repeat (first | exact Drawn0.refl _ | apply Drawn0.step)⟩
 rw [if_pos c3] at H
 have c3b0 : ((l0.length : Int) == (l1.length : Int)) = true := beq_iff_eq.mpr c3
 have c3b1 : ((l0.length : Int) != (l1.length : Int)) = false := bne_eq_false_iff_eq.mpr c3
 have c3b2 : (l0.length == l1.length) = true := by first | simpa using c3 | (simp at c3 ⊢; omega)
 clear c3
 have H' := am H
 clear H
 go_enter Tryz.func16, Tryz.ntmps16
 go_wp2
 repeat (go_quiet (fail); try go_wp2)
 go_loopg [5] k (fun kq v5 w' => ∃ (x5_1 : Int), v5 = .int .i64 x5_1 ∧ Aside0 (q_Lists.l0 kq l0 l1 x5_1 = some r) ∧ Aside0 (kq ≤ k) ∧ Drawn0 w w')
 case atStart => exact ⟨(0), (rfl), H', ⟨Nat.le_refl _⟩, by repeat (first | exact Drawn0.refl _ | apply Drawn0.step)⟩
 case round =>
  clear H'
  clear c3b0 c3b1 c3b2
  obtain ⟨x5_1, rfl, HA, HK1, ⟨m1, rfl⟩⟩ := hrel
  cases gk with
  | zero => exact absurd HA.out (by simp [q_Lists.l0])
  | succ k1 =>
   have H := HA.out
   clear HA
   simp only [q_Lists.l0] at H
   by_cases c4 : x5_1 < (l0.length : Int)
   rotate_left
   ·rw [if_neg c4] at H
    have c4b0 : decide (x5_1 < (l0.length : Int)) = false := decide_eq_false c4
    clear c4
    obtain rfl := Option.some.inj H
    go_wp2
    repeat (go_quiet (fail); try go_wp2)
    go_ret
    exact ⟨rfl, by repeat (first | exact Drawn0.refl _ | apply Drawn0.step)⟩
   rw [if_pos c4] at H
   have c4b0 : decide (x5_1 < (l0.length : Int)) = true := decide_eq_true c4
   clear c4
   by_cases c5 : 0 ≤ x5_1
   rotate_left
   ·rw [if_neg c5] at H
    exact absurd H (by simp)
   rw [if_pos c5] at H
   have c5b0 : decide (0 ≤ x5_1) = true := decide_eq_true c5
   clear c5
   by_cases c6 : x5_1 < (l1.length : Int)
   rotate_left
   ·rw [if_neg c6] at H
    exact absurd H (by simp)
   rw [if_pos c6] at H
   have c6b0 : decide (x5_1 < (l1.length : Int)) = true := decide_eq_true c6
   clear c6
   by_cases c7 : ((rd_L1 l0 x5_1).length : Int) = ((rd_L1 l1 x5_1).length : Int)
   rotate_left
   ·rw [if_neg c7] at H
    have c7b0 : (((rd_L1 l0 x5_1).length : Int) == ((rd_L1 l1 x5_1).length : Int)) = false := beq_eq_false_iff_ne.mpr c7
    have c7b1 : (((rd_L1 l0 x5_1).length : Int) != ((rd_L1 l1 x5_1).length : Int)) = true := bne_iff_ne.mpr c7
    have c7b2 : ((rd_L1 l0 x5_1).length == (rd_L1 l1 x5_1).length) = false := by first | simpa using c7 | (simp at c7 ⊢; omega)
    obtain rfl := Option.some.inj H
    have p134 : 0 ≤ (x5_1 : Int) := odt ‹_›
    have q134 : x5_1 < (l0.length : Int) := odt ‹_›
    obtain ⟨ad134, A134_0, c134_0, e134, hx134_0, hl134_0, hi134_0⟩ := at_L1 HR0.out x5_1 p134 q134
    cases e134
    have HR134_0 := am hi134_0
    have HC134_0 := am hl134_0
    clear hi134_0 hl134_0
    replace p134 := eq_true p134
    replace q134 := eq_true q134
    have p135 : 0 ≤ (x5_1 : Int) := odt ‹_›
    have q135 : x5_1 < (l1.length : Int) := odt ‹_›
    obtain ⟨ad135, A135_0, c135_0, e135, hx135_0, hl135_0, hi135_0⟩ := at_L1 HR1.out x5_1 p135 q135
    cases e135
    have HR135_0 := am hi135_0
    have HC135_0 := am hl135_0
    clear hi135_0 hl135_0
    replace p135 := eq_true p135
    replace q135 := eq_true q135
    go_wp2
    repeat (go_quiet (fail); try go_wp2)
    go_ret
    exact ⟨rfl, by repeat (first | exact Drawn0.refl _ | apply Drawn0.step)⟩
   rw [if_pos c7] at H
   have c7b0 : (((rd_L1 l0 x5_1).length : Int) == ((rd_L1 l1 x5_1).length : Int)) = true := beq_iff_eq.mpr c7
   have c7b1 : (((rd_L1 l0 x5_1).length : Int) != ((rd_L1 l1 x5_1).length : Int)) = false := bne_eq_false_iff_eq.mpr c7
   have c7b2 : ((rd_L1 l0 x5_1).length == (rd_L1 l1 x5_1).length) = true := by first | simpa using c7 | (simp at c7 ⊢; omega)
   clear c7
   have H' := am H
   clear H
   have p134 : 0 ≤ (x5_1 : Int) := odt ‹_›
   have q134 : x5_1 < (l0.length : Int) := odt ‹_›
   obtain ⟨ad134, A134_0, c134_0, e134, hx134_0, hl134_0, hi134_0⟩ := at_L1 HR0.out x5_1 p134 q134
   cases e134
   have HR134_0 := am hi134_0
   have HC134_0 := am hl134_0
   clear hi134_0 hl134_0
   replace p134 := eq_true p134
   replace q134 := eq_true q134
   have p135 : 0 ≤ (x5_1 : Int) := odt ‹_›
   have q135 : x5_1 < (l1.length : Int) := odt ‹_›
   obtain ⟨ad135, A135_0, c135_0, e135, hx135_0, hl135_0, hi135_0⟩ := at_L1 HR1.out x5_1 p135 q135
   cases e135
   have HR135_0 := am hi135_0
   have HC135_0 := am hl135_0
   clear hi135_0 hl135_0
   replace p135 := eq_true p135
   replace q135 := eq_true q135
   go_wp2
   repeat (go_quiet (fail); try go_wp2)
   go_loopg [6] k1 (fun kq v6 w' => ∃ (x6_2 : Int), v6 = .int .i64 x6_2 ∧ Aside0 (q_Lists.l1 kq l0 l1 x5_1 x6_2 = some r) ∧ Aside0 (kq ≤ k1) ∧ Drawn0 w w')
   case atStart => exact ⟨(0), (rfl), H', ⟨Nat.le_refl _⟩, by repeat (first | exact Drawn0.refl _ | apply Drawn0.step)⟩
   case round =>
    clear H'
    clear c4b0 c5b0 c6b0 c7b0 c7b1 c7b2 hx134_0 hx135_0 p134 p135 q134 q135
    obtain ⟨x6_2, rfl, HA, HK2, ⟨m2, rfl⟩⟩ := hrel
    cases gk with
    | zero => exact absurd HA.out (by simp [q_Lists.l1])
    | succ k2 =>
     have H := HA.out
     clear HA
     simp only [q_Lists.l1] at H
     by_cases c8 : 0 ≤ x5_1
     rotate_left
     ·rw [if_neg c8] at H
      exact absurd H (by simp)
     rw [if_pos c8] at H
     have c8b0 : decide (0 ≤ x5_1) = true := decide_eq_true c8
     clear c8
     by_cases c9 : x5_1 < (l0.length : Int)
     rotate_left
     ·rw [if_neg c9] at H
      exact absurd H (by simp)
     rw [if_pos c9] at H
     have c9b0 : decide (x5_1 < (l0.length : Int)) = true := decide_eq_true c9
     clear c9
     by_cases c10 : x6_2 < ((rd_L1 l0 x5_1).length : Int)
     rotate_left
     ·rw [if_neg c10] at H
      have c10b0 : decide (x6_2 < ((rd_L1 l0 x5_1).length : Int)) = false := decide_eq_false c10
      clear c10
      have H' := am H
      clear H
      have p136 : 0 ≤ (x5_1 : Int) := odt ‹_›
      have q136 : x5_1 < (l0.length : Int) := odt ‹_›
      obtain ⟨ad136, A136_0, c136_0, e136, hx136_0, hl136_0, hi136_0⟩ := at_L1 HR0.out x5_1 p136 q136
      obtain rfl : ad134 = ad136 := (by injection e136)
      have HR136_0 := am hi136_0
      have HC136_0 := am hl136_0
      clear hi136_0 hl136_0
      replace p136 := eq_true p136
      replace q136 := eq_true q136
      go_wp2
      repeat (go_quiet (fail); try go_wp2)
      go_roundg k2
      case measure => have := HK1.out; have := HK2.out; omega
      case rel => exact ⟨(wrap64 (x5_1 + 1)), (rfl), H', ⟨by have := HK1.out; have := HK2.out; omega⟩, by repeat (first | exact Drawn0.refl _ | apply Drawn0.step)⟩
     rw [if_pos c10] at H
     have c10b0 : decide (x6_2 < ((rd_L1 l0 x5_1).length : Int)) = true := decide_eq_true c10
     clear c10
     by_cases c11 : 0 ≤ x6_2
     rotate_left
     ·rw [if_neg c11] at H
      exact absurd H (by simp)
     rw [if_pos c11] at H
     have c11b0 : decide (0 ≤ x6_2) = true := decide_eq_true c11
     clear c11
     by_cases c12 : x5_1 < (l1.length : Int)
     rotate_left
     ·rw [if_neg c12] at H
      exact absurd H (by simp)
     rw [if_pos c12] at H
     have c12b0 : decide (x5_1 < (l1.length : Int)) = true := decide_eq_true c12
     clear c12
     by_cases c13 : x6_2 < ((rd_L1 l1 x5_1).length : Int)
     rotate_left
     ·rw [if_neg c13] at H
      exact absurd H (by simp)
     rw [if_pos c13] at H
     have c13b0 : decide (x6_2 < ((rd_L1 l1 x5_1).length : Int)) = true := decide_eq_true c13
     clear c13
     by_cases c14 : (rd (rd_L1 l0 x5_1) x6_2) = (rd (rd_L1 l1 x5_1) x6_2)
     rotate_left
     ·rw [if_neg c14] at H
      have c14b0 : ((rd (rd_L1 l0 x5_1) x6_2) == (rd (rd_L1 l1 x5_1) x6_2)) = false := beq_eq_false_iff_ne.mpr c14
      have c14b1 : ((rd (rd_L1 l0 x5_1) x6_2) != (rd (rd_L1 l1 x5_1) x6_2)) = true := bne_iff_ne.mpr c14
      obtain rfl := Option.some.inj H
      have p136 : 0 ≤ (x5_1 : Int) := odt ‹_›
      have q136 : x5_1 < (l0.length : Int) := odt ‹_›
      obtain ⟨ad136, A136_0, c136_0, e136, hx136_0, hl136_0, hi136_0⟩ := at_L1 HR0.out x5_1 p136 q136
      obtain rfl : ad134 = ad136 := (by injection e136)
      have HR136_0 := am hi136_0
      have HC136_0 := am hl136_0
      clear hi136_0 hl136_0
      replace p136 := eq_true p136
      replace q136 := eq_true q136
      have p137 : 0 ≤ (x5_1 : Int) := odt ‹_›
      have q137 : x5_1 < (l0.length : Int) := odt ‹_›
      obtain ⟨ad137, A137_0, c137_0, e137, hx137_0, hl137_0, hi137_0⟩ := at_L1 HR0.out x5_1 p137 q137
      obtain rfl : ad134 = ad137 := (by injection e137)
      have HR137_0 := am hi137_0
      have HC137_0 := am hl137_0
      clear hi137_0 hl137_0
      replace p137 := eq_true p137
      replace q137 := eq_true q137
      have ea_ := Option.some.inj (hx136_0.symm.trans hx137_0)
      injection ea_ with ea_ en_ ec_
      subst ea_
      subst ec_
      clear en_
      have p138 : 0 ≤ (x6_2 : Int) := odt ‹_›
      have q138 : x6_2 < ((rd_L1 l0 x5_1).length : Int) := odt ‹_›
      obtain ⟨ad138, e138, hx138_0⟩ := Kd.at_int HR137_0.out x6_2 p138 q138
      cases e138
      replace p138 := eq_true p138
      replace q138 := eq_true q138
      have p139 : 0 ≤ (x5_1 : Int) := odt ‹_›
      have q139 : x5_1 < (l1.length : Int) := odt ‹_›
      obtain ⟨ad139, A139_0, c139_0, e139, hx139_0, hl139_0, hi139_0⟩ := at_L1 HR1.out x5_1 p139 q139
      obtain rfl : ad135 = ad139 := (by injection e139)
      have HR139_0 := am hi139_0
      have HC139_0 := am hl139_0
      clear hi139_0 hl139_0
      replace p139 := eq_true p139
      replace q139 := eq_true q139
      have p140 : 0 ≤ (x6_2 : Int) := odt ‹_›
      have q140 : x6_2 < ((rd_L1 l1 x5_1).length : Int) := odt ‹_›
      obtain ⟨ad140, e140, hx140_0⟩ := Kd.at_int HR139_0.out x6_2 p140 q140
      cases e140
      replace p140 := eq_true p140
      replace q140 := eq_true q140
      go_wp2
      repeat (go_quiet (fail); try go_wp2)
      go_ret
      exact ⟨rfl, by repeat (first | exact Drawn0.refl _ | apply Drawn0.step)⟩
     rw [if_pos c14] at H
     have c14b0 : ((rd (rd_L1 l0 x5_1) x6_2) == (rd (rd_L1 l1 x5_1) x6_2)) = true := beq_iff_eq.mpr c14
     have c14b1 : ((rd (rd_L1 l0 x5_1) x6_2) != (rd (rd_L1 l1 x5_1) x6_2)) = false := bne_eq_false_iff_eq.mpr c14
     clear c14
     have H' := am H
     clear H
     have p136 : 0 ≤ (x5_1 : Int) := odt ‹_›
     have q136 : x5_1 < (l0.length : Int) := odt ‹_›
     obtain ⟨ad136, A136_0, c136_0, e136, hx136_0, hl136_0, hi136_0⟩ := at_L1 HR0.out x5_1 p136 q136
     obtain rfl : ad134 = ad136 := (by injection e136)
     have HR136_0 := am hi136_0
     have HC136_0 := am hl136_0
     clear hi136_0 hl136_0
     replace p136 := eq_true p136
     replace q136 := eq_true q136
     have p137 : 0 ≤ (x5_1 : Int) := odt ‹_›
     have q137 : x5_1 < (l0.length : Int) := odt ‹_›
     obtain ⟨ad137, A137_0, c137_0, e137, hx137_0, hl137_0, hi137_0⟩ := at_L1 HR0.out x5_1 p137 q137
     obtain rfl : ad134 = ad137 := (by injection e137)
     have HR137_0 := am hi137_0
     have HC137_0 := am hl137_0
     clear hi137_0 hl137_0
     replace p137 := eq_true p137
     replace q137 := eq_true q137
     have ea_ := Option.some.inj (hx136_0.symm.trans hx137_0)
     injection ea_ with ea_ en_ ec_
     subst ea_
     subst ec_
     clear en_
     have p138 : 0 ≤ (x6_2 : Int) := odt ‹_›
     have q138 : x6_2 < ((rd_L1 l0 x5_1).length : Int) := odt ‹_›
     obtain ⟨ad138, e138, hx138_0⟩ := Kd.at_int HR137_0.out x6_2 p138 q138
     cases e138
     replace p138 := eq_true p138
     replace q138 := eq_true q138
     have p139 : 0 ≤ (x5_1 : Int) := odt ‹_›
     have q139 : x5_1 < (l1.length : Int) := odt ‹_›
     obtain ⟨ad139, A139_0, c139_0, e139, hx139_0, hl139_0, hi139_0⟩ := at_L1 HR1.out x5_1 p139 q139
     obtain rfl : ad135 = ad139 := (by injection e139)
     have HR139_0 := am hi139_0
     have HC139_0 := am hl139_0
     clear hi139_0 hl139_0
     replace p139 := eq_true p139
     replace q139 := eq_true q139
     have p140 : 0 ≤ (x6_2 : Int) := odt ‹_›
     have q140 : x6_2 < ((rd_L1 l1 x5_1).length : Int) := odt ‹_›
     obtain ⟨ad140, e140, hx140_0⟩ := Kd.at_int HR139_0.out x6_2 p140 q140
     cases e140
     replace p140 := eq_true p140
     replace q140 := eq_true q140
     go_wp2
     repeat (go_quiet (fail); try go_wp2)
     go_roundg k2
     case measure => have := HK1.out; have := HK2.out; omega
     case rel => exact ⟨(wrap64 (x6_2 + 1)), (rfl), H', ⟨by have := HK1.out; have := HK2.out; omega⟩, by repeat (first | exact Drawn0.refl _ | apply Drawn0.step)⟩
end Go.Proofs.YtfcjeoihfphphaaGreatDoor.PFlow
end

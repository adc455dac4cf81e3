/- A part of the proof, written by programs of this seat and by hand: P9. -/
import Derived.Test.YtfcjeoihfphphaaGreatDoorBkP0
import Derived.Test.YtfcjeoihfphphaaGreatDoorBkP2
import Derived.Test.YtfcjeoihfphphaaGreatDoorBkP8
section
namespace Go.Proofs.YtfcjeoihfphphaaGreatDoor.PFlow
open Go.RowKit Go.Proofs.YtfcjeoihfphphaaGreatDoorW.PrintWords Go.Proofs.YtfcjeoihfphphaaGreatDoorW.PrintLast Go.Proofs.YtfcjeoihfphphaaGreatDoorW.PrintMore
attribute [local go_sem] max2_int min2_int max_two min_two max_three min_three max_four min_four   -- for this text's walks alone
set_option linter.unusedVariables false
set_option linter.unusedSimpArgs false
mutual
def q_Blocks.l0 : Nat → List (List Int) → Int → List (S58) → Option ((List (List Int)))
 | 0, _, _, _ => none
 | k + 1, x3, x4, x285000 => if x4 < (x285000.length : Int) then ((q_begins.f k x285000 x4).bind fun t289 => (if t289 = true then (q_Blocks.l1 k x3 x4 (([x4] : List Int)) x4 x285000) else (q_Blocks.l0 k x3 (wrap64 (x4 + 1)) x285000))) else (some x3)
def q_Blocks.l1 : Nat → List (List Int) → Int → List Int → Int → List (S58) → Option ((List (List Int)))
 | 0, _, _, _, _, _ => none
 | k + 1, x3, x4, x5, x6, x285000 => if 0 ≤ x6 then (if x6 < (x285000.length : Int) then (if (((rd_T58 x285000 x6).f2).length : Int) = 1 then (if 0 < (((rd_T58 x285000 x6).f2).length : Int) then ((q_begins.f k x285000 (rd ((rd_T58 x285000 x6).f2) 0)).bind fun t296 => (if t296 = true then (if x3.length < 5864062014805 then (q_Blocks.l0 k (x3 ++ [x5]) (wrap64 (x4 + 1)) x285000) else (none)) else (if x5.length < 17592186044416 then ((some (x5 ++ [rd ((rd_T58 x285000 x6).f2) 0] : List Int)).bind fun y302 => (if 0 ≤ (wrap64 ((y302.length : Int) - 1)) then (if (wrap64 ((y302.length : Int) - 1)) < (y302.length : Int) then (q_Blocks.l1 k x3 x4 y302 (rd y302 (wrap64 ((y302.length : Int) - 1))) x285000) else (none)) else (none))) else (none)))) else (none)) else (if x3.length < 5864062014805 then (q_Blocks.l0 k (x3 ++ [x5]) (wrap64 (x4 + 1)) x285000) else (none))) else (none)) else (none)
end
def q_Blocks.f (k : Nat) (l0_0 : List (S58)) : Option ((List (List Int))) := (some (([] : List (List Int)) : List (List Int))).bind fun y285 => ((q_Valid.f k l0_0).bind fun t288 => (if t288 = true then (q_Blocks.l0 k y285 0 l0_0) else (some y285)))
end Go.Proofs.YtfcjeoihfphphaaGreatDoor.PFlow
end

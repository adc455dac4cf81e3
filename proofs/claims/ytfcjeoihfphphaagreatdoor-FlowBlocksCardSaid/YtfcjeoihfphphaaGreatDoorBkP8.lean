/- A part of the proof, written by programs of this seat and by hand: P8. -/
import Derived.Test.YtfcjeoihfphphaaGreatDoorBkP0
import Derived.Test.YtfcjeoihfphphaaGreatDoorBkP4
import Derived.Test.YtfcjeoihfphphaaGreatDoorBkP6
section
namespace Go.Proofs.YtfcjeoihfphphaaGreatDoor.PFlow
open Go.RowKit Go.Proofs.YtfcjeoihfphphaaGreatDoorW.PrintWords Go.Proofs.YtfcjeoihfphphaaGreatDoorW.PrintLast Go.Proofs.YtfcjeoihfphphaaGreatDoorW.PrintMore
attribute [local go_sem] max2_int min2_int max_two min_two max_three min_three max_four min_four   -- for this text's walks alone
set_option linter.unusedVariables false
set_option linter.unusedSimpArgs false
def q_begins.l0 : Nat → Int → List Bool → Int → Bool → Int → List (S58) → Option (Bool)
 | 0, _, _, _, _, _, _ => none
 | k + 1, x1, x5, x6, x7, x8, x276000 => if x8 < (x276000.length : Int) then (if 0 ≤ x8 then (if x8 < (x5.length : Int) then (if rdOf false x5 x8 = true then ((q_to.f k x276000 x8 x1).bind fun t281 => (if x7 = true then (q_begins.l0 k x1 x5 (wrap64 (x6 + t281)) true (wrap64 (x8 + 1)) x276000) else ((q_to.f k x276000 x8 x1).bind fun t282 => (if t282 > 0 then (q_begins.l0 k x1 x5 (wrap64 (x6 + t281)) (decide ((((rd_T58 x276000 x8).f2).length : Int) > 1)) (wrap64 (x8 + 1)) x276000) else (q_begins.l0 k x1 x5 (wrap64 (x6 + t281)) false (wrap64 (x8 + 1)) x276000))))) else (q_begins.l0 k x1 x5 x6 x7 (wrap64 (x8 + 1)) x276000)) else (none)) else (none)) else (if x1 < 2 then (some true) else (if x6 = 1 then (some x7) else (some true)))
def q_begins.f (k : Nat) (l0_0 : List (S58)) (a1 : Int) : Option (Bool) := (q_Reachable.f k l0_0).bind fun t276 => (if 0 ≤ a1 then (if a1 < (t276.length : Int) then (if rdOf false t276 a1 = true then (q_begins.l0 k a1 t276 0 false 0 l0_0) else (some false)) else (none)) else (none))
end Go.Proofs.YtfcjeoihfphphaaGreatDoor.PFlow
end

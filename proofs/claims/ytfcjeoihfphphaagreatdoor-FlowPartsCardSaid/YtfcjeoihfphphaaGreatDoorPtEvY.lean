/- A part of the proof, written by programs of this seat and by hand: EvY. -/
import Derived.Below
import Derived.Test.YtfcjeoihfphphaaGreatDoorPtEvZ
set_option linter.unusedVariables false
set_option linter.unusedSimpArgs false
section
namespace Go.Proofs.YtfcjeoihfphphaaGreatDoor.PFlow
open Go Go.RowKit
theorem awake_calls (r : Bool) (w : World) (h : some true = some r) :
 Calls Tryz.prog 7 #[] w fun e w' => e = .returned (.bool r) ∧ Below w.heap.size w w' := by
 cases h
 refine (Go.Ev.awake_yes w).mono ?_
 rintro e w' ⟨rfl, h1, h2, h3, h4, h5⟩
 exact ⟨rfl, ⟨h3, h4, h5, h1, h2⟩⟩
end Go.Proofs.YtfcjeoihfphphaaGreatDoor.PFlow
end

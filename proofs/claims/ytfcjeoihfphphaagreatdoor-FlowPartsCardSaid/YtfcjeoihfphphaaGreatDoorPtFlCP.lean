/- For every flow and every node the call of assessorlaw17.FlowParts returns true, and its arguments read afterwards as they read before. Conditions: the row's own (the two listed variables of unicode/utf8 hold what the program text lays; the card ties them). -/
import Derived.Test.YtfcjeoihfphphaaGreatDoorRows
import Derived.Test.YtfcjeoihfphphaaGreatDoorTie
import Derived.Test.YtfcjeoihfphphaaGreatDoorCards
import Derived.SevenTiedAt
import Derived.Test.YtfcjeoihfphphaaGreatDoorPtFlSP
set_option linter.unusedVariables false
set_option linter.unusedSimpArgs false
section
namespace Go.Proofs.YtfcjeoihfphphaaGreatDoor.PFlow
open Go.ChangeShapes Go.WideShapes Go.ChangeAt Go.RowKit Go.Proofs.YtfcjeoihfphphaaGreatDoorW.PrintWords Go.Proofs.YtfcjeoihfphphaaGreatDoorW.PrintLast
theorem flowParts_card : Rows.FlowPartsCardSaid :=
 Claim7.holds_tied_plain_at .later [] [.data, .pinned] true (true, "7dff7dc0f07bab8522e6b7d941abb21257a7d8bd1da87512666a0b774bbdd436") false
  flowParts_said (fun _ h => by cases h) (by kernel_rfl) (fun _ h => by cases h) flowParts_row_tie rfl ⟨rfl, rfl⟩ (by kernel_rfl) rfl
  (fun f fn hf hfn => by
   obtain rfl : f = 4 := Option.some.inj ((show Tryz.prog.funcNamed "assessor/assessorlaw17.FlowParts" = some 4 by kernel_rfl).symm.trans hf) |>.symm
   obtain rfl : fn = Tryz.f4 := (Option.some.inj (Tryz.func4.symm.trans hfn)).symm
   exact ⟨by kernel_rfl, fun j t ht => by
    rw [Tryz.params4] at ht
    have h3 : t = 36 ∨ t = 3 := by
     rcases j with _ | _ | j
     · exact .inl (by simpa using ht.symm)
     · exact .inr (by simpa using ht.symm)
     · simp at ht
    rcases h3 with rfl | rfl
    · exact (show Tryz.prog.wantsStandIn 36 = false by kernel_rfl)
    · exact (show Tryz.prog.wantsStandIn 3 = false by kernel_rfl)⟩)
  (by kernel_rfl)
end Go.Proofs.YtfcjeoihfphphaaGreatDoor.PFlow
end

/- For every flow the call of assessorlaw17.FlowBlocks returns true, and its argument reads afterwards as it read before. Conditions: the row's own (the two listed variables of unicode/utf8 hold what the program text lays; the card ties them). -/
import Derived.Test.YtfcjeoihfphphaaGreatDoorRows
import Derived.Test.YtfcjeoihfphphaaGreatDoorTie
import Derived.Test.YtfcjeoihfphphaaGreatDoorCards
import Derived.SevenTiedAt
import Derived.Test.YtfcjeoihfphphaaGreatDoorBkFlSB
section
namespace Go.Proofs.YtfcjeoihfphphaaGreatDoor.PFlow
open Go.ChangeShapes Go.WideShapes Go.ChangeAt Go.RowKit Go.Proofs.YtfcjeoihfphphaaGreatDoorW.PrintWords Go.Proofs.YtfcjeoihfphphaaGreatDoorW.PrintLast
theorem flowBlocks_card : Rows.FlowBlocksCardSaid :=
 Claim7.holds_tied_plain_at .later [] [.data, .pinned] true (true, "7dff7dc0f07bab8522e6b7d941abb21257a7d8bd1da87512666a0b774bbdd436") false
  flowBlocks_said (fun _ h => by cases h) (by kernel_rfl) (fun _ h => by cases h) flowBlocks_row_tie rfl ⟨rfl, rfl⟩ (by kernel_rfl) rfl
  (fun f fn hf hfn => by
   obtain rfl : f = 6 := Option.some.inj ((show Tryz.prog.funcNamed "assessor/assessorlaw17.FlowBlocks" = some 6 by kernel_rfl).symm.trans hf) |>.symm
   obtain rfl : fn = Tryz.f6 := (Option.some.inj (Tryz.func6.symm.trans hfn)).symm
   exact ⟨by kernel_rfl, fun j t ht => by
    rw [Tryz.params6] at ht
    have h3 : t = 36 := by
     rcases j with _ | j
     · simpa using ht.symm
     · simp at ht
    subst h3
    exact (show Tryz.prog.wantsStandIn 36 = false by kernel_rfl)⟩)
  (by kernel_rfl)
end Go.Proofs.YtfcjeoihfphphaaGreatDoor.PFlow
end

/-
  'ShareLines' answers true for every input, and each argument reads afterwards as it read before: the row and its tied card.
  Conditions: those of the given statement alone: the listed package-level variables start as the program's text lays them (the card ties them). Written by a program (wip/mkrow.py); Lean checks it.
-/
import Derived.Test.YtmocphafkimdpaaDoorMShareLinesm
import Derived.Test.YtmocphafkimdpaaDoorGMain

/-
 'ShareLines' answers true for every input, and each argument reads afterwards as it read before: the row and its tied card.
 Conditions: those of the given statement alone: the listed package-level variables start as the program's text lays them (the card ties them). Written by a program (wip/mkrow.py); Lean checks it.
-/
namespace Go.Proofs.YtmocphafkimdpaaDoor.shareLines
open Go.ChangeShapes Go.WideShapes Go.ChangeAt Go.RowKit

/-- THE CARD. -/
theorem card : Rows.ShareLinesCardSaid :=
 Claim7.holds_tied_plain_at .later [] _ _ _ _ said (fun _ h => by cases h) (by kernel_rfl) (fun _ h => by cases h) shareLines_row_tie rfl ⟨rfl, rfl⟩ J.mainIs rfl plain (by kernel_rfl)
#print axioms card
end Go.Proofs.YtmocphafkimdpaaDoor.shareLines

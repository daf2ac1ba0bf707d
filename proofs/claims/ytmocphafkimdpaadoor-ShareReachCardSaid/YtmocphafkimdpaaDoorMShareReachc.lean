/-
  'ShareReach' answers true for every input, and each argument reads afterwards as it read before: the row and its tied card.
  Conditions: those of the given statement alone: the listed package-level variables start as the program's text lays them (the card ties them). Written by a program (wip/mkrow.py); Lean checks it.
-/
import Derived.Test.YtmocphafkimdpaaDoorMShareReachb
import Derived.Test.YtmocphafkimdpaaDoorGMain

namespace Go.Proofs.YtmocphafkimdpaaDoor.shareReach
open Go.ChangeShapes Go.WideShapes Go.ChangeAt Go.RowKit

/-- THE CARD. -/
theorem card : Rows.ShareReachCardSaid :=
  Claim7.holds_tied_plain_at .later [] _ _ _ _ said (fun _ h => by cases h) (by kernel_rfl) (fun _ h => by cases h) shareReach_row_tie rfl ⟨rfl, rfl⟩ J.mainIs rfl plain (by kernel_rfl)
#print axioms card
end Go.Proofs.YtmocphafkimdpaaDoor.shareReach

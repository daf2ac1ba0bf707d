/- The words of the print that ElementChecks uses (pruned by wip/prunew.py). -/
import Derived.Test.YtmocphafkimdpaaDoorVInv
import Derived.Test.YtmocphafkimdpaaDoorVFootNe
namespace Go.Proofs.YtmocphafkimdpaaDoorW.PrintWords
open Go.RowKit
end Go.Proofs.YtmocphafkimdpaaDoorW.PrintWords
namespace Go.Proofs.YtmocphafkimdpaaDoorW.PrintLast
section
variable {ops : Array Oper} {a : Act} {o og : Oper} {g : Nat} {t : Tmp} {u : Bool}
end
end Go.Proofs.YtmocphafkimdpaaDoorW.PrintLast

/- The words of the print that ElementChecks uses (pruned by wip/prunew.py). -/
import Derived.Test.YtmocphafkimdpaaDoorVTab
namespace Go.Proofs.YtmocphafkimdpaaDoorW.PrintLast
section
variable {P : Program} {ops : Array Oper} {Q : Exit → Act → World → Prop} {md : Region.Mode} {S : World → Prop} {ds : List Nat} {T : Bool × List (List Nat × List Nat)}
end
end Go.Proofs.YtmocphafkimdpaaDoorW.PrintLast

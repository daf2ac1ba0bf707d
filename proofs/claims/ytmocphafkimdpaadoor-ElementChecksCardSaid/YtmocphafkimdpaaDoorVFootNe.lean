/- The words of the print that ElementChecks uses (pruned by wip/prunew.py). -/
import Derived.Test.YtmocphafkimdpaaDoorVN
namespace Go.Proofs.YtmocphafkimdpaaDoorW.PrintWords
open Go.RowKit
namespace Kd
section
variable {α : Type} {d : Kd α} {W : World} {g n : Nat} {S ok : Nat → Prop} {A : Option Addr} {ad : Addr} {xs : List α}
end
end Kd
end Go.Proofs.YtmocphafkimdpaaDoorW.PrintWords

/- What ran the harness's name: a closed fact of the program, the same for all cards. -/
import Derived.Test.YtmocphafkimdpaaDoorCards
import Derived.WalkKit
import Derived.ProofKit
namespace Go.Proofs.YtmocphafkimdpaaDoor.J
open Go.RowKit
theorem mainIs : Tryd.pinned.checked.prog.mainIs = some (true, (String.toList "f40ed0f9ff76a59ce15e71fd9732a1c8ced0ee548db3b693edcd3117ee69f53a")) := by kernel_rfl
end Go.Proofs.YtmocphafkimdpaaDoor.J

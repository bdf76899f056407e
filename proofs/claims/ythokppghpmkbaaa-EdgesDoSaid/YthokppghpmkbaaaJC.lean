/- A closed fact on the program: how it was made. -/
import Derived.Test.YthokppghpmkbaaaRows
import Derived.WalkKit
import Derived.ProofKit
import Derived.ChangeOld
import Derived.SizedLaws
namespace Go.Proofs.Ythokppghpmkbaaa.Jn
open Go.ChangeShapes Go.WideShapes Go.ChangeAt Go.RowKit
theorem make : (Try.pinned.checked.prog.make == some Make.cut) = true := by kernel_rfl
end Go.Proofs.Ythokppghpmkbaaa.Jn

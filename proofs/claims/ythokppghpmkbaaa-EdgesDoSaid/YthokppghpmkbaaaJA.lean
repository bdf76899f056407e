/- A closed fact on the program: it may be entered. -/
import Derived.Test.YthokppghpmkbaaaRows
import Derived.WalkKit
import Derived.ProofKit
import Derived.ChangeOld
import Derived.SizedLaws
namespace Go.Proofs.Ythokppghpmkbaaa.Jn
open Go.ChangeShapes Go.WideShapes Go.ChangeAt Go.RowKit
theorem mayEnter : Try.pinned.checked.prog.mayEnter = true := by kernel_rfl
end Go.Proofs.Ythokppghpmkbaaa.Jn

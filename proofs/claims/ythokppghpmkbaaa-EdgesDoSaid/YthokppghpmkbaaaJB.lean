/- A closed fact on the program: nothing is lifted. -/
import Derived.Test.YthokppghpmkbaaaRows
import Derived.WalkKit
import Derived.ProofKit
import Derived.ChangeOld
import Derived.SizedLaws
namespace Go.Proofs.Ythokppghpmkbaaa.Jn
open Go.ChangeShapes Go.WideShapes Go.ChangeAt Go.RowKit
theorem lifted : (false == Try.pinned.checked.prog.liftsFinal) = true := by kernel_rfl
end Go.Proofs.Ythokppghpmkbaaa.Jn

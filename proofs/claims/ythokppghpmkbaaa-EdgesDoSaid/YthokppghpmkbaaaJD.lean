/- Closed facts on the program that each row asks. -/
import Derived.Test.YthokppghpmkbaaaRows
import Derived.WalkKit
import Derived.ProofKit
import Derived.ChangeOld
import Derived.SizedLaws
namespace Go.Proofs.Ythokppghpmkbaaa.Jn
open Go.ChangeShapes Go.WideShapes Go.ChangeAt Go.RowKit
theorem laidOut : laidOutB Try.pinned.checked.prog = true := by kernel_rfl
theorem mapsRowed_ : mapsRowed Try.pinned.checked.prog = true := by kernel_rfl
theorem stops : (Try.pinned.checked.prog.stops == []) = true := by kernel_rfl
theorem stopKnobs : (Try.pinned.checked.prog.stopKnobs == []) = true := by kernel_rfl
theorem plainKeys : (true == Try.pinned.checked.prog.plainKeys) = true := by kernel_rfl
theorem stopsHeard : Try.pinned.checked.prog.stopsHeard = true := by kernel_rfl
theorem andT {a b : Bool} (h : a = true) (k : b = true) : (a && b) = true := by rw [h, k]; rfl
end Go.Proofs.Ythokppghpmkbaaa.Jn

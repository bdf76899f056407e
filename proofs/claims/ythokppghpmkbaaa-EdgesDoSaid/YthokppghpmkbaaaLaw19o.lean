/- EdgesDo's walk, for an input as it comes. -/
import Derived.Test.YthokppghpmkbaaaLaw19x
import Derived.Test.YthokppghpmkbaaaOpen
namespace Go.Proofs.Ythokppghpmkbaaa.Pl
open Go Go.RowKit Go.Proofs.Ythokppghpmkbaaa.Op Go.Proofs.YthokppghpmkbaaaW.PrintWords Go.Proofs.YthokppghpmkbaaaW.PrintLast
theorem openAct : Opn Try.prog kAct 30 (fun _ => True) :=
  Opn.imp (Opn.iso (Opn.struct3 Try.underlying30 (by kernel_rfl) rfl rfl rfl (by kernel_rfl) (by kernel_rfl) (by kernel_rfl) (Opn.int Try.underlying3) (Opn.int Try.underlying3) (Opn.slice _ Try.underlying28 (by kernel_rfl) (Opn.int Try.underlying3))) _ (fun a => ⟨a.1, a.2.1, a.2.2⟩) (fun _ => rfl)) (fun _ _ => trivial)
theorem openActs : Opn Try.prog (Kd.slice 0 kAct) 22 (fun l => ∀ a ∈ l, True) := Opn.slice 0 Try.underlying22 (by kernel_rfl) openAct
theorem edgesDo_walk (w : World) (A0 : Option Addr) (c0 : Nat) (acts : List ActS) (h0 : Kd.C kAct w A0 acts.length acts) (hc0 : acts.length ≤ c0) (_ : ∀ a ∈ acts, True) (b : Int) (_ : (Lit.int .i64 b).wf = true) :
    Calls Try.prog 3 #[.slice A0 acts.length c0, .int .i64 b] w fun e w' => e = .returned (.bool true) ∧ Below w.heap.size w w' := edgesDo_calls w A0 c0 acts b h0 hc0
end Go.Proofs.Ythokppghpmkbaaa.Pl

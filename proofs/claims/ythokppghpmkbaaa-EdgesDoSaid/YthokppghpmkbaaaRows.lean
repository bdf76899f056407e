/-
  No cell of these rows narrows 'for every input' (looked for: loops, veiled, ifaces, maps, wideKeys, modest, calm, conditions, laid).
  DERIVED. THE GIVEN ROWS OF THIS SEAT. 17 by the template 'for every input the law returns true; each argument reads behind the call as it read before'; 0 by the template 'total and deterministic' (their statements: YthokppghpmkbaaaTotals.lean).
  GIVEN WITH THE SEED: the statements are not yours to turn. If you find one false, say at which input.
  Laid BY PROGRAM, IN A SANDBOX (cutbox-rows.mjs): the forced cells as the released guide's own fill.sh prints them over the translation 5a2c7047aed12603… (all of the seat's roots in one cut). By AI agents, Wed Nov 11 2026. No macro, syntax, notation, axiom, sorry.
-/
import Derived.Test.YthokppghpmkbaaaChecked
import GoSem.Claim
import GoSem.ClaimJoined
import GoSem.ClaimMapViews
import Derived.JoinedTies
import Derived.KernelRfl
namespace Go.Proofs.Ythokppghpmkbaaa
/- THE CELL 'sum', in the pinned program and in every row, IS THE sha256 OF THE DUMP (.gsa) THAT YthokppghpmkbaaaProg.lean LOADS. Nothing in Lean hashes anything: it is a label: what it is worth is what the hold of that sum in a sandbox is worth. -/
noncomputable def Try.pinned : Pinned := { name := "ythokppghpmkbaaa", sum := "5a2c7047aed12603a0706bbcd0f14bff6cf33fa1c292b25d1f6b57c728c84c04", checked := Try.checked }
namespace Rows
def none {H : Type} : Left H := { results := [], args := [] }

/-- 'almonrylaw19.EdgesDo': WHATEVER THE INPUT: true; the input reads as it did. -/
def edgesDoSpec : ChangeSpec := { name := "edgesDo", fn := fun _ => fun
  | [d1, d2] => { results := [.lit (.bool true)], args := [d1, d2] }
  | _ => none }
def edgesDoRow : OpenClaim := { program := "ythokppghpmkbaaa", sum := "5a2c7047aed12603a0706bbcd0f14bff6cf33fa1c292b25d1f6b57c728c84c04", func := "almonry/almonrylaw19.EdgesDo", spec := "edgesDo", recurses := true, apart := false }
def EdgesDoSaid : Prop := edgesDoRow.holds Try.pinned (OpenSpec.ofChange edgesDoSpec)

/-- ITS FALSE NEIGHBOUR: 'it returns false'. Refute it at one input. -/
def edgesDoWrong : ChangeSpec := { name := "edgesDo", fn := fun _ => fun
  | [d1, d2] => { results := [.lit (.bool false)], args := [d1, d2] }
  | _ => none }
def EdgesDoWrongFalsely : Prop := edgesDoRow.holds Try.pinned (OpenSpec.ofChange edgesDoWrong)

/-- 'almonrytop.WholePackets': WHATEVER THE INPUT: true; the input reads as it did. -/
def wholePacketsSpec : ChangeSpec := { name := "wholePackets", fn := fun _ => fun
  | [d] => { results := [.lit (.bool true)], args := [d] }
  | _ => none }
def wholePacketsRow : OpenClaim := { program := "ythokppghpmkbaaa", sum := "5a2c7047aed12603a0706bbcd0f14bff6cf33fa1c292b25d1f6b57c728c84c04", func := "almonry/almonrytop.WholePackets", spec := "wholePackets", unfollowed := true, recurses := true, named := ["math/bits.divideError", "math/bits.overflowError"], apart := false }
def WholePacketsSaid : Prop := wholePacketsRow.holds Try.pinned (OpenSpec.ofChange wholePacketsSpec)

/-- ITS FALSE NEIGHBOUR: 'it returns false'. Refute it at one input. -/
def wholePacketsWrong : ChangeSpec := { name := "wholePackets", fn := fun _ => fun
  | [d] => { results := [.lit (.bool false)], args := [d] }
  | _ => none }
def WholePacketsWrongFalsely : Prop := wholePacketsRow.holds Try.pinned (OpenSpec.ofChange wholePacketsWrong)

/-- 'almonrylaw13.ComposeRight': WHATEVER THE INPUT: true; the input reads as it did. -/
def composeRightSpec : ChangeSpec := { name := "composeRight", fn := fun _ => fun
  | [d] => { results := [.lit (.bool true)], args := [d] }
  | _ => none }
def composeRightRow : OpenClaim := { program := "ythokppghpmkbaaa", sum := "5a2c7047aed12603a0706bbcd0f14bff6cf33fa1c292b25d1f6b57c728c84c04", func := "almonry/almonrylaw13.ComposeRight", spec := "composeRight", recurses := true, apart := false }
def ComposeRightSaid : Prop := composeRightRow.holds Try.pinned (OpenSpec.ofChange composeRightSpec)

/-- ITS FALSE NEIGHBOUR: 'it returns false'. Refute it at one input. -/
def composeRightWrong : ChangeSpec := { name := "composeRight", fn := fun _ => fun
  | [d] => { results := [.lit (.bool false)], args := [d] }
  | _ => none }
def ComposeRightWrongFalsely : Prop := composeRightRow.holds Try.pinned (OpenSpec.ofChange composeRightWrong)

/-- 'almonrylaw13.ComposeAdds': WHATEVER THE INPUT: true; the input reads as it did. -/
def composeAddsSpec : ChangeSpec := { name := "composeAdds", fn := fun _ => fun
  | [d1, d2, d3] => { results := [.lit (.bool true)], args := [d1, d2, d3] }
  | _ => none }
def composeAddsRow : OpenClaim := { program := "ythokppghpmkbaaa", sum := "5a2c7047aed12603a0706bbcd0f14bff6cf33fa1c292b25d1f6b57c728c84c04", func := "almonry/almonrylaw13.ComposeAdds", spec := "composeAdds", recurses := true, apart := false }
def ComposeAddsSaid : Prop := composeAddsRow.holds Try.pinned (OpenSpec.ofChange composeAddsSpec)

/-- ITS FALSE NEIGHBOUR: 'it returns false'. Refute it at one input. -/
def composeAddsWrong : ChangeSpec := { name := "composeAdds", fn := fun _ => fun
  | [d1, d2, d3] => { results := [.lit (.bool false)], args := [d1, d2, d3] }
  | _ => none }
def ComposeAddsWrongFalsely : Prop := composeAddsRow.holds Try.pinned (OpenSpec.ofChange composeAddsWrong)

/-- 'almonrytop.WholeEquations': WHATEVER THE INPUT: true; the input reads as it did. -/
def wholeEquationsSpec : ChangeSpec := { name := "wholeEquations", fn := fun _ => fun
  | [d] => { results := [.lit (.bool true)], args := [d] }
  | _ => none }
def wholeEquationsRow : OpenClaim := { program := "ythokppghpmkbaaa", sum := "5a2c7047aed12603a0706bbcd0f14bff6cf33fa1c292b25d1f6b57c728c84c04", func := "almonry/almonrytop.WholeEquations", spec := "wholeEquations", unfollowed := true, recurses := true, named := ["math/bits.divideError", "math/bits.overflowError"], apart := false }
def WholeEquationsSaid : Prop := wholeEquationsRow.holds Try.pinned (OpenSpec.ofChange wholeEquationsSpec)

/-- ITS FALSE NEIGHBOUR: 'it returns false'. Refute it at one input. -/
def wholeEquationsWrong : ChangeSpec := { name := "wholeEquations", fn := fun _ => fun
  | [d] => { results := [.lit (.bool false)], args := [d] }
  | _ => none }
def WholeEquationsWrongFalsely : Prop := wholeEquationsRow.holds Try.pinned (OpenSpec.ofChange wholeEquationsWrong)

/-- 'almonrylaw14.EmitFrames': WHATEVER THE INPUT: true; the input reads as it did. -/
def emitFramesSpec : ChangeSpec := { name := "emitFrames", fn := fun _ => fun
  | [d] => { results := [.lit (.bool true)], args := [d] }
  | _ => none }
def emitFramesRow : OpenClaim := { program := "ythokppghpmkbaaa", sum := "5a2c7047aed12603a0706bbcd0f14bff6cf33fa1c292b25d1f6b57c728c84c04", func := "almonry/almonrylaw14.EmitFrames", spec := "emitFrames", unfollowed := true, recurses := true, named := ["math/bits.divideError", "math/bits.overflowError"], apart := false }
def EmitFramesSaid : Prop := emitFramesRow.holds Try.pinned (OpenSpec.ofChange emitFramesSpec)

/-- ITS FALSE NEIGHBOUR: 'it returns false'. Refute it at one input. -/
def emitFramesWrong : ChangeSpec := { name := "emitFrames", fn := fun _ => fun
  | [d] => { results := [.lit (.bool false)], args := [d] }
  | _ => none }
def EmitFramesWrongFalsely : Prop := emitFramesRow.holds Try.pinned (OpenSpec.ofChange emitFramesWrong)

/-- 'almonrylaw14.EmitBlocks': WHATEVER THE INPUT: true; the input reads as it did. -/
def emitBlocksSpec : ChangeSpec := { name := "emitBlocks", fn := fun _ => fun
  | [d1, d2] => { results := [.lit (.bool true)], args := [d1, d2] }
  | _ => none }
def emitBlocksRow : OpenClaim := { program := "ythokppghpmkbaaa", sum := "5a2c7047aed12603a0706bbcd0f14bff6cf33fa1c292b25d1f6b57c728c84c04", func := "almonry/almonrylaw14.EmitBlocks", spec := "emitBlocks", unfollowed := true, recurses := true, named := ["math/bits.divideError", "math/bits.overflowError"], apart := false }
def EmitBlocksSaid : Prop := emitBlocksRow.holds Try.pinned (OpenSpec.ofChange emitBlocksSpec)

/-- ITS FALSE NEIGHBOUR: 'it returns false'. Refute it at one input. -/
def emitBlocksWrong : ChangeSpec := { name := "emitBlocks", fn := fun _ => fun
  | [d1, d2] => { results := [.lit (.bool false)], args := [d1, d2] }
  | _ => none }
def EmitBlocksWrongFalsely : Prop := emitBlocksRow.holds Try.pinned (OpenSpec.ofChange emitBlocksWrong)

/-- 'almonrylaw14.EmitSums': WHATEVER THE INPUT: true; the input reads as it did. -/
def emitSumsSpec : ChangeSpec := { name := "emitSums", fn := fun _ => fun
  | [d] => { results := [.lit (.bool true)], args := [d] }
  | _ => none }
def emitSumsRow : OpenClaim := { program := "ythokppghpmkbaaa", sum := "5a2c7047aed12603a0706bbcd0f14bff6cf33fa1c292b25d1f6b57c728c84c04", func := "almonry/almonrylaw14.EmitSums", spec := "emitSums", unfollowed := true, recurses := true, named := ["math/bits.divideError", "math/bits.overflowError"], apart := false }
def EmitSumsSaid : Prop := emitSumsRow.holds Try.pinned (OpenSpec.ofChange emitSumsSpec)

/-- ITS FALSE NEIGHBOUR: 'it returns false'. Refute it at one input. -/
def emitSumsWrong : ChangeSpec := { name := "emitSums", fn := fun _ => fun
  | [d] => { results := [.lit (.bool false)], args := [d] }
  | _ => none }
def EmitSumsWrongFalsely : Prop := emitSumsRow.holds Try.pinned (OpenSpec.ofChange emitSumsWrong)

/-- 'almonrylaw14.EmitAdds': WHATEVER THE INPUT: true; the input reads as it did. -/
def emitAddsSpec : ChangeSpec := { name := "emitAdds", fn := fun _ => fun
  | [d1, d2] => { results := [.lit (.bool true)], args := [d1, d2] }
  | _ => none }
def emitAddsRow : OpenClaim := { program := "ythokppghpmkbaaa", sum := "5a2c7047aed12603a0706bbcd0f14bff6cf33fa1c292b25d1f6b57c728c84c04", func := "almonry/almonrylaw14.EmitAdds", spec := "emitAdds", unfollowed := true, recurses := true, named := ["math/bits.divideError", "math/bits.overflowError"], apart := false }
def EmitAddsSaid : Prop := emitAddsRow.holds Try.pinned (OpenSpec.ofChange emitAddsSpec)

/-- ITS FALSE NEIGHBOUR: 'it returns false'. Refute it at one input. -/
def emitAddsWrong : ChangeSpec := { name := "emitAdds", fn := fun _ => fun
  | [d1, d2] => { results := [.lit (.bool false)], args := [d1, d2] }
  | _ => none }
def EmitAddsWrongFalsely : Prop := emitAddsRow.holds Try.pinned (OpenSpec.ofChange emitAddsWrong)

/-- 'almonrylaw20.StreamTrue': WHATEVER THE INPUT: true; the input reads as it did. -/
def streamTrueSpec : ChangeSpec := { name := "streamTrue", fn := fun _ => fun
  | [d] => { results := [.lit (.bool true)], args := [d] }
  | _ => none }
def streamTrueRow : OpenClaim := { program := "ythokppghpmkbaaa", sum := "5a2c7047aed12603a0706bbcd0f14bff6cf33fa1c292b25d1f6b57c728c84c04", func := "almonry/almonrylaw20.StreamTrue", spec := "streamTrue", recurses := true, apart := false }
def StreamTrueSaid : Prop := streamTrueRow.holds Try.pinned (OpenSpec.ofChange streamTrueSpec)

/-- ITS FALSE NEIGHBOUR: 'it returns false'. Refute it at one input. -/
def streamTrueWrong : ChangeSpec := { name := "streamTrue", fn := fun _ => fun
  | [d] => { results := [.lit (.bool false)], args := [d] }
  | _ => none }
def StreamTrueWrongFalsely : Prop := streamTrueRow.holds Try.pinned (OpenSpec.ofChange streamTrueWrong)

/-- 'almonrylaw20.StreamOrder': WHATEVER THE INPUT: true; the input reads as it did. -/
def streamOrderSpec : ChangeSpec := { name := "streamOrder", fn := fun _ => fun
  | [d1, d2] => { results := [.lit (.bool true)], args := [d1, d2] }
  | _ => none }
def streamOrderRow : OpenClaim := { program := "ythokppghpmkbaaa", sum := "5a2c7047aed12603a0706bbcd0f14bff6cf33fa1c292b25d1f6b57c728c84c04", func := "almonry/almonrylaw20.StreamOrder", spec := "streamOrder", recurses := true, apart := false }
def StreamOrderSaid : Prop := streamOrderRow.holds Try.pinned (OpenSpec.ofChange streamOrderSpec)

/-- ITS FALSE NEIGHBOUR: 'it returns false'. Refute it at one input. -/
def streamOrderWrong : ChangeSpec := { name := "streamOrder", fn := fun _ => fun
  | [d1, d2] => { results := [.lit (.bool false)], args := [d1, d2] }
  | _ => none }
def StreamOrderWrongFalsely : Prop := streamOrderRow.holds Try.pinned (OpenSpec.ofChange streamOrderWrong)

/-- 'almonrylaw20.StreamNew': WHATEVER THE INPUT: true; the input reads as it did. -/
def streamNewSpec : ChangeSpec := { name := "streamNew", fn := fun _ => fun
  | [d1, d2, d3] => { results := [.lit (.bool true)], args := [d1, d2, d3] }
  | _ => none }
def streamNewRow : OpenClaim := { program := "ythokppghpmkbaaa", sum := "5a2c7047aed12603a0706bbcd0f14bff6cf33fa1c292b25d1f6b57c728c84c04", func := "almonry/almonrylaw20.StreamNew", spec := "streamNew", recurses := true, apart := false }
def StreamNewSaid : Prop := streamNewRow.holds Try.pinned (OpenSpec.ofChange streamNewSpec)

/-- ITS FALSE NEIGHBOUR: 'it returns false'. Refute it at one input. -/
def streamNewWrong : ChangeSpec := { name := "streamNew", fn := fun _ => fun
  | [d1, d2, d3] => { results := [.lit (.bool false)], args := [d1, d2, d3] }
  | _ => none }
def StreamNewWrongFalsely : Prop := streamNewRow.holds Try.pinned (OpenSpec.ofChange streamNewWrong)

/-- 'almonrylaw20.StreamTwice': WHATEVER THE INPUT: true; the input reads as it did. -/
def streamTwiceSpec : ChangeSpec := { name := "streamTwice", fn := fun _ => fun
  | [d] => { results := [.lit (.bool true)], args := [d] }
  | _ => none }
def streamTwiceRow : OpenClaim := { program := "ythokppghpmkbaaa", sum := "5a2c7047aed12603a0706bbcd0f14bff6cf33fa1c292b25d1f6b57c728c84c04", func := "almonry/almonrylaw20.StreamTwice", spec := "streamTwice", recurses := true, apart := false }
def StreamTwiceSaid : Prop := streamTwiceRow.holds Try.pinned (OpenSpec.ofChange streamTwiceSpec)

/-- ITS FALSE NEIGHBOUR: 'it returns false'. Refute it at one input. -/
def streamTwiceWrong : ChangeSpec := { name := "streamTwice", fn := fun _ => fun
  | [d] => { results := [.lit (.bool false)], args := [d] }
  | _ => none }
def StreamTwiceWrongFalsely : Prop := streamTwiceRow.holds Try.pinned (OpenSpec.ofChange streamTwiceWrong)

/-- 'almonrylaw20.StreamKeeps': WHATEVER THE INPUT: true; the input reads as it did. -/
def streamKeepsSpec : ChangeSpec := { name := "streamKeeps", fn := fun _ => fun
  | [d] => { results := [.lit (.bool true)], args := [d] }
  | _ => none }
def streamKeepsRow : OpenClaim := { program := "ythokppghpmkbaaa", sum := "5a2c7047aed12603a0706bbcd0f14bff6cf33fa1c292b25d1f6b57c728c84c04", func := "almonry/almonrylaw20.StreamKeeps", spec := "streamKeeps", recurses := true, apart := false }
def StreamKeepsSaid : Prop := streamKeepsRow.holds Try.pinned (OpenSpec.ofChange streamKeepsSpec)

/-- ITS FALSE NEIGHBOUR: 'it returns false'. Refute it at one input. -/
def streamKeepsWrong : ChangeSpec := { name := "streamKeeps", fn := fun _ => fun
  | [d] => { results := [.lit (.bool false)], args := [d] }
  | _ => none }
def StreamKeepsWrongFalsely : Prop := streamKeepsRow.holds Try.pinned (OpenSpec.ofChange streamKeepsWrong)

/-- 'almonrylaw20.StreamBounds': WHATEVER THE INPUT: true; the input reads as it did. -/
def streamBoundsSpec : ChangeSpec := { name := "streamBounds", fn := fun _ => fun
  | [d] => { results := [.lit (.bool true)], args := [d] }
  | _ => none }
def streamBoundsRow : OpenClaim := { program := "ythokppghpmkbaaa", sum := "5a2c7047aed12603a0706bbcd0f14bff6cf33fa1c292b25d1f6b57c728c84c04", func := "almonry/almonrylaw20.StreamBounds", spec := "streamBounds", recurses := true, apart := false }
def StreamBoundsSaid : Prop := streamBoundsRow.holds Try.pinned (OpenSpec.ofChange streamBoundsSpec)

/-- ITS FALSE NEIGHBOUR: 'it returns false'. Refute it at one input. -/
def streamBoundsWrong : ChangeSpec := { name := "streamBounds", fn := fun _ => fun
  | [d] => { results := [.lit (.bool false)], args := [d] }
  | _ => none }
def StreamBoundsWrongFalsely : Prop := streamBoundsRow.holds Try.pinned (OpenSpec.ofChange streamBoundsWrong)

/-- 'almonrylaw23.SendNew': WHATEVER THE INPUT: true; the input reads as it did. -/
def sendNewSpec : ChangeSpec := { name := "sendNew", fn := fun _ => fun
  | [d1, d2, d3] => { results := [.lit (.bool true)], args := [d1, d2, d3] }
  | _ => none }
def sendNewRow : OpenClaim := { program := "ythokppghpmkbaaa", sum := "5a2c7047aed12603a0706bbcd0f14bff6cf33fa1c292b25d1f6b57c728c84c04", func := "almonry/almonrylaw23.SendNew", spec := "sendNew", unfollowed := true, recurses := true, named := ["math/bits.divideError", "math/bits.overflowError"], apart := false }
def SendNewSaid : Prop := sendNewRow.holds Try.pinned (OpenSpec.ofChange sendNewSpec)

/-- ITS FALSE NEIGHBOUR: 'it returns false'. Refute it at one input. -/
def sendNewWrong : ChangeSpec := { name := "sendNew", fn := fun _ => fun
  | [d1, d2, d3] => { results := [.lit (.bool false)], args := [d1, d2, d3] }
  | _ => none }
def SendNewWrongFalsely : Prop := sendNewRow.holds Try.pinned (OpenSpec.ofChange sendNewWrong)

/-- 'almonrylaw23.SendOrder': WHATEVER THE INPUT: true; the input reads as it did. -/
def sendOrderSpec : ChangeSpec := { name := "sendOrder", fn := fun _ => fun
  | [d1, d2, d3] => { results := [.lit (.bool true)], args := [d1, d2, d3] }
  | _ => none }
def sendOrderRow : OpenClaim := { program := "ythokppghpmkbaaa", sum := "5a2c7047aed12603a0706bbcd0f14bff6cf33fa1c292b25d1f6b57c728c84c04", func := "almonry/almonrylaw23.SendOrder", spec := "sendOrder", unfollowed := true, recurses := true, named := ["math/bits.divideError", "math/bits.overflowError"], apart := false }
def SendOrderSaid : Prop := sendOrderRow.holds Try.pinned (OpenSpec.ofChange sendOrderSpec)

/-- ITS FALSE NEIGHBOUR: 'it returns false'. Refute it at one input. -/
def sendOrderWrong : ChangeSpec := { name := "sendOrder", fn := fun _ => fun
  | [d1, d2, d3] => { results := [.lit (.bool false)], args := [d1, d2, d3] }
  | _ => none }
def SendOrderWrongFalsely : Prop := sendOrderRow.holds Try.pinned (OpenSpec.ofChange sendOrderWrong)

/- THE SECOND FORM. 'bulk': how many values and letters a reading holds, each counted each time it is reached (what is shared counts as often as it is met; a slice's spare places count too). A statement '..UptoSaid' is the law's where the arguments, and the package variables that the reading takes, are together of bulk at most 1048576: NARROWER than '..Said'. Prove '..Said' where nothing that the law and all that it calls make is longer than what came in: it says more and counts as full. Else prove '..UptoSaid'. A law counts once. -/
mutual
def uptoBulk {H : Type} : DataW H → Nat
  | .lit (.string bytes) => bytes.length + 1
  | .lit _ => 1
  | .nil => 1
  | .ptr d => uptoBulk d + 1
  | .slice elems spare => uptoBulkAll elems + uptoBulkAll spare + 1
  | .agg parts => uptoBulkAll parts + 1
  | .iface _ d => uptoBulk d + 1
  | .map entries => uptoBulkEntries entries + 1
  | .held _ => 1
def uptoBulkAll {H : Type} : List (DataW H) → Nat
  | [] => 0
  | d :: r => uptoBulk d + uptoBulkAll r
def uptoBulkEntries {H : Type} : List (Lit × DataW H) → Nat
  | [] => 0
  | x :: r => uptoBulkEntry x + uptoBulkEntries r
def uptoBulkEntry {H : Type} : Lit × DataW H → Nat
  | (.string bytes, d) => bytes.length + uptoBulk d + 1
  | (_, d) => uptoBulk d + 1
 end
def uptoSmall : (H : Type) → List (DataW H) → Bool := fun _ ds => decide (uptoBulkAll ds ≤ 1048576)
def OpenSpec.upto (s : _root_.Go.ChangeSpec) : _root_.Go.OpenSpec := { _root_.Go.OpenSpec.ofChange s with cond := some uptoSmall }

/-- 'almonrylaw19.EdgesDo', WHERE WHAT IT READS IS OF BULK AT MOST 1048576: true; the input reads as it did. -/
def edgesDoUptoRow : OpenClaim := { program := "ythokppghpmkbaaa", sum := "5a2c7047aed12603a0706bbcd0f14bff6cf33fa1c292b25d1f6b57c728c84c04", func := "almonry/almonrylaw19.EdgesDo", spec := "edgesDo", recurses := true, apart := false, narrowed := true }
def EdgesDoUptoSaid : Prop := edgesDoUptoRow.holds Try.pinned (OpenSpec.upto edgesDoSpec)

/-- 'almonrytop.WholePackets', WHERE WHAT IT READS IS OF BULK AT MOST 1048576: true; the input reads as it did. -/
def wholePacketsUptoRow : OpenClaim := { program := "ythokppghpmkbaaa", sum := "5a2c7047aed12603a0706bbcd0f14bff6cf33fa1c292b25d1f6b57c728c84c04", func := "almonry/almonrytop.WholePackets", spec := "wholePackets", unfollowed := true, recurses := true, named := ["math/bits.divideError", "math/bits.overflowError"], apart := false, narrowed := true }
def WholePacketsUptoSaid : Prop := wholePacketsUptoRow.holds Try.pinned (OpenSpec.upto wholePacketsSpec)

/-- 'almonrylaw13.ComposeRight', WHERE WHAT IT READS IS OF BULK AT MOST 1048576: true; the input reads as it did. -/
def composeRightUptoRow : OpenClaim := { program := "ythokppghpmkbaaa", sum := "5a2c7047aed12603a0706bbcd0f14bff6cf33fa1c292b25d1f6b57c728c84c04", func := "almonry/almonrylaw13.ComposeRight", spec := "composeRight", recurses := true, apart := false, narrowed := true }
def ComposeRightUptoSaid : Prop := composeRightUptoRow.holds Try.pinned (OpenSpec.upto composeRightSpec)

/-- 'almonrylaw13.ComposeAdds', WHERE WHAT IT READS IS OF BULK AT MOST 1048576: true; the input reads as it did. -/
def composeAddsUptoRow : OpenClaim := { program := "ythokppghpmkbaaa", sum := "5a2c7047aed12603a0706bbcd0f14bff6cf33fa1c292b25d1f6b57c728c84c04", func := "almonry/almonrylaw13.ComposeAdds", spec := "composeAdds", recurses := true, apart := false, narrowed := true }
def ComposeAddsUptoSaid : Prop := composeAddsUptoRow.holds Try.pinned (OpenSpec.upto composeAddsSpec)

/-- 'almonrytop.WholeEquations', WHERE WHAT IT READS IS OF BULK AT MOST 1048576: true; the input reads as it did. -/
def wholeEquationsUptoRow : OpenClaim := { program := "ythokppghpmkbaaa", sum := "5a2c7047aed12603a0706bbcd0f14bff6cf33fa1c292b25d1f6b57c728c84c04", func := "almonry/almonrytop.WholeEquations", spec := "wholeEquations", unfollowed := true, recurses := true, named := ["math/bits.divideError", "math/bits.overflowError"], apart := false, narrowed := true }
def WholeEquationsUptoSaid : Prop := wholeEquationsUptoRow.holds Try.pinned (OpenSpec.upto wholeEquationsSpec)

/-- 'almonrylaw14.EmitFrames', WHERE WHAT IT READS IS OF BULK AT MOST 1048576: true; the input reads as it did. -/
def emitFramesUptoRow : OpenClaim := { program := "ythokppghpmkbaaa", sum := "5a2c7047aed12603a0706bbcd0f14bff6cf33fa1c292b25d1f6b57c728c84c04", func := "almonry/almonrylaw14.EmitFrames", spec := "emitFrames", unfollowed := true, recurses := true, named := ["math/bits.divideError", "math/bits.overflowError"], apart := false, narrowed := true }
def EmitFramesUptoSaid : Prop := emitFramesUptoRow.holds Try.pinned (OpenSpec.upto emitFramesSpec)

/-- 'almonrylaw14.EmitBlocks', WHERE WHAT IT READS IS OF BULK AT MOST 1048576: true; the input reads as it did. -/
def emitBlocksUptoRow : OpenClaim := { program := "ythokppghpmkbaaa", sum := "5a2c7047aed12603a0706bbcd0f14bff6cf33fa1c292b25d1f6b57c728c84c04", func := "almonry/almonrylaw14.EmitBlocks", spec := "emitBlocks", unfollowed := true, recurses := true, named := ["math/bits.divideError", "math/bits.overflowError"], apart := false, narrowed := true }
def EmitBlocksUptoSaid : Prop := emitBlocksUptoRow.holds Try.pinned (OpenSpec.upto emitBlocksSpec)

/-- 'almonrylaw14.EmitSums', WHERE WHAT IT READS IS OF BULK AT MOST 1048576: true; the input reads as it did. -/
def emitSumsUptoRow : OpenClaim := { program := "ythokppghpmkbaaa", sum := "5a2c7047aed12603a0706bbcd0f14bff6cf33fa1c292b25d1f6b57c728c84c04", func := "almonry/almonrylaw14.EmitSums", spec := "emitSums", unfollowed := true, recurses := true, named := ["math/bits.divideError", "math/bits.overflowError"], apart := false, narrowed := true }
def EmitSumsUptoSaid : Prop := emitSumsUptoRow.holds Try.pinned (OpenSpec.upto emitSumsSpec)

/-- 'almonrylaw14.EmitAdds', WHERE WHAT IT READS IS OF BULK AT MOST 1048576: true; the input reads as it did. -/
def emitAddsUptoRow : OpenClaim := { program := "ythokppghpmkbaaa", sum := "5a2c7047aed12603a0706bbcd0f14bff6cf33fa1c292b25d1f6b57c728c84c04", func := "almonry/almonrylaw14.EmitAdds", spec := "emitAdds", unfollowed := true, recurses := true, named := ["math/bits.divideError", "math/bits.overflowError"], apart := false, narrowed := true }
def EmitAddsUptoSaid : Prop := emitAddsUptoRow.holds Try.pinned (OpenSpec.upto emitAddsSpec)

/-- 'almonrylaw20.StreamTrue', WHERE WHAT IT READS IS OF BULK AT MOST 1048576: true; the input reads as it did. -/
def streamTrueUptoRow : OpenClaim := { program := "ythokppghpmkbaaa", sum := "5a2c7047aed12603a0706bbcd0f14bff6cf33fa1c292b25d1f6b57c728c84c04", func := "almonry/almonrylaw20.StreamTrue", spec := "streamTrue", recurses := true, apart := false, narrowed := true }
def StreamTrueUptoSaid : Prop := streamTrueUptoRow.holds Try.pinned (OpenSpec.upto streamTrueSpec)

/-- 'almonrylaw20.StreamOrder', WHERE WHAT IT READS IS OF BULK AT MOST 1048576: true; the input reads as it did. -/
def streamOrderUptoRow : OpenClaim := { program := "ythokppghpmkbaaa", sum := "5a2c7047aed12603a0706bbcd0f14bff6cf33fa1c292b25d1f6b57c728c84c04", func := "almonry/almonrylaw20.StreamOrder", spec := "streamOrder", recurses := true, apart := false, narrowed := true }
def StreamOrderUptoSaid : Prop := streamOrderUptoRow.holds Try.pinned (OpenSpec.upto streamOrderSpec)

/-- 'almonrylaw20.StreamNew', WHERE WHAT IT READS IS OF BULK AT MOST 1048576: true; the input reads as it did. -/
def streamNewUptoRow : OpenClaim := { program := "ythokppghpmkbaaa", sum := "5a2c7047aed12603a0706bbcd0f14bff6cf33fa1c292b25d1f6b57c728c84c04", func := "almonry/almonrylaw20.StreamNew", spec := "streamNew", recurses := true, apart := false, narrowed := true }
def StreamNewUptoSaid : Prop := streamNewUptoRow.holds Try.pinned (OpenSpec.upto streamNewSpec)

/-- 'almonrylaw20.StreamTwice', WHERE WHAT IT READS IS OF BULK AT MOST 1048576: true; the input reads as it did. -/
def streamTwiceUptoRow : OpenClaim := { program := "ythokppghpmkbaaa", sum := "5a2c7047aed12603a0706bbcd0f14bff6cf33fa1c292b25d1f6b57c728c84c04", func := "almonry/almonrylaw20.StreamTwice", spec := "streamTwice", recurses := true, apart := false, narrowed := true }
def StreamTwiceUptoSaid : Prop := streamTwiceUptoRow.holds Try.pinned (OpenSpec.upto streamTwiceSpec)

/-- 'almonrylaw20.StreamKeeps', WHERE WHAT IT READS IS OF BULK AT MOST 1048576: true; the input reads as it did. -/
def streamKeepsUptoRow : OpenClaim := { program := "ythokppghpmkbaaa", sum := "5a2c7047aed12603a0706bbcd0f14bff6cf33fa1c292b25d1f6b57c728c84c04", func := "almonry/almonrylaw20.StreamKeeps", spec := "streamKeeps", recurses := true, apart := false, narrowed := true }
def StreamKeepsUptoSaid : Prop := streamKeepsUptoRow.holds Try.pinned (OpenSpec.upto streamKeepsSpec)

/-- 'almonrylaw20.StreamBounds', WHERE WHAT IT READS IS OF BULK AT MOST 1048576: true; the input reads as it did. -/
def streamBoundsUptoRow : OpenClaim := { program := "ythokppghpmkbaaa", sum := "5a2c7047aed12603a0706bbcd0f14bff6cf33fa1c292b25d1f6b57c728c84c04", func := "almonry/almonrylaw20.StreamBounds", spec := "streamBounds", recurses := true, apart := false, narrowed := true }
def StreamBoundsUptoSaid : Prop := streamBoundsUptoRow.holds Try.pinned (OpenSpec.upto streamBoundsSpec)

/-- 'almonrylaw23.SendNew', WHERE WHAT IT READS IS OF BULK AT MOST 1048576: true; the input reads as it did. -/
def sendNewUptoRow : OpenClaim := { program := "ythokppghpmkbaaa", sum := "5a2c7047aed12603a0706bbcd0f14bff6cf33fa1c292b25d1f6b57c728c84c04", func := "almonry/almonrylaw23.SendNew", spec := "sendNew", unfollowed := true, recurses := true, named := ["math/bits.divideError", "math/bits.overflowError"], apart := false, narrowed := true }
def SendNewUptoSaid : Prop := sendNewUptoRow.holds Try.pinned (OpenSpec.upto sendNewSpec)

/-- 'almonrylaw23.SendOrder', WHERE WHAT IT READS IS OF BULK AT MOST 1048576: true; the input reads as it did. -/
def sendOrderUptoRow : OpenClaim := { program := "ythokppghpmkbaaa", sum := "5a2c7047aed12603a0706bbcd0f14bff6cf33fa1c292b25d1f6b57c728c84c04", func := "almonry/almonrylaw23.SendOrder", spec := "sendOrder", unfollowed := true, recurses := true, named := ["math/bits.divideError", "math/bits.overflowError"], apart := false, narrowed := true }
def SendOrderUptoSaid : Prop := sendOrderUptoRow.holds Try.pinned (OpenSpec.upto sendOrderSpec)

end Rows
end Go.Proofs.Ythokppghpmkbaaa

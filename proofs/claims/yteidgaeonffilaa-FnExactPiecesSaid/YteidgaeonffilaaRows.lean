/-
  No cell of these rows narrows 'for every input' (looked for: loops, veiled, ifaces, maps, wideKeys, modest, calm, conditions, laid).
  DERIVED. THE GIVEN ROWS OF THIS SEAT. 12 by the template 'for every input the law returns true; each argument reads behind the call as it read before'; 0 by the template 'total and deterministic' (their statements: YteidgaeonffilaaTotals.lean).
  GIVEN WITH THE SEED: the statements are not yours to turn. If you find one false, say at which input.
  Laid BY PROGRAM, IN A SANDBOX (cutbox-rows.mjs): the forced cells as the released guide's own fill.sh prints them over the translation 0875cf240f567ecf… (all of the seat's roots in one cut). By AI agents, Wed Nov 11 2026. No macro, syntax, notation, axiom, sorry.
-/
import Derived.Test.YteidgaeonffilaaChecked
import GoSem.Claim
import GoSem.ClaimJoined
import GoSem.ClaimMapViews
import Derived.JoinedTies
import Derived.KernelRfl
namespace Go.Proofs.Yteidgaeonffilaa
/- THE CELL 'sum', in the pinned program and in every row, IS THE sha256 OF THE DUMP (.gsa) THAT YteidgaeonffilaaProg.lean LOADS. Nothing in Lean hashes anything: it is a label: what it is worth is what the hold of that sum in a sandbox is worth. -/
noncomputable def Try.pinned : Pinned := { name := "yteidgaeonffilaa", sum := "0875cf240f567ecfa1149fe573bee5a0e0226197c9e681d4063777f0f5ca56c4", checked := Try.checked }
namespace Rows
def none {H : Type} : Left H := { results := [], args := [] }

/-- 'laws.FnExactFingerMore': WHATEVER THE INPUT: true; the input reads as it did. -/
def fnExactFingerMoreSpec : ChangeSpec := { name := "fnExactFingerMore", fn := fun _ => fun
  | [d1, d2] => { results := [.lit (.bool true)], args := [d1, d2] }
  | _ => none }
def fnExactFingerMoreRow : OpenClaim := { program := "yteidgaeonffilaa", sum := "0875cf240f567ecfa1149fe573bee5a0e0226197c9e681d4063777f0f5ca56c4", func := "loop.example/g00259/laws.FnExactFingerMore", spec := "fnExactFingerMore", apart := false }
def FnExactFingerMoreSaid : Prop := fnExactFingerMoreRow.holds Try.pinned (OpenSpec.ofChange fnExactFingerMoreSpec)

/-- ITS FALSE NEIGHBOUR: 'it returns false'. Refute it at one input. -/
def fnExactFingerMoreWrong : ChangeSpec := { name := "fnExactFingerMore", fn := fun _ => fun
  | [d1, d2] => { results := [.lit (.bool false)], args := [d1, d2] }
  | _ => none }
def FnExactFingerMoreWrongFalsely : Prop := fnExactFingerMoreRow.holds Try.pinned (OpenSpec.ofChange fnExactFingerMoreWrong)

/-- 'laws.FnExactFinger': WHATEVER THE INPUT: true; the input reads as it did. -/
def fnExactFingerSpec : ChangeSpec := { name := "fnExactFinger", fn := fun _ => fun
  | [d] => { results := [.lit (.bool true)], args := [d] }
  | _ => none }
def fnExactFingerRow : OpenClaim := { program := "yteidgaeonffilaa", sum := "0875cf240f567ecfa1149fe573bee5a0e0226197c9e681d4063777f0f5ca56c4", func := "loop.example/g00259/laws.FnExactFinger", spec := "fnExactFinger", apart := false }
def FnExactFingerSaid : Prop := fnExactFingerRow.holds Try.pinned (OpenSpec.ofChange fnExactFingerSpec)

/-- ITS FALSE NEIGHBOUR: 'it returns false'. Refute it at one input. -/
def fnExactFingerWrong : ChangeSpec := { name := "fnExactFinger", fn := fun _ => fun
  | [d] => { results := [.lit (.bool false)], args := [d] }
  | _ => none }
def FnExactFingerWrongFalsely : Prop := fnExactFingerRow.holds Try.pinned (OpenSpec.ofChange fnExactFingerWrong)

/-- 'laws.FnExactFingerRoll': WHATEVER THE INPUT: true; the input reads as it did. -/
def fnExactFingerRollSpec : ChangeSpec := { name := "fnExactFingerRoll", fn := fun _ => fun
  | [d1, d2, d3] => { results := [.lit (.bool true)], args := [d1, d2, d3] }
  | _ => none }
def fnExactFingerRollRow : OpenClaim := { program := "yteidgaeonffilaa", sum := "0875cf240f567ecfa1149fe573bee5a0e0226197c9e681d4063777f0f5ca56c4", func := "loop.example/g00259/laws.FnExactFingerRoll", spec := "fnExactFingerRoll", apart := false }
def FnExactFingerRollSaid : Prop := fnExactFingerRollRow.holds Try.pinned (OpenSpec.ofChange fnExactFingerRollSpec)

/-- ITS FALSE NEIGHBOUR: 'it returns false'. Refute it at one input. -/
def fnExactFingerRollWrong : ChangeSpec := { name := "fnExactFingerRoll", fn := fun _ => fun
  | [d1, d2, d3] => { results := [.lit (.bool false)], args := [d1, d2, d3] }
  | _ => none }
def FnExactFingerRollWrongFalsely : Prop := fnExactFingerRollRow.holds Try.pinned (OpenSpec.ofChange fnExactFingerRollWrong)

/-- 'laws.FnExactCutAt': WHATEVER THE INPUT: true; the input reads as it did. -/
def fnExactCutAtSpec : ChangeSpec := { name := "fnExactCutAt", fn := fun _ => fun
  | [d1, d2] => { results := [.lit (.bool true)], args := [d1, d2] }
  | _ => none }
def fnExactCutAtRow : OpenClaim := { program := "yteidgaeonffilaa", sum := "0875cf240f567ecfa1149fe573bee5a0e0226197c9e681d4063777f0f5ca56c4", func := "loop.example/g00259/laws.FnExactCutAt", spec := "fnExactCutAt", apart := false }
def FnExactCutAtSaid : Prop := fnExactCutAtRow.holds Try.pinned (OpenSpec.ofChange fnExactCutAtSpec)

/-- ITS FALSE NEIGHBOUR: 'it returns false'. Refute it at one input. -/
def fnExactCutAtWrong : ChangeSpec := { name := "fnExactCutAt", fn := fun _ => fun
  | [d1, d2] => { results := [.lit (.bool false)], args := [d1, d2] }
  | _ => none }
def FnExactCutAtWrongFalsely : Prop := fnExactCutAtRow.holds Try.pinned (OpenSpec.ofChange fnExactCutAtWrong)

/-- 'laws.FnExactPieces': WHATEVER THE INPUT: true; the input reads as it did. -/
def fnExactPiecesSpec : ChangeSpec := { name := "fnExactPieces", fn := fun _ => fun
  | [d1, d2] => { results := [.lit (.bool true)], args := [d1, d2] }
  | _ => none }
def fnExactPiecesRow : OpenClaim := { program := "yteidgaeonffilaa", sum := "0875cf240f567ecfa1149fe573bee5a0e0226197c9e681d4063777f0f5ca56c4", func := "loop.example/g00259/laws.FnExactPieces", spec := "fnExactPieces", apart := false }
def FnExactPiecesSaid : Prop := fnExactPiecesRow.holds Try.pinned (OpenSpec.ofChange fnExactPiecesSpec)

/-- ITS FALSE NEIGHBOUR: 'it returns false'. Refute it at one input. -/
def fnExactPiecesWrong : ChangeSpec := { name := "fnExactPieces", fn := fun _ => fun
  | [d1, d2] => { results := [.lit (.bool false)], args := [d1, d2] }
  | _ => none }
def FnExactPiecesWrongFalsely : Prop := fnExactPiecesRow.holds Try.pinned (OpenSpec.ofChange fnExactPiecesWrong)

/-- 'laws.FnExactFieldMul': WHATEVER THE INPUT: true; the input reads as it did. -/
def fnExactFieldMulSpec : ChangeSpec := { name := "fnExactFieldMul", fn := fun _ => fun
  | [d1, d2] => { results := [.lit (.bool true)], args := [d1, d2] }
  | _ => none }
def fnExactFieldMulRow : OpenClaim := { program := "yteidgaeonffilaa", sum := "0875cf240f567ecfa1149fe573bee5a0e0226197c9e681d4063777f0f5ca56c4", func := "loop.example/g00259/laws.FnExactFieldMul", spec := "fnExactFieldMul", apart := false }
def FnExactFieldMulSaid : Prop := fnExactFieldMulRow.holds Try.pinned (OpenSpec.ofChange fnExactFieldMulSpec)

/-- ITS FALSE NEIGHBOUR: 'it returns false'. Refute it at one input. -/
def fnExactFieldMulWrong : ChangeSpec := { name := "fnExactFieldMul", fn := fun _ => fun
  | [d1, d2] => { results := [.lit (.bool false)], args := [d1, d2] }
  | _ => none }
def FnExactFieldMulWrongFalsely : Prop := fnExactFieldMulRow.holds Try.pinned (OpenSpec.ofChange fnExactFieldMulWrong)

/-- 'laws.FnExactFieldExp': WHATEVER THE INPUT: true; the input reads as it did. -/
def fnExactFieldExpSpec : ChangeSpec := { name := "fnExactFieldExp", fn := fun _ => fun
  | [d] => { results := [.lit (.bool true)], args := [d] }
  | _ => none }
def fnExactFieldExpRow : OpenClaim := { program := "yteidgaeonffilaa", sum := "0875cf240f567ecfa1149fe573bee5a0e0226197c9e681d4063777f0f5ca56c4", func := "loop.example/g00259/laws.FnExactFieldExp", spec := "fnExactFieldExp", apart := false }
def FnExactFieldExpSaid : Prop := fnExactFieldExpRow.holds Try.pinned (OpenSpec.ofChange fnExactFieldExpSpec)

/-- ITS FALSE NEIGHBOUR: 'it returns false'. Refute it at one input. -/
def fnExactFieldExpWrong : ChangeSpec := { name := "fnExactFieldExp", fn := fun _ => fun
  | [d] => { results := [.lit (.bool false)], args := [d] }
  | _ => none }
def FnExactFieldExpWrongFalsely : Prop := fnExactFieldExpRow.holds Try.pinned (OpenSpec.ofChange fnExactFieldExpWrong)

/-- 'laws.FnExactFieldLog': WHATEVER THE INPUT: true; the input reads as it did. -/
def fnExactFieldLogSpec : ChangeSpec := { name := "fnExactFieldLog", fn := fun _ => fun
  | [d] => { results := [.lit (.bool true)], args := [d] }
  | _ => none }
def fnExactFieldLogRow : OpenClaim := { program := "yteidgaeonffilaa", sum := "0875cf240f567ecfa1149fe573bee5a0e0226197c9e681d4063777f0f5ca56c4", func := "loop.example/g00259/laws.FnExactFieldLog", spec := "fnExactFieldLog", apart := false }
def FnExactFieldLogSaid : Prop := fnExactFieldLogRow.holds Try.pinned (OpenSpec.ofChange fnExactFieldLogSpec)

/-- ITS FALSE NEIGHBOUR: 'it returns false'. Refute it at one input. -/
def fnExactFieldLogWrong : ChangeSpec := { name := "fnExactFieldLog", fn := fun _ => fun
  | [d] => { results := [.lit (.bool false)], args := [d] }
  | _ => none }
def FnExactFieldLogWrongFalsely : Prop := fnExactFieldLogRow.holds Try.pinned (OpenSpec.ofChange fnExactFieldLogWrong)

/-- 'laws.FnExactFieldInv': WHATEVER THE INPUT: true; the input reads as it did. -/
def fnExactFieldInvSpec : ChangeSpec := { name := "fnExactFieldInv", fn := fun _ => fun
  | [d] => { results := [.lit (.bool true)], args := [d] }
  | _ => none }
def fnExactFieldInvRow : OpenClaim := { program := "yteidgaeonffilaa", sum := "0875cf240f567ecfa1149fe573bee5a0e0226197c9e681d4063777f0f5ca56c4", func := "loop.example/g00259/laws.FnExactFieldInv", spec := "fnExactFieldInv", apart := false }
def FnExactFieldInvSaid : Prop := fnExactFieldInvRow.holds Try.pinned (OpenSpec.ofChange fnExactFieldInvSpec)

/-- ITS FALSE NEIGHBOUR: 'it returns false'. Refute it at one input. -/
def fnExactFieldInvWrong : ChangeSpec := { name := "fnExactFieldInv", fn := fun _ => fun
  | [d] => { results := [.lit (.bool false)], args := [d] }
  | _ => none }
def FnExactFieldInvWrongFalsely : Prop := fnExactFieldInvRow.holds Try.pinned (OpenSpec.ofChange fnExactFieldInvWrong)

/-- 'laws.FnExactFieldPow': WHATEVER THE INPUT: true; the input reads as it did. -/
def fnExactFieldPowSpec : ChangeSpec := { name := "fnExactFieldPow", fn := fun _ => fun
  | [d1, d2] => { results := [.lit (.bool true)], args := [d1, d2] }
  | _ => none }
def fnExactFieldPowRow : OpenClaim := { program := "yteidgaeonffilaa", sum := "0875cf240f567ecfa1149fe573bee5a0e0226197c9e681d4063777f0f5ca56c4", func := "loop.example/g00259/laws.FnExactFieldPow", spec := "fnExactFieldPow", apart := false }
def FnExactFieldPowSaid : Prop := fnExactFieldPowRow.holds Try.pinned (OpenSpec.ofChange fnExactFieldPowSpec)

/-- ITS FALSE NEIGHBOUR: 'it returns false'. Refute it at one input. -/
def fnExactFieldPowWrong : ChangeSpec := { name := "fnExactFieldPow", fn := fun _ => fun
  | [d1, d2] => { results := [.lit (.bool false)], args := [d1, d2] }
  | _ => none }
def FnExactFieldPowWrongFalsely : Prop := fnExactFieldPowRow.holds Try.pinned (OpenSpec.ofChange fnExactFieldPowWrong)

/-- 'laws.FnExactFieldDiv': WHATEVER THE INPUT: true; the input reads as it did. -/
def fnExactFieldDivSpec : ChangeSpec := { name := "fnExactFieldDiv", fn := fun _ => fun
  | [d1, d2] => { results := [.lit (.bool true)], args := [d1, d2] }
  | _ => none }
def fnExactFieldDivRow : OpenClaim := { program := "yteidgaeonffilaa", sum := "0875cf240f567ecfa1149fe573bee5a0e0226197c9e681d4063777f0f5ca56c4", func := "loop.example/g00259/laws.FnExactFieldDiv", spec := "fnExactFieldDiv", apart := false }
def FnExactFieldDivSaid : Prop := fnExactFieldDivRow.holds Try.pinned (OpenSpec.ofChange fnExactFieldDivSpec)

/-- ITS FALSE NEIGHBOUR: 'it returns false'. Refute it at one input. -/
def fnExactFieldDivWrong : ChangeSpec := { name := "fnExactFieldDiv", fn := fun _ => fun
  | [d1, d2] => { results := [.lit (.bool false)], args := [d1, d2] }
  | _ => none }
def FnExactFieldDivWrongFalsely : Prop := fnExactFieldDivRow.holds Try.pinned (OpenSpec.ofChange fnExactFieldDivWrong)

/-- 'laws.FnField': WHATEVER THE INPUT: true; the input reads as it did. -/
def fnFieldSpec : ChangeSpec := { name := "fnField", fn := fun _ => fun
  | [d1, d2] => { results := [.lit (.bool true)], args := [d1, d2] }
  | _ => none }
def fnFieldRow : OpenClaim := { program := "yteidgaeonffilaa", sum := "0875cf240f567ecfa1149fe573bee5a0e0226197c9e681d4063777f0f5ca56c4", func := "loop.example/g00259/laws.FnField", spec := "fnField", apart := false }
def FnFieldSaid : Prop := fnFieldRow.holds Try.pinned (OpenSpec.ofChange fnFieldSpec)

/-- ITS FALSE NEIGHBOUR: 'it returns false'. Refute it at one input. -/
def fnFieldWrong : ChangeSpec := { name := "fnField", fn := fun _ => fun
  | [d1, d2] => { results := [.lit (.bool false)], args := [d1, d2] }
  | _ => none }
def FnFieldWrongFalsely : Prop := fnFieldRow.holds Try.pinned (OpenSpec.ofChange fnFieldWrong)

/- THE SECOND FORM. 'bulk': how many values and letters a reading holds, each counted each time it is reached (what is shared counts as often as it is met; a slice's spare places count too). A statement '..UptoSaid' is the law's where the arguments, and the package variables that the reading takes, are together of bulk at most 1048576: NARROWER than '..Said'. Prove '..Said' where nothing that the law and all that it calls make is longer than what came in: it says more and counts as full. Else prove '..UptoSaid'. A law counts once. -/
mutual
def uptoBulk {H : Type} : DataW H → Nat
  | .lit (.string bytes) => bytes.length + 1
  | .lit _ => 1
  | .nil => 1
  | .ptr d => uptoBulk d + 1
  | .slice elems spare => uptoBulkAll elems + uptoBulkAll spare + 1
  | .agg parts => uptoBulkAll parts + 1
  | .iface _ d => uptoBulk d + 1
  | .map entries => uptoBulkEntries entries + 1
  | .held _ => 1
def uptoBulkAll {H : Type} : List (DataW H) → Nat
  | [] => 0
  | d :: r => uptoBulk d + uptoBulkAll r
def uptoBulkEntries {H : Type} : List (Lit × DataW H) → Nat
  | [] => 0
  | x :: r => uptoBulkEntry x + uptoBulkEntries r
def uptoBulkEntry {H : Type} : Lit × DataW H → Nat
  | (.string bytes, d) => bytes.length + uptoBulk d + 1
  | (_, d) => uptoBulk d + 1
 end
def uptoSmall : (H : Type) → List (DataW H) → Bool := fun _ ds => decide (uptoBulkAll ds ≤ 1048576)
def OpenSpec.upto (s : _root_.Go.ChangeSpec) : _root_.Go.OpenSpec := { _root_.Go.OpenSpec.ofChange s with cond := some uptoSmall }

/-- 'laws.FnExactFingerMore', WHERE WHAT IT READS IS OF BULK AT MOST 1048576: true; the input reads as it did. -/
def fnExactFingerMoreUptoRow : OpenClaim := { program := "yteidgaeonffilaa", sum := "0875cf240f567ecfa1149fe573bee5a0e0226197c9e681d4063777f0f5ca56c4", func := "loop.example/g00259/laws.FnExactFingerMore", spec := "fnExactFingerMore", apart := false, narrowed := true }
def FnExactFingerMoreUptoSaid : Prop := fnExactFingerMoreUptoRow.holds Try.pinned (OpenSpec.upto fnExactFingerMoreSpec)

/-- 'laws.FnExactFinger', WHERE WHAT IT READS IS OF BULK AT MOST 1048576: true; the input reads as it did. -/
def fnExactFingerUptoRow : OpenClaim := { program := "yteidgaeonffilaa", sum := "0875cf240f567ecfa1149fe573bee5a0e0226197c9e681d4063777f0f5ca56c4", func := "loop.example/g00259/laws.FnExactFinger", spec := "fnExactFinger", apart := false, narrowed := true }
def FnExactFingerUptoSaid : Prop := fnExactFingerUptoRow.holds Try.pinned (OpenSpec.upto fnExactFingerSpec)

/-- 'laws.FnExactFingerRoll', WHERE WHAT IT READS IS OF BULK AT MOST 1048576: true; the input reads as it did. -/
def fnExactFingerRollUptoRow : OpenClaim := { program := "yteidgaeonffilaa", sum := "0875cf240f567ecfa1149fe573bee5a0e0226197c9e681d4063777f0f5ca56c4", func := "loop.example/g00259/laws.FnExactFingerRoll", spec := "fnExactFingerRoll", apart := false, narrowed := true }
def FnExactFingerRollUptoSaid : Prop := fnExactFingerRollUptoRow.holds Try.pinned (OpenSpec.upto fnExactFingerRollSpec)

/-- 'laws.FnExactCutAt', WHERE WHAT IT READS IS OF BULK AT MOST 1048576: true; the input reads as it did. -/
def fnExactCutAtUptoRow : OpenClaim := { program := "yteidgaeonffilaa", sum := "0875cf240f567ecfa1149fe573bee5a0e0226197c9e681d4063777f0f5ca56c4", func := "loop.example/g00259/laws.FnExactCutAt", spec := "fnExactCutAt", apart := false, narrowed := true }
def FnExactCutAtUptoSaid : Prop := fnExactCutAtUptoRow.holds Try.pinned (OpenSpec.upto fnExactCutAtSpec)

/-- 'laws.FnExactPieces', WHERE WHAT IT READS IS OF BULK AT MOST 1048576: true; the input reads as it did. -/
def fnExactPiecesUptoRow : OpenClaim := { program := "yteidgaeonffilaa", sum := "0875cf240f567ecfa1149fe573bee5a0e0226197c9e681d4063777f0f5ca56c4", func := "loop.example/g00259/laws.FnExactPieces", spec := "fnExactPieces", apart := false, narrowed := true }
def FnExactPiecesUptoSaid : Prop := fnExactPiecesUptoRow.holds Try.pinned (OpenSpec.upto fnExactPiecesSpec)

/-- 'laws.FnExactFieldMul', WHERE WHAT IT READS IS OF BULK AT MOST 1048576: true; the input reads as it did. -/
def fnExactFieldMulUptoRow : OpenClaim := { program := "yteidgaeonffilaa", sum := "0875cf240f567ecfa1149fe573bee5a0e0226197c9e681d4063777f0f5ca56c4", func := "loop.example/g00259/laws.FnExactFieldMul", spec := "fnExactFieldMul", apart := false, narrowed := true }
def FnExactFieldMulUptoSaid : Prop := fnExactFieldMulUptoRow.holds Try.pinned (OpenSpec.upto fnExactFieldMulSpec)

/-- 'laws.FnExactFieldExp', WHERE WHAT IT READS IS OF BULK AT MOST 1048576: true; the input reads as it did. -/
def fnExactFieldExpUptoRow : OpenClaim := { program := "yteidgaeonffilaa", sum := "0875cf240f567ecfa1149fe573bee5a0e0226197c9e681d4063777f0f5ca56c4", func := "loop.example/g00259/laws.FnExactFieldExp", spec := "fnExactFieldExp", apart := false, narrowed := true }
def FnExactFieldExpUptoSaid : Prop := fnExactFieldExpUptoRow.holds Try.pinned (OpenSpec.upto fnExactFieldExpSpec)

/-- 'laws.FnExactFieldLog', WHERE WHAT IT READS IS OF BULK AT MOST 1048576: true; the input reads as it did. -/
def fnExactFieldLogUptoRow : OpenClaim := { program := "yteidgaeonffilaa", sum := "0875cf240f567ecfa1149fe573bee5a0e0226197c9e681d4063777f0f5ca56c4", func := "loop.example/g00259/laws.FnExactFieldLog", spec := "fnExactFieldLog", apart := false, narrowed := true }
def FnExactFieldLogUptoSaid : Prop := fnExactFieldLogUptoRow.holds Try.pinned (OpenSpec.upto fnExactFieldLogSpec)

/-- 'laws.FnExactFieldInv', WHERE WHAT IT READS IS OF BULK AT MOST 1048576: true; the input reads as it did. -/
def fnExactFieldInvUptoRow : OpenClaim := { program := "yteidgaeonffilaa", sum := "0875cf240f567ecfa1149fe573bee5a0e0226197c9e681d4063777f0f5ca56c4", func := "loop.example/g00259/laws.FnExactFieldInv", spec := "fnExactFieldInv", apart := false, narrowed := true }
def FnExactFieldInvUptoSaid : Prop := fnExactFieldInvUptoRow.holds Try.pinned (OpenSpec.upto fnExactFieldInvSpec)

/-- 'laws.FnExactFieldPow', WHERE WHAT IT READS IS OF BULK AT MOST 1048576: true; the input reads as it did. -/
def fnExactFieldPowUptoRow : OpenClaim := { program := "yteidgaeonffilaa", sum := "0875cf240f567ecfa1149fe573bee5a0e0226197c9e681d4063777f0f5ca56c4", func := "loop.example/g00259/laws.FnExactFieldPow", spec := "fnExactFieldPow", apart := false, narrowed := true }
def FnExactFieldPowUptoSaid : Prop := fnExactFieldPowUptoRow.holds Try.pinned (OpenSpec.upto fnExactFieldPowSpec)

/-- 'laws.FnExactFieldDiv', WHERE WHAT IT READS IS OF BULK AT MOST 1048576: true; the input reads as it did. -/
def fnExactFieldDivUptoRow : OpenClaim := { program := "yteidgaeonffilaa", sum := "0875cf240f567ecfa1149fe573bee5a0e0226197c9e681d4063777f0f5ca56c4", func := "loop.example/g00259/laws.FnExactFieldDiv", spec := "fnExactFieldDiv", apart := false, narrowed := true }
def FnExactFieldDivUptoSaid : Prop := fnExactFieldDivUptoRow.holds Try.pinned (OpenSpec.upto fnExactFieldDivSpec)

/-- 'laws.FnField', WHERE WHAT IT READS IS OF BULK AT MOST 1048576: true; the input reads as it did. -/
def fnFieldUptoRow : OpenClaim := { program := "yteidgaeonffilaa", sum := "0875cf240f567ecfa1149fe573bee5a0e0226197c9e681d4063777f0f5ca56c4", func := "loop.example/g00259/laws.FnField", spec := "fnField", apart := false, narrowed := true }
def FnFieldUptoSaid : Prop := fnFieldUptoRow.holds Try.pinned (OpenSpec.upto fnFieldSpec)

end Rows
end Go.Proofs.Yteidgaeonffilaa

/-
  No cell of these rows narrows 'for every input' (looked for: loops, veiled, ifaces, maps, wideKeys, modest, calm, conditions, laid).
  DERIVED. THE GIVEN ROWS OF THIS SEAT. 10 by the template 'for every input the law returns true; each argument reads behind the call as it read before'; 0 by the template 'total and deterministic' (their statements: YtinkkjmngnblmaaTotals.lean).
  GIVEN WITH THE SEED: the statements are not yours to turn. If you find one false, say at which input.
  Laid BY PROGRAM, IN A SANDBOX (cutbox-rows.mjs): the forced cells as the released guide's own fill.sh prints them over the translation 3e90e5c90a184c77… (all of the seat's roots in one cut). By AI agents, Wed Nov 11 2026. No macro, syntax, notation, axiom, sorry.
-/
import Derived.Test.YtinkkjmngnblmaaChecked
import GoSem.Claim
import GoSem.ClaimJoined
import GoSem.ClaimMapViews
import Derived.JoinedTies
import Derived.KernelRfl
namespace Go.Proofs.Ytinkkjmngnblmaa
/- THE CELL 'sum', in the pinned program and in every row, IS THE sha256 OF THE DUMP (.gsa) THAT YtinkkjmngnblmaaProg.lean LOADS. Nothing in Lean hashes anything: it is a label: what it is worth is what the hold of that sum in a sandbox is worth. -/
noncomputable def Try.pinned : Pinned := { name := "ytinkkjmngnblmaa", sum := "3e90e5c90a184c771378c0e197305ee6c16a64b11981b2a5299da124a90739d2", checked := Try.checked }
namespace Rows
def none {H : Type} : Left H := { results := [], args := [] }

/-- 'laws.FnExactConstants': WHATEVER THE INPUT: true; the input reads as it did. -/
def fnExactConstantsSpec : ChangeSpec := { name := "fnExactConstants", fn := fun _ => fun
  | [] => { results := [.lit (.bool true)], args := [] }
  | _ => none }
def fnExactConstantsRow : OpenClaim := { program := "ytinkkjmngnblmaa", sum := "3e90e5c90a184c771378c0e197305ee6c16a64b11981b2a5299da124a90739d2", func := "loop.example/g00259/laws.FnExactConstants", spec := "fnExactConstants", apart := false }
def FnExactConstantsSaid : Prop := fnExactConstantsRow.holds Try.pinned (OpenSpec.ofChange fnExactConstantsSpec)

/-- ITS FALSE NEIGHBOUR: 'it returns false'. Refute it at one input. -/
def fnExactConstantsWrong : ChangeSpec := { name := "fnExactConstants", fn := fun _ => fun
  | [] => { results := [.lit (.bool false)], args := [] }
  | _ => none }
def FnExactConstantsWrongFalsely : Prop := fnExactConstantsRow.holds Try.pinned (OpenSpec.ofChange fnExactConstantsWrong)

/-- 'laws.FnExactCodeRight': WHATEVER THE INPUT: true; the input reads as it did. -/
def fnExactCodeRightSpec : ChangeSpec := { name := "fnExactCodeRight", fn := fun _ => fun
  | [d1, d2] => { results := [.lit (.bool true)], args := [d1, d2] }
  | _ => none }
def fnExactCodeRightRow : OpenClaim := { program := "ytinkkjmngnblmaa", sum := "3e90e5c90a184c771378c0e197305ee6c16a64b11981b2a5299da124a90739d2", func := "loop.example/g00259/laws.FnExactCodeRight", spec := "fnExactCodeRight", apart := false }
def FnExactCodeRightSaid : Prop := fnExactCodeRightRow.holds Try.pinned (OpenSpec.ofChange fnExactCodeRightSpec)

/-- ITS FALSE NEIGHBOUR: 'it returns false'. Refute it at one input. -/
def fnExactCodeRightWrong : ChangeSpec := { name := "fnExactCodeRight", fn := fun _ => fun
  | [d1, d2] => { results := [.lit (.bool false)], args := [d1, d2] }
  | _ => none }
def FnExactCodeRightWrongFalsely : Prop := fnExactCodeRightRow.holds Try.pinned (OpenSpec.ofChange fnExactCodeRightWrong)

/-- 'laws.FnExactCuttingRight': WHATEVER THE INPUT: true; the input reads as it did. -/
def fnExactCuttingRightSpec : ChangeSpec := { name := "fnExactCuttingRight", fn := fun _ => fun
  | [d] => { results := [.lit (.bool true)], args := [d] }
  | _ => none }
def fnExactCuttingRightRow : OpenClaim := { program := "ytinkkjmngnblmaa", sum := "3e90e5c90a184c771378c0e197305ee6c16a64b11981b2a5299da124a90739d2", func := "loop.example/g00259/laws.FnExactCuttingRight", spec := "fnExactCuttingRight", apart := false }
def FnExactCuttingRightSaid : Prop := fnExactCuttingRightRow.holds Try.pinned (OpenSpec.ofChange fnExactCuttingRightSpec)

/-- ITS FALSE NEIGHBOUR: 'it returns false'. Refute it at one input. -/
def fnExactCuttingRightWrong : ChangeSpec := { name := "fnExactCuttingRight", fn := fun _ => fun
  | [d] => { results := [.lit (.bool false)], args := [d] }
  | _ => none }
def FnExactCuttingRightWrongFalsely : Prop := fnExactCuttingRightRow.holds Try.pinned (OpenSpec.ofChange fnExactCuttingRightWrong)

/-- 'laws.FnExactShardSize': WHATEVER THE INPUT: true; the input reads as it did. -/
def fnExactShardSizeSpec : ChangeSpec := { name := "fnExactShardSize", fn := fun _ => fun
  | [d1, d2] => { results := [.lit (.bool true)], args := [d1, d2] }
  | _ => none }
def fnExactShardSizeRow : OpenClaim := { program := "ytinkkjmngnblmaa", sum := "3e90e5c90a184c771378c0e197305ee6c16a64b11981b2a5299da124a90739d2", func := "loop.example/g00259/laws.FnExactShardSize", spec := "fnExactShardSize", apart := false }
def FnExactShardSizeSaid : Prop := fnExactShardSizeRow.holds Try.pinned (OpenSpec.ofChange fnExactShardSizeSpec)

/-- ITS FALSE NEIGHBOUR: 'it returns false'. Refute it at one input. -/
def fnExactShardSizeWrong : ChangeSpec := { name := "fnExactShardSize", fn := fun _ => fun
  | [d1, d2] => { results := [.lit (.bool false)], args := [d1, d2] }
  | _ => none }
def FnExactShardSizeWrongFalsely : Prop := fnExactShardSizeRow.holds Try.pinned (OpenSpec.ofChange fnExactShardSizeWrong)

/-- 'laws.FnExactBlobRight': WHATEVER THE INPUT: true; the input reads as it did. -/
def fnExactBlobRightSpec : ChangeSpec := { name := "fnExactBlobRight", fn := fun _ => fun
  | [d] => { results := [.lit (.bool true)], args := [d] }
  | _ => none }
def fnExactBlobRightRow : OpenClaim := { program := "ytinkkjmngnblmaa", sum := "3e90e5c90a184c771378c0e197305ee6c16a64b11981b2a5299da124a90739d2", func := "loop.example/g00259/laws.FnExactBlobRight", spec := "fnExactBlobRight", apart := false }
def FnExactBlobRightSaid : Prop := fnExactBlobRightRow.holds Try.pinned (OpenSpec.ofChange fnExactBlobRightSpec)

/-- ITS FALSE NEIGHBOUR: 'it returns false'. Refute it at one input. -/
def fnExactBlobRightWrong : ChangeSpec := { name := "fnExactBlobRight", fn := fun _ => fun
  | [d] => { results := [.lit (.bool false)], args := [d] }
  | _ => none }
def FnExactBlobRightWrongFalsely : Prop := fnExactBlobRightRow.holds Try.pinned (OpenSpec.ofChange fnExactBlobRightWrong)

/-- 'laws.FnExactPutNum': WHATEVER THE INPUT: true; the input reads as it did. -/
def fnExactPutNumSpec : ChangeSpec := { name := "fnExactPutNum", fn := fun _ => fun
  | [d] => { results := [.lit (.bool true)], args := [d] }
  | _ => none }
def fnExactPutNumRow : OpenClaim := { program := "ytinkkjmngnblmaa", sum := "3e90e5c90a184c771378c0e197305ee6c16a64b11981b2a5299da124a90739d2", func := "loop.example/g00259/laws.FnExactPutNum", spec := "fnExactPutNum", apart := false }
def FnExactPutNumSaid : Prop := fnExactPutNumRow.holds Try.pinned (OpenSpec.ofChange fnExactPutNumSpec)

/-- ITS FALSE NEIGHBOUR: 'it returns false'. Refute it at one input. -/
def fnExactPutNumWrong : ChangeSpec := { name := "fnExactPutNum", fn := fun _ => fun
  | [d] => { results := [.lit (.bool false)], args := [d] }
  | _ => none }
def FnExactPutNumWrongFalsely : Prop := fnExactPutNumRow.holds Try.pinned (OpenSpec.ofChange fnExactPutNumWrong)

/-- 'laws.FnExactHex': WHATEVER THE INPUT: true; the input reads as it did. -/
def fnExactHexSpec : ChangeSpec := { name := "fnExactHex", fn := fun _ => fun
  | [d] => { results := [.lit (.bool true)], args := [d] }
  | _ => none }
def fnExactHexRow : OpenClaim := { program := "ytinkkjmngnblmaa", sum := "3e90e5c90a184c771378c0e197305ee6c16a64b11981b2a5299da124a90739d2", func := "loop.example/g00259/laws.FnExactHex", spec := "fnExactHex", apart := false }
def FnExactHexSaid : Prop := fnExactHexRow.holds Try.pinned (OpenSpec.ofChange fnExactHexSpec)

/-- ITS FALSE NEIGHBOUR: 'it returns false'. Refute it at one input. -/
def fnExactHexWrong : ChangeSpec := { name := "fnExactHex", fn := fun _ => fun
  | [d] => { results := [.lit (.bool false)], args := [d] }
  | _ => none }
def FnExactHexWrongFalsely : Prop := fnExactHexRow.holds Try.pinned (OpenSpec.ofChange fnExactHexWrong)

/-- 'laws.FnExactNameRight': WHATEVER THE INPUT: true; the input reads as it did. -/
def fnExactNameRightSpec : ChangeSpec := { name := "fnExactNameRight", fn := fun _ => fun
  | [d] => { results := [.lit (.bool true)], args := [d] }
  | _ => none }
def fnExactNameRightRow : OpenClaim := { program := "ytinkkjmngnblmaa", sum := "3e90e5c90a184c771378c0e197305ee6c16a64b11981b2a5299da124a90739d2", func := "loop.example/g00259/laws.FnExactNameRight", spec := "fnExactNameRight", apart := false }
def FnExactNameRightSaid : Prop := fnExactNameRightRow.holds Try.pinned (OpenSpec.ofChange fnExactNameRightSpec)

/-- ITS FALSE NEIGHBOUR: 'it returns false'. Refute it at one input. -/
def fnExactNameRightWrong : ChangeSpec := { name := "fnExactNameRight", fn := fun _ => fun
  | [d] => { results := [.lit (.bool false)], args := [d] }
  | _ => none }
def FnExactNameRightWrongFalsely : Prop := fnExactNameRightRow.holds Try.pinned (OpenSpec.ofChange fnExactNameRightWrong)

/-- 'laws.FnExactPutText': WHATEVER THE INPUT: true; the input reads as it did. -/
def fnExactPutTextSpec : ChangeSpec := { name := "fnExactPutText", fn := fun _ => fun
  | [d] => { results := [.lit (.bool true)], args := [d] }
  | _ => none }
def fnExactPutTextRow : OpenClaim := { program := "ytinkkjmngnblmaa", sum := "3e90e5c90a184c771378c0e197305ee6c16a64b11981b2a5299da124a90739d2", func := "loop.example/g00259/laws.FnExactPutText", spec := "fnExactPutText", apart := false }
def FnExactPutTextSaid : Prop := fnExactPutTextRow.holds Try.pinned (OpenSpec.ofChange fnExactPutTextSpec)

/-- ITS FALSE NEIGHBOUR: 'it returns false'. Refute it at one input. -/
def fnExactPutTextWrong : ChangeSpec := { name := "fnExactPutText", fn := fun _ => fun
  | [d] => { results := [.lit (.bool false)], args := [d] }
  | _ => none }
def FnExactPutTextWrongFalsely : Prop := fnExactPutTextRow.holds Try.pinned (OpenSpec.ofChange fnExactPutTextWrong)

/-- 'laws.FnExactHexRead': WHATEVER THE INPUT: true; the input reads as it did. -/
def fnExactHexReadSpec : ChangeSpec := { name := "fnExactHexRead", fn := fun _ => fun
  | [d] => { results := [.lit (.bool true)], args := [d] }
  | _ => none }
def fnExactHexReadRow : OpenClaim := { program := "ytinkkjmngnblmaa", sum := "3e90e5c90a184c771378c0e197305ee6c16a64b11981b2a5299da124a90739d2", func := "loop.example/g00259/laws.FnExactHexRead", spec := "fnExactHexRead", inPlace := ["internal/bytealg.IndexByteString"], apart := false }
def FnExactHexReadSaid : Prop := fnExactHexReadRow.holds Try.pinned (OpenSpec.ofChange fnExactHexReadSpec)

/-- ITS FALSE NEIGHBOUR: 'it returns false'. Refute it at one input. -/
def fnExactHexReadWrong : ChangeSpec := { name := "fnExactHexRead", fn := fun _ => fun
  | [d] => { results := [.lit (.bool false)], args := [d] }
  | _ => none }
def FnExactHexReadWrongFalsely : Prop := fnExactHexReadRow.holds Try.pinned (OpenSpec.ofChange fnExactHexReadWrong)

/- THE SECOND FORM. 'bulk': how many values and letters a reading holds, each counted each time it is reached (what is shared counts as often as it is met; a slice's spare places count too). A statement '..UptoSaid' is the law's where the arguments, and the package variables that the reading takes, are together of bulk at most 1048576: NARROWER than '..Said'. Prove '..Said' where nothing that the law and all that it calls make is longer than what came in: it says more and counts as full. Else prove '..UptoSaid'. A law counts once. -/
mutual
def uptoBulk {H : Type} : DataW H → Nat
  | .lit (.string bytes) => bytes.length + 1
  | .lit _ => 1
  | .nil => 1
  | .ptr d => uptoBulk d + 1
  | .slice elems spare => uptoBulkAll elems + uptoBulkAll spare + 1
  | .agg parts => uptoBulkAll parts + 1
  | .iface _ d => uptoBulk d + 1
  | .map entries => uptoBulkEntries entries + 1
  | .held _ => 1
def uptoBulkAll {H : Type} : List (DataW H) → Nat
  | [] => 0
  | d :: r => uptoBulk d + uptoBulkAll r
def uptoBulkEntries {H : Type} : List (Lit × DataW H) → Nat
  | [] => 0
  | x :: r => uptoBulkEntry x + uptoBulkEntries r
def uptoBulkEntry {H : Type} : Lit × DataW H → Nat
  | (.string bytes, d) => bytes.length + uptoBulk d + 1
  | (_, d) => uptoBulk d + 1
 end
def uptoSmall : (H : Type) → List (DataW H) → Bool := fun _ ds => decide (uptoBulkAll ds ≤ 1048576)
def OpenSpec.upto (s : _root_.Go.ChangeSpec) : _root_.Go.OpenSpec := { _root_.Go.OpenSpec.ofChange s with cond := some uptoSmall }

/-- 'laws.FnExactConstants', WHERE WHAT IT READS IS OF BULK AT MOST 1048576: true; the input reads as it did. -/
def fnExactConstantsUptoRow : OpenClaim := { program := "ytinkkjmngnblmaa", sum := "3e90e5c90a184c771378c0e197305ee6c16a64b11981b2a5299da124a90739d2", func := "loop.example/g00259/laws.FnExactConstants", spec := "fnExactConstants", apart := false, narrowed := true }
def FnExactConstantsUptoSaid : Prop := fnExactConstantsUptoRow.holds Try.pinned (OpenSpec.upto fnExactConstantsSpec)

/-- 'laws.FnExactCodeRight', WHERE WHAT IT READS IS OF BULK AT MOST 1048576: true; the input reads as it did. -/
def fnExactCodeRightUptoRow : OpenClaim := { program := "ytinkkjmngnblmaa", sum := "3e90e5c90a184c771378c0e197305ee6c16a64b11981b2a5299da124a90739d2", func := "loop.example/g00259/laws.FnExactCodeRight", spec := "fnExactCodeRight", apart := false, narrowed := true }
def FnExactCodeRightUptoSaid : Prop := fnExactCodeRightUptoRow.holds Try.pinned (OpenSpec.upto fnExactCodeRightSpec)

/-- 'laws.FnExactCuttingRight', WHERE WHAT IT READS IS OF BULK AT MOST 1048576: true; the input reads as it did. -/
def fnExactCuttingRightUptoRow : OpenClaim := { program := "ytinkkjmngnblmaa", sum := "3e90e5c90a184c771378c0e197305ee6c16a64b11981b2a5299da124a90739d2", func := "loop.example/g00259/laws.FnExactCuttingRight", spec := "fnExactCuttingRight", apart := false, narrowed := true }
def FnExactCuttingRightUptoSaid : Prop := fnExactCuttingRightUptoRow.holds Try.pinned (OpenSpec.upto fnExactCuttingRightSpec)

/-- 'laws.FnExactShardSize', WHERE WHAT IT READS IS OF BULK AT MOST 1048576: true; the input reads as it did. -/
def fnExactShardSizeUptoRow : OpenClaim := { program := "ytinkkjmngnblmaa", sum := "3e90e5c90a184c771378c0e197305ee6c16a64b11981b2a5299da124a90739d2", func := "loop.example/g00259/laws.FnExactShardSize", spec := "fnExactShardSize", apart := false, narrowed := true }
def FnExactShardSizeUptoSaid : Prop := fnExactShardSizeUptoRow.holds Try.pinned (OpenSpec.upto fnExactShardSizeSpec)

/-- 'laws.FnExactBlobRight', WHERE WHAT IT READS IS OF BULK AT MOST 1048576: true; the input reads as it did. -/
def fnExactBlobRightUptoRow : OpenClaim := { program := "ytinkkjmngnblmaa", sum := "3e90e5c90a184c771378c0e197305ee6c16a64b11981b2a5299da124a90739d2", func := "loop.example/g00259/laws.FnExactBlobRight", spec := "fnExactBlobRight", apart := false, narrowed := true }
def FnExactBlobRightUptoSaid : Prop := fnExactBlobRightUptoRow.holds Try.pinned (OpenSpec.upto fnExactBlobRightSpec)

/-- 'laws.FnExactPutNum', WHERE WHAT IT READS IS OF BULK AT MOST 1048576: true; the input reads as it did. -/
def fnExactPutNumUptoRow : OpenClaim := { program := "ytinkkjmngnblmaa", sum := "3e90e5c90a184c771378c0e197305ee6c16a64b11981b2a5299da124a90739d2", func := "loop.example/g00259/laws.FnExactPutNum", spec := "fnExactPutNum", apart := false, narrowed := true }
def FnExactPutNumUptoSaid : Prop := fnExactPutNumUptoRow.holds Try.pinned (OpenSpec.upto fnExactPutNumSpec)

/-- 'laws.FnExactHex', WHERE WHAT IT READS IS OF BULK AT MOST 1048576: true; the input reads as it did. -/
def fnExactHexUptoRow : OpenClaim := { program := "ytinkkjmngnblmaa", sum := "3e90e5c90a184c771378c0e197305ee6c16a64b11981b2a5299da124a90739d2", func := "loop.example/g00259/laws.FnExactHex", spec := "fnExactHex", apart := false, narrowed := true }
def FnExactHexUptoSaid : Prop := fnExactHexUptoRow.holds Try.pinned (OpenSpec.upto fnExactHexSpec)

/-- 'laws.FnExactNameRight', WHERE WHAT IT READS IS OF BULK AT MOST 1048576: true; the input reads as it did. -/
def fnExactNameRightUptoRow : OpenClaim := { program := "ytinkkjmngnblmaa", sum := "3e90e5c90a184c771378c0e197305ee6c16a64b11981b2a5299da124a90739d2", func := "loop.example/g00259/laws.FnExactNameRight", spec := "fnExactNameRight", apart := false, narrowed := true }
def FnExactNameRightUptoSaid : Prop := fnExactNameRightUptoRow.holds Try.pinned (OpenSpec.upto fnExactNameRightSpec)

/-- 'laws.FnExactPutText', WHERE WHAT IT READS IS OF BULK AT MOST 1048576: true; the input reads as it did. -/
def fnExactPutTextUptoRow : OpenClaim := { program := "ytinkkjmngnblmaa", sum := "3e90e5c90a184c771378c0e197305ee6c16a64b11981b2a5299da124a90739d2", func := "loop.example/g00259/laws.FnExactPutText", spec := "fnExactPutText", apart := false, narrowed := true }
def FnExactPutTextUptoSaid : Prop := fnExactPutTextUptoRow.holds Try.pinned (OpenSpec.upto fnExactPutTextSpec)

/-- 'laws.FnExactHexRead', WHERE WHAT IT READS IS OF BULK AT MOST 1048576: true; the input reads as it did. -/
def fnExactHexReadUptoRow : OpenClaim := { program := "ytinkkjmngnblmaa", sum := "3e90e5c90a184c771378c0e197305ee6c16a64b11981b2a5299da124a90739d2", func := "loop.example/g00259/laws.FnExactHexRead", spec := "fnExactHexRead", inPlace := ["internal/bytealg.IndexByteString"], apart := false, narrowed := true }
def FnExactHexReadUptoSaid : Prop := fnExactHexReadUptoRow.holds Try.pinned (OpenSpec.upto fnExactHexReadSpec)

end Rows
end Go.Proofs.Ytinkkjmngnblmaa

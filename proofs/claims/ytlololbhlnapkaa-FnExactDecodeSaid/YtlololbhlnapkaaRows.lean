/-
  No cell of these rows narrows 'for every input' (looked for: loops, veiled, ifaces, maps, wideKeys, modest, calm, conditions, laid).
  DERIVED. THE GIVEN ROWS OF THIS SEAT. 12 by the template 'for every input the law returns true; each argument reads behind the call as it read before'; 0 by the template 'total and deterministic' (their statements: YtlololbhlnapkaaTotals.lean).
  GIVEN WITH THE SEED: the statements are not yours to turn. If you find one false, say at which input.
  Laid BY PROGRAM, IN A SANDBOX (cutbox-rows.mjs): the forced cells as the released guide's own fill.sh prints them over the translation 8f2ffa7e7559a08c… (all of the seat's roots in one cut). By AI agents, Wed Nov 11 2026. No macro, syntax, notation, axiom, sorry.
-/
import Derived.Test.YtlololbhlnapkaaChecked
import GoSem.Claim
import GoSem.ClaimJoined
import GoSem.ClaimMapViews
import Derived.JoinedTies
import Derived.KernelRfl
namespace Go.Proofs.Ytlololbhlnapkaa
/- THE CELL 'sum', in the pinned program and in every row, IS THE sha256 OF THE DUMP (.gsa) THAT YtlololbhlnapkaaProg.lean LOADS. Nothing in Lean hashes anything: it is a label: what it is worth is what the hold of that sum in a sandbox is worth. -/
noncomputable def Try.pinned : Pinned := { name := "ytlololbhlnapkaa", sum := "8f2ffa7e7559a08cbcc29d10d6e00ba3f93209eae2cdbbee54a923f1daff81d5", checked := Try.checked }
namespace Rows
def none {H : Type} : Left H := { results := [], args := [] }

/-- 'laws.FnExactMatrixRight': WHATEVER THE INPUT: true; the input reads as it did. -/
def fnExactMatrixRightSpec : ChangeSpec := { name := "fnExactMatrixRight", fn := fun _ => fun
  | [d] => { results := [.lit (.bool true)], args := [d] }
  | _ => none }
def fnExactMatrixRightRow : OpenClaim := { program := "ytlololbhlnapkaa", sum := "8f2ffa7e7559a08cbcc29d10d6e00ba3f93209eae2cdbbee54a923f1daff81d5", func := "loop.example/g00259/laws.FnExactMatrixRight", spec := "fnExactMatrixRight", unfollowed := true, recurses := true, apart := false }
def FnExactMatrixRightSaid : Prop := fnExactMatrixRightRow.holds Try.pinned (OpenSpec.ofChange fnExactMatrixRightSpec)

/-- ITS FALSE NEIGHBOUR: 'it returns false'. Refute it at one input. -/
def fnExactMatrixRightWrong : ChangeSpec := { name := "fnExactMatrixRight", fn := fun _ => fun
  | [d] => { results := [.lit (.bool false)], args := [d] }
  | _ => none }
def FnExactMatrixRightWrongFalsely : Prop := fnExactMatrixRightRow.holds Try.pinned (OpenSpec.ofChange fnExactMatrixRightWrong)

/-- 'laws.FnCauchy': WHATEVER THE INPUT: true; the input reads as it did. -/
def fnCauchySpec : ChangeSpec := { name := "fnCauchy", fn := fun _ => fun
  | [d1, d2] => { results := [.lit (.bool true)], args := [d1, d2] }
  | _ => none }
def fnCauchyRow : OpenClaim := { program := "ytlololbhlnapkaa", sum := "8f2ffa7e7559a08cbcc29d10d6e00ba3f93209eae2cdbbee54a923f1daff81d5", func := "loop.example/g00259/laws.FnCauchy", spec := "fnCauchy", unfollowed := true, recurses := true, apart := false }
def FnCauchySaid : Prop := fnCauchyRow.holds Try.pinned (OpenSpec.ofChange fnCauchySpec)

/-- ITS FALSE NEIGHBOUR: 'it returns false'. Refute it at one input. -/
def fnCauchyWrong : ChangeSpec := { name := "fnCauchy", fn := fun _ => fun
  | [d1, d2] => { results := [.lit (.bool false)], args := [d1, d2] }
  | _ => none }
def FnCauchyWrongFalsely : Prop := fnCauchyRow.holds Try.pinned (OpenSpec.ofChange fnCauchyWrong)

/-- 'laws.FnExactMatrixMul': WHATEVER THE INPUT: true; the input reads as it did. -/
def fnExactMatrixMulSpec : ChangeSpec := { name := "fnExactMatrixMul", fn := fun _ => fun
  | [d1, d2] => { results := [.lit (.bool true)], args := [d1, d2] }
  | _ => none }
def fnExactMatrixMulRow : OpenClaim := { program := "ytlololbhlnapkaa", sum := "8f2ffa7e7559a08cbcc29d10d6e00ba3f93209eae2cdbbee54a923f1daff81d5", func := "loop.example/g00259/laws.FnExactMatrixMul", spec := "fnExactMatrixMul", unfollowed := true, recurses := true, apart := false }
def FnExactMatrixMulSaid : Prop := fnExactMatrixMulRow.holds Try.pinned (OpenSpec.ofChange fnExactMatrixMulSpec)

/-- ITS FALSE NEIGHBOUR: 'it returns false'. Refute it at one input. -/
def fnExactMatrixMulWrong : ChangeSpec := { name := "fnExactMatrixMul", fn := fun _ => fun
  | [d1, d2] => { results := [.lit (.bool false)], args := [d1, d2] }
  | _ => none }
def FnExactMatrixMulWrongFalsely : Prop := fnExactMatrixMulRow.holds Try.pinned (OpenSpec.ofChange fnExactMatrixMulWrong)

/-- 'laws.FnExactMatrixPick': WHATEVER THE INPUT: true; the input reads as it did. -/
def fnExactMatrixPickSpec : ChangeSpec := { name := "fnExactMatrixPick", fn := fun _ => fun
  | [d1, d2] => { results := [.lit (.bool true)], args := [d1, d2] }
  | _ => none }
def fnExactMatrixPickRow : OpenClaim := { program := "ytlololbhlnapkaa", sum := "8f2ffa7e7559a08cbcc29d10d6e00ba3f93209eae2cdbbee54a923f1daff81d5", func := "loop.example/g00259/laws.FnExactMatrixPick", spec := "fnExactMatrixPick", unfollowed := true, recurses := true, apart := false }
def FnExactMatrixPickSaid : Prop := fnExactMatrixPickRow.holds Try.pinned (OpenSpec.ofChange fnExactMatrixPickSpec)

/-- ITS FALSE NEIGHBOUR: 'it returns false'. Refute it at one input. -/
def fnExactMatrixPickWrong : ChangeSpec := { name := "fnExactMatrixPick", fn := fun _ => fun
  | [d1, d2] => { results := [.lit (.bool false)], args := [d1, d2] }
  | _ => none }
def FnExactMatrixPickWrongFalsely : Prop := fnExactMatrixPickRow.holds Try.pinned (OpenSpec.ofChange fnExactMatrixPickWrong)

/-- 'laws.FnExactCauchy': WHATEVER THE INPUT: true; the input reads as it did. -/
def fnExactCauchySpec : ChangeSpec := { name := "fnExactCauchy", fn := fun _ => fun
  | [d1, d2] => { results := [.lit (.bool true)], args := [d1, d2] }
  | _ => none }
def fnExactCauchyRow : OpenClaim := { program := "ytlololbhlnapkaa", sum := "8f2ffa7e7559a08cbcc29d10d6e00ba3f93209eae2cdbbee54a923f1daff81d5", func := "loop.example/g00259/laws.FnExactCauchy", spec := "fnExactCauchy", apart := false }
def FnExactCauchySaid : Prop := fnExactCauchyRow.holds Try.pinned (OpenSpec.ofChange fnExactCauchySpec)

/-- ITS FALSE NEIGHBOUR: 'it returns false'. Refute it at one input. -/
def fnExactCauchyWrong : ChangeSpec := { name := "fnExactCauchy", fn := fun _ => fun
  | [d1, d2] => { results := [.lit (.bool false)], args := [d1, d2] }
  | _ => none }
def FnExactCauchyWrongFalsely : Prop := fnExactCauchyRow.holds Try.pinned (OpenSpec.ofChange fnExactCauchyWrong)

/-- 'laws.FnExactWhole': WHATEVER THE INPUT: true; the input reads as it did. -/
def fnExactWholeSpec : ChangeSpec := { name := "fnExactWhole", fn := fun _ => fun
  | [d1, d2, d3] => { results := [.lit (.bool true)], args := [d1, d2, d3] }
  | _ => none }
def fnExactWholeRow : OpenClaim := { program := "ytlololbhlnapkaa", sum := "8f2ffa7e7559a08cbcc29d10d6e00ba3f93209eae2cdbbee54a923f1daff81d5", func := "loop.example/g00259/laws.FnExactWhole", spec := "fnExactWhole", unfollowed := true, recurses := true, apart := false }
def FnExactWholeSaid : Prop := fnExactWholeRow.holds Try.pinned (OpenSpec.ofChange fnExactWholeSpec)

/-- ITS FALSE NEIGHBOUR: 'it returns false'. Refute it at one input. -/
def fnExactWholeWrong : ChangeSpec := { name := "fnExactWhole", fn := fun _ => fun
  | [d1, d2, d3] => { results := [.lit (.bool false)], args := [d1, d2, d3] }
  | _ => none }
def FnExactWholeWrongFalsely : Prop := fnExactWholeRow.holds Try.pinned (OpenSpec.ofChange fnExactWholeWrong)

/-- 'laws.FnExactMatrixRank': WHATEVER THE INPUT: true; the input reads as it did. -/
def fnExactMatrixRankSpec : ChangeSpec := { name := "fnExactMatrixRank", fn := fun _ => fun
  | [d] => { results := [.lit (.bool true)], args := [d] }
  | _ => none }
def fnExactMatrixRankRow : OpenClaim := { program := "ytlololbhlnapkaa", sum := "8f2ffa7e7559a08cbcc29d10d6e00ba3f93209eae2cdbbee54a923f1daff81d5", func := "loop.example/g00259/laws.FnExactMatrixRank", spec := "fnExactMatrixRank", unfollowed := true, recurses := true, apart := false }
def FnExactMatrixRankSaid : Prop := fnExactMatrixRankRow.holds Try.pinned (OpenSpec.ofChange fnExactMatrixRankSpec)

/-- ITS FALSE NEIGHBOUR: 'it returns false'. Refute it at one input. -/
def fnExactMatrixRankWrong : ChangeSpec := { name := "fnExactMatrixRank", fn := fun _ => fun
  | [d] => { results := [.lit (.bool false)], args := [d] }
  | _ => none }
def FnExactMatrixRankWrongFalsely : Prop := fnExactMatrixRankRow.holds Try.pinned (OpenSpec.ofChange fnExactMatrixRankWrong)

/-- 'laws.FnMatrix': WHATEVER THE INPUT: true; the input reads as it did. -/
def fnMatrixSpec : ChangeSpec := { name := "fnMatrix", fn := fun _ => fun
  | [d1, d2] => { results := [.lit (.bool true)], args := [d1, d2] }
  | _ => none }
def fnMatrixRow : OpenClaim := { program := "ytlololbhlnapkaa", sum := "8f2ffa7e7559a08cbcc29d10d6e00ba3f93209eae2cdbbee54a923f1daff81d5", func := "loop.example/g00259/laws.FnMatrix", spec := "fnMatrix", unfollowed := true, recurses := true, apart := false }
def FnMatrixSaid : Prop := fnMatrixRow.holds Try.pinned (OpenSpec.ofChange fnMatrixSpec)

/-- ITS FALSE NEIGHBOUR: 'it returns false'. Refute it at one input. -/
def fnMatrixWrong : ChangeSpec := { name := "fnMatrix", fn := fun _ => fun
  | [d1, d2] => { results := [.lit (.bool false)], args := [d1, d2] }
  | _ => none }
def FnMatrixWrongFalsely : Prop := fnMatrixRow.holds Try.pinned (OpenSpec.ofChange fnMatrixWrong)

/-- 'laws.FnExactMatrixInv': WHATEVER THE INPUT: true; the input reads as it did. -/
def fnExactMatrixInvSpec : ChangeSpec := { name := "fnExactMatrixInv", fn := fun _ => fun
  | [d] => { results := [.lit (.bool true)], args := [d] }
  | _ => none }
def fnExactMatrixInvRow : OpenClaim := { program := "ytlololbhlnapkaa", sum := "8f2ffa7e7559a08cbcc29d10d6e00ba3f93209eae2cdbbee54a923f1daff81d5", func := "loop.example/g00259/laws.FnExactMatrixInv", spec := "fnExactMatrixInv", unfollowed := true, recurses := true, apart := false }
def FnExactMatrixInvSaid : Prop := fnExactMatrixInvRow.holds Try.pinned (OpenSpec.ofChange fnExactMatrixInvSpec)

/-- ITS FALSE NEIGHBOUR: 'it returns false'. Refute it at one input. -/
def fnExactMatrixInvWrong : ChangeSpec := { name := "fnExactMatrixInv", fn := fun _ => fun
  | [d] => { results := [.lit (.bool false)], args := [d] }
  | _ => none }
def FnExactMatrixInvWrongFalsely : Prop := fnExactMatrixInvRow.holds Try.pinned (OpenSpec.ofChange fnExactMatrixInvWrong)

/-- 'laws.FnExactEncode': WHATEVER THE INPUT: true; the input reads as it did. -/
def fnExactEncodeSpec : ChangeSpec := { name := "fnExactEncode", fn := fun _ => fun
  | [d1, d2, d3] => { results := [.lit (.bool true)], args := [d1, d2, d3] }
  | _ => none }
def fnExactEncodeRow : OpenClaim := { program := "ytlololbhlnapkaa", sum := "8f2ffa7e7559a08cbcc29d10d6e00ba3f93209eae2cdbbee54a923f1daff81d5", func := "loop.example/g00259/laws.FnExactEncode", spec := "fnExactEncode", inPlace := ["internal/abi.NoEscape", "internal/bytealg.MakeNoZero"], apart := false }
def FnExactEncodeSaid : Prop := fnExactEncodeRow.holds Try.pinned (OpenSpec.ofChange fnExactEncodeSpec)

/-- ITS FALSE NEIGHBOUR: 'it returns false'. Refute it at one input. -/
def fnExactEncodeWrong : ChangeSpec := { name := "fnExactEncode", fn := fun _ => fun
  | [d1, d2, d3] => { results := [.lit (.bool false)], args := [d1, d2, d3] }
  | _ => none }
def FnExactEncodeWrongFalsely : Prop := fnExactEncodeRow.holds Try.pinned (OpenSpec.ofChange fnExactEncodeWrong)

/-- 'laws.FnExactRepair': WHATEVER THE INPUT: true; the input reads as it did. -/
def fnExactRepairSpec : ChangeSpec := { name := "fnExactRepair", fn := fun _ => fun
  | [d1, d2, d3] => { results := [.lit (.bool true)], args := [d1, d2, d3] }
  | _ => none }
def fnExactRepairRow : OpenClaim := { program := "ytlololbhlnapkaa", sum := "8f2ffa7e7559a08cbcc29d10d6e00ba3f93209eae2cdbbee54a923f1daff81d5", func := "loop.example/g00259/laws.FnExactRepair", spec := "fnExactRepair", unfollowed := true, recurses := true, apart := false }
def FnExactRepairSaid : Prop := fnExactRepairRow.holds Try.pinned (OpenSpec.ofChange fnExactRepairSpec)

/-- ITS FALSE NEIGHBOUR: 'it returns false'. Refute it at one input. -/
def fnExactRepairWrong : ChangeSpec := { name := "fnExactRepair", fn := fun _ => fun
  | [d1, d2, d3] => { results := [.lit (.bool false)], args := [d1, d2, d3] }
  | _ => none }
def FnExactRepairWrongFalsely : Prop := fnExactRepairRow.holds Try.pinned (OpenSpec.ofChange fnExactRepairWrong)

/-- 'laws.FnExactDecode': WHATEVER THE INPUT: true; the input reads as it did. -/
def fnExactDecodeSpec : ChangeSpec := { name := "fnExactDecode", fn := fun _ => fun
  | [d1, d2, d3, d4] => { results := [.lit (.bool true)], args := [d1, d2, d3, d4] }
  | _ => none }
def fnExactDecodeRow : OpenClaim := { program := "ytlololbhlnapkaa", sum := "8f2ffa7e7559a08cbcc29d10d6e00ba3f93209eae2cdbbee54a923f1daff81d5", func := "loop.example/g00259/laws.FnExactDecode", spec := "fnExactDecode", inPlace := ["internal/abi.NoEscape", "internal/bytealg.MakeNoZero"], unfollowed := true, recurses := true, apart := false }
def FnExactDecodeSaid : Prop := fnExactDecodeRow.holds Try.pinned (OpenSpec.ofChange fnExactDecodeSpec)

/-- ITS FALSE NEIGHBOUR: 'it returns false'. Refute it at one input. -/
def fnExactDecodeWrong : ChangeSpec := { name := "fnExactDecode", fn := fun _ => fun
  | [d1, d2, d3, d4] => { results := [.lit (.bool false)], args := [d1, d2, d3, d4] }
  | _ => none }
def FnExactDecodeWrongFalsely : Prop := fnExactDecodeRow.holds Try.pinned (OpenSpec.ofChange fnExactDecodeWrong)

/- THE SECOND FORM. 'bulk': how many values and letters a reading holds, each counted each time it is reached (what is shared counts as often as it is met; a slice's spare places count too). A statement '..UptoSaid' is the law's where the arguments, and the package variables that the reading takes, are together of bulk at most 1048576: NARROWER than '..Said'. Prove '..Said' where nothing that the law and all that it calls make is longer than what came in: it says more and counts as full. Else prove '..UptoSaid'. A law counts once. -/
mutual
def uptoBulk {H : Type} : DataW H → Nat
  | .lit (.string bytes) => bytes.length + 1
  | .lit _ => 1
  | .nil => 1
  | .ptr d => uptoBulk d + 1
  | .slice elems spare => uptoBulkAll elems + uptoBulkAll spare + 1
  | .agg parts => uptoBulkAll parts + 1
  | .iface _ d => uptoBulk d + 1
  | .map entries => uptoBulkEntries entries + 1
  | .held _ => 1
def uptoBulkAll {H : Type} : List (DataW H) → Nat
  | [] => 0
  | d :: r => uptoBulk d + uptoBulkAll r
def uptoBulkEntries {H : Type} : List (Lit × DataW H) → Nat
  | [] => 0
  | x :: r => uptoBulkEntry x + uptoBulkEntries r
def uptoBulkEntry {H : Type} : Lit × DataW H → Nat
  | (.string bytes, d) => bytes.length + uptoBulk d + 1
  | (_, d) => uptoBulk d + 1
 end
def uptoSmall : (H : Type) → List (DataW H) → Bool := fun _ ds => decide (uptoBulkAll ds ≤ 1048576)
def OpenSpec.upto (s : _root_.Go.ChangeSpec) : _root_.Go.OpenSpec := { _root_.Go.OpenSpec.ofChange s with cond := some uptoSmall }

/-- 'laws.FnExactMatrixRight', WHERE WHAT IT READS IS OF BULK AT MOST 1048576: true; the input reads as it did. -/
def fnExactMatrixRightUptoRow : OpenClaim := { program := "ytlololbhlnapkaa", sum := "8f2ffa7e7559a08cbcc29d10d6e00ba3f93209eae2cdbbee54a923f1daff81d5", func := "loop.example/g00259/laws.FnExactMatrixRight", spec := "fnExactMatrixRight", unfollowed := true, recurses := true, apart := false, narrowed := true }
def FnExactMatrixRightUptoSaid : Prop := fnExactMatrixRightUptoRow.holds Try.pinned (OpenSpec.upto fnExactMatrixRightSpec)

/-- 'laws.FnCauchy', WHERE WHAT IT READS IS OF BULK AT MOST 1048576: true; the input reads as it did. -/
def fnCauchyUptoRow : OpenClaim := { program := "ytlololbhlnapkaa", sum := "8f2ffa7e7559a08cbcc29d10d6e00ba3f93209eae2cdbbee54a923f1daff81d5", func := "loop.example/g00259/laws.FnCauchy", spec := "fnCauchy", unfollowed := true, recurses := true, apart := false, narrowed := true }
def FnCauchyUptoSaid : Prop := fnCauchyUptoRow.holds Try.pinned (OpenSpec.upto fnCauchySpec)

/-- 'laws.FnExactMatrixMul', WHERE WHAT IT READS IS OF BULK AT MOST 1048576: true; the input reads as it did. -/
def fnExactMatrixMulUptoRow : OpenClaim := { program := "ytlololbhlnapkaa", sum := "8f2ffa7e7559a08cbcc29d10d6e00ba3f93209eae2cdbbee54a923f1daff81d5", func := "loop.example/g00259/laws.FnExactMatrixMul", spec := "fnExactMatrixMul", unfollowed := true, recurses := true, apart := false, narrowed := true }
def FnExactMatrixMulUptoSaid : Prop := fnExactMatrixMulUptoRow.holds Try.pinned (OpenSpec.upto fnExactMatrixMulSpec)

/-- 'laws.FnExactMatrixPick', WHERE WHAT IT READS IS OF BULK AT MOST 1048576: true; the input reads as it did. -/
def fnExactMatrixPickUptoRow : OpenClaim := { program := "ytlololbhlnapkaa", sum := "8f2ffa7e7559a08cbcc29d10d6e00ba3f93209eae2cdbbee54a923f1daff81d5", func := "loop.example/g00259/laws.FnExactMatrixPick", spec := "fnExactMatrixPick", unfollowed := true, recurses := true, apart := false, narrowed := true }
def FnExactMatrixPickUptoSaid : Prop := fnExactMatrixPickUptoRow.holds Try.pinned (OpenSpec.upto fnExactMatrixPickSpec)

/-- 'laws.FnExactCauchy', WHERE WHAT IT READS IS OF BULK AT MOST 1048576: true; the input reads as it did. -/
def fnExactCauchyUptoRow : OpenClaim := { program := "ytlololbhlnapkaa", sum := "8f2ffa7e7559a08cbcc29d10d6e00ba3f93209eae2cdbbee54a923f1daff81d5", func := "loop.example/g00259/laws.FnExactCauchy", spec := "fnExactCauchy", apart := false, narrowed := true }
def FnExactCauchyUptoSaid : Prop := fnExactCauchyUptoRow.holds Try.pinned (OpenSpec.upto fnExactCauchySpec)

/-- 'laws.FnExactWhole', WHERE WHAT IT READS IS OF BULK AT MOST 1048576: true; the input reads as it did. -/
def fnExactWholeUptoRow : OpenClaim := { program := "ytlololbhlnapkaa", sum := "8f2ffa7e7559a08cbcc29d10d6e00ba3f93209eae2cdbbee54a923f1daff81d5", func := "loop.example/g00259/laws.FnExactWhole", spec := "fnExactWhole", unfollowed := true, recurses := true, apart := false, narrowed := true }
def FnExactWholeUptoSaid : Prop := fnExactWholeUptoRow.holds Try.pinned (OpenSpec.upto fnExactWholeSpec)

/-- 'laws.FnExactMatrixRank', WHERE WHAT IT READS IS OF BULK AT MOST 1048576: true; the input reads as it did. -/
def fnExactMatrixRankUptoRow : OpenClaim := { program := "ytlololbhlnapkaa", sum := "8f2ffa7e7559a08cbcc29d10d6e00ba3f93209eae2cdbbee54a923f1daff81d5", func := "loop.example/g00259/laws.FnExactMatrixRank", spec := "fnExactMatrixRank", unfollowed := true, recurses := true, apart := false, narrowed := true }
def FnExactMatrixRankUptoSaid : Prop := fnExactMatrixRankUptoRow.holds Try.pinned (OpenSpec.upto fnExactMatrixRankSpec)

/-- 'laws.FnMatrix', WHERE WHAT IT READS IS OF BULK AT MOST 1048576: true; the input reads as it did. -/
def fnMatrixUptoRow : OpenClaim := { program := "ytlololbhlnapkaa", sum := "8f2ffa7e7559a08cbcc29d10d6e00ba3f93209eae2cdbbee54a923f1daff81d5", func := "loop.example/g00259/laws.FnMatrix", spec := "fnMatrix", unfollowed := true, recurses := true, apart := false, narrowed := true }
def FnMatrixUptoSaid : Prop := fnMatrixUptoRow.holds Try.pinned (OpenSpec.upto fnMatrixSpec)

/-- 'laws.FnExactMatrixInv', WHERE WHAT IT READS IS OF BULK AT MOST 1048576: true; the input reads as it did. -/
def fnExactMatrixInvUptoRow : OpenClaim := { program := "ytlololbhlnapkaa", sum := "8f2ffa7e7559a08cbcc29d10d6e00ba3f93209eae2cdbbee54a923f1daff81d5", func := "loop.example/g00259/laws.FnExactMatrixInv", spec := "fnExactMatrixInv", unfollowed := true, recurses := true, apart := false, narrowed := true }
def FnExactMatrixInvUptoSaid : Prop := fnExactMatrixInvUptoRow.holds Try.pinned (OpenSpec.upto fnExactMatrixInvSpec)

/-- 'laws.FnExactEncode', WHERE WHAT IT READS IS OF BULK AT MOST 1048576: true; the input reads as it did. -/
def fnExactEncodeUptoRow : OpenClaim := { program := "ytlololbhlnapkaa", sum := "8f2ffa7e7559a08cbcc29d10d6e00ba3f93209eae2cdbbee54a923f1daff81d5", func := "loop.example/g00259/laws.FnExactEncode", spec := "fnExactEncode", inPlace := ["internal/abi.NoEscape", "internal/bytealg.MakeNoZero"], apart := false, narrowed := true }
def FnExactEncodeUptoSaid : Prop := fnExactEncodeUptoRow.holds Try.pinned (OpenSpec.upto fnExactEncodeSpec)

/-- 'laws.FnExactRepair', WHERE WHAT IT READS IS OF BULK AT MOST 1048576: true; the input reads as it did. -/
def fnExactRepairUptoRow : OpenClaim := { program := "ytlololbhlnapkaa", sum := "8f2ffa7e7559a08cbcc29d10d6e00ba3f93209eae2cdbbee54a923f1daff81d5", func := "loop.example/g00259/laws.FnExactRepair", spec := "fnExactRepair", unfollowed := true, recurses := true, apart := false, narrowed := true }
def FnExactRepairUptoSaid : Prop := fnExactRepairUptoRow.holds Try.pinned (OpenSpec.upto fnExactRepairSpec)

/-- 'laws.FnExactDecode', WHERE WHAT IT READS IS OF BULK AT MOST 1048576: true; the input reads as it did. -/
def fnExactDecodeUptoRow : OpenClaim := { program := "ytlololbhlnapkaa", sum := "8f2ffa7e7559a08cbcc29d10d6e00ba3f93209eae2cdbbee54a923f1daff81d5", func := "loop.example/g00259/laws.FnExactDecode", spec := "fnExactDecode", inPlace := ["internal/abi.NoEscape", "internal/bytealg.MakeNoZero"], unfollowed := true, recurses := true, apart := false, narrowed := true }
def FnExactDecodeUptoSaid : Prop := fnExactDecodeUptoRow.holds Try.pinned (OpenSpec.upto fnExactDecodeSpec)

end Rows
end Go.Proofs.Ytlololbhlnapkaa

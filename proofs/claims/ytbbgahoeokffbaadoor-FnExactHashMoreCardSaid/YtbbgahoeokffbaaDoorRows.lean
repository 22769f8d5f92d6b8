/-
  NARROWER THAN 'FOR EVERY INPUT', by the rows' own cells (each row's printed sentence says how): FnExactHashBegin: laid · FnExactHashMore: laid · FnExactDigest: laid · FnExactShort: laid · FnExactBlobKey: laid · FnExactHashEnd: laid · FnExactPackGet: laid · FnExactPackRight: laid · FnExactPackBytes: laid.
  DERIVED. THE GIVEN ROWS OF THIS SEAT. 9 by the template 'for every input the law returns true; each argument reads behind the call as it read before'; 0 by the template 'total and deterministic' (their statements: YtbbgahoeokffbaaDoorTotals.lean).
  GIVEN WITH THE SEED: the statements are not yours to turn. If you find one false, say at which input.
  Laid BY PROGRAM, IN A SANDBOX (cutbox-rows.mjs): the forced cells as the released guide's own fill.sh prints them over the translation 67847e54d4a62ce3… (all of the seat's roots in one cut). By AI agents, Wed Nov 11 2026. No macro, syntax, notation, axiom, sorry.
-/
import Derived.Test.YtbbgahoeokffbaaDoorChecked
import GoSem.Claim
import GoSem.ClaimJoined
import GoSem.ClaimMapViews
import Derived.JoinedTies
import Derived.KernelRfl
namespace Go.Proofs.YtbbgahoeokffbaaDoor
/- THE CELL 'sum', in the pinned program and in every row, IS THE sha256 OF THE DUMP (.gsa) THAT YtbbgahoeokffbaaDoorProg.lean LOADS. Nothing in Lean hashes anything: it is a label: what it is worth is what the hold of that sum in a sandbox is worth. -/
noncomputable def Tryd.pinned : Pinned := { name := "ytbbgahoeokffbaadoor", sum := "67847e54d4a62ce3cf0f924c6692f63ddde9d9bac6dc0c3f6da7f8dde0b5a39a", checked := Tryd.checked }
namespace Rows
def none {H : Type} : Left H := { results := [], args := [] }

/- WHAT THE LISTED PACKAGE-LEVEL VARIABLES READ AS WHEN THE CALL BEGINS. Each datum BY PROGRAM (the guide's laid-datum.mjs) off the statement by which the dump's own 'gosem.cut.vars' lays the variable. In a bare row this is a premise. The card (YtbbgahoeokffbaaDoorCards.lean) ties it to the program's text. -/
def laid_loop_example_g00259_impl_firstState {H : Type} : DataW H := .agg [.lit (.int .u32 1779033703), .lit (.int .u32 3144134277), .lit (.int .u32 1013904242), .lit (.int .u32 2773480762), .lit (.int .u32 1359893119), .lit (.int .u32 2600822924), .lit (.int .u32 528734635), .lit (.int .u32 1541459225)]
def laid_loop_example_g00259_impl_roots {H : Type} : DataW H := .agg [.lit (.int .u32 1116352408), .lit (.int .u32 1899447441), .lit (.int .u32 3049323471), .lit (.int .u32 3921009573), .lit (.int .u32 961987163), .lit (.int .u32 1508970993), .lit (.int .u32 2453635748), .lit (.int .u32 2870763221), .lit (.int .u32 3624381080), .lit (.int .u32 310598401), .lit (.int .u32 607225278), .lit (.int .u32 1426881987), .lit (.int .u32 1925078388), .lit (.int .u32 2162078206), .lit (.int .u32 2614888103), .lit (.int .u32 3248222580), .lit (.int .u32 3835390401), .lit (.int .u32 4022224774), .lit (.int .u32 264347078), .lit (.int .u32 604807628), .lit (.int .u32 770255983), .lit (.int .u32 1249150122), .lit (.int .u32 1555081692), .lit (.int .u32 1996064986), .lit (.int .u32 2554220882), .lit (.int .u32 2821834349), .lit (.int .u32 2952996808), .lit (.int .u32 3210313671), .lit (.int .u32 3336571891), .lit (.int .u32 3584528711), .lit (.int .u32 113926993), .lit (.int .u32 338241895), .lit (.int .u32 666307205), .lit (.int .u32 773529912), .lit (.int .u32 1294757372), .lit (.int .u32 1396182291), .lit (.int .u32 1695183700), .lit (.int .u32 1986661051), .lit (.int .u32 2177026350), .lit (.int .u32 2456956037), .lit (.int .u32 2730485921), .lit (.int .u32 2820302411), .lit (.int .u32 3259730800), .lit (.int .u32 3345764771), .lit (.int .u32 3516065817), .lit (.int .u32 3600352804), .lit (.int .u32 4094571909), .lit (.int .u32 275423344), .lit (.int .u32 430227734), .lit (.int .u32 506948616), .lit (.int .u32 659060556), .lit (.int .u32 883997877), .lit (.int .u32 958139571), .lit (.int .u32 1322822218), .lit (.int .u32 1537002063), .lit (.int .u32 1747873779), .lit (.int .u32 1955562222), .lit (.int .u32 2024104815), .lit (.int .u32 2227730452), .lit (.int .u32 2361852424), .lit (.int .u32 2428436474), .lit (.int .u32 2756734187), .lit (.int .u32 3204031479), .lit (.int .u32 3329325298)]

/-- 'laws.FnExactHashBegin': WHATEVER THE INPUT: true; the input reads as it did. -/
def fnExactHashBeginSpec : ChangeSpec := { name := "fnExactHashBegin", vars := ["loop.example/g00259/impl.firstState"], fn := fun _ => fun
  | [g1] => { results := [.lit (.bool true)], args := [], vars := [g1] }
  | _ => none }
def fnExactHashBeginRow : OpenClaim := { program := "ytbbgahoeokffbaadoor", sum := "67847e54d4a62ce3cf0f924c6692f63ddde9d9bac6dc0c3f6da7f8dde0b5a39a", func := "loop.example/g00259/laws.FnExactHashBegin", spec := "fnExactHashBegin", named := ["loop.example/g00259/impl.firstState"], apart := false, laid := [("loop.example/g00259/impl.firstState", laid_loop_example_g00259_impl_firstState)] }
def FnExactHashBeginSaid : Prop := fnExactHashBeginRow.holds Tryd.pinned (OpenSpec.ofChange fnExactHashBeginSpec)

/-- ITS FALSE NEIGHBOUR: 'it returns false'. Refute it at one input. -/
def fnExactHashBeginWrong : ChangeSpec := { name := "fnExactHashBegin", vars := ["loop.example/g00259/impl.firstState"], fn := fun _ => fun
  | [g1] => { results := [.lit (.bool false)], args := [], vars := [g1] }
  | _ => none }
def FnExactHashBeginWrongFalsely : Prop := fnExactHashBeginRow.holds Tryd.pinned (OpenSpec.ofChange fnExactHashBeginWrong)

/-- 'laws.FnExactHashMore': WHATEVER THE INPUT: true; the input reads as it did. -/
def fnExactHashMoreSpec : ChangeSpec := { name := "fnExactHashMore", vars := ["loop.example/g00259/impl.roots"], fn := fun _ => fun
  | [d1, d2, g1] => { results := [.lit (.bool true)], args := [d1, d2], vars := [g1] }
  | _ => none }
def fnExactHashMoreRow : OpenClaim := { program := "ytbbgahoeokffbaadoor", sum := "67847e54d4a62ce3cf0f924c6692f63ddde9d9bac6dc0c3f6da7f8dde0b5a39a", func := "loop.example/g00259/laws.FnExactHashMore", spec := "fnExactHashMore", unfollowed := true, recurses := true, named := ["loop.example/g00259/impl.roots"], apart := false, laid := [("loop.example/g00259/impl.roots", laid_loop_example_g00259_impl_roots)] }
def FnExactHashMoreSaid : Prop := fnExactHashMoreRow.holds Tryd.pinned (OpenSpec.ofChange fnExactHashMoreSpec)

/-- ITS FALSE NEIGHBOUR: 'it returns false'. Refute it at one input. -/
def fnExactHashMoreWrong : ChangeSpec := { name := "fnExactHashMore", vars := ["loop.example/g00259/impl.roots"], fn := fun _ => fun
  | [d1, d2, g1] => { results := [.lit (.bool false)], args := [d1, d2], vars := [g1] }
  | _ => none }
def FnExactHashMoreWrongFalsely : Prop := fnExactHashMoreRow.holds Tryd.pinned (OpenSpec.ofChange fnExactHashMoreWrong)

/-- 'laws.FnExactDigest': WHATEVER THE INPUT: true; the input reads as it did. -/
def fnExactDigestSpec : ChangeSpec := { name := "fnExactDigest", vars := ["loop.example/g00259/impl.firstState", "loop.example/g00259/impl.roots"], fn := fun _ => fun
  | [d, g1, g2] => { results := [.lit (.bool true)], args := [d], vars := [g1, g2] }
  | _ => none }
def fnExactDigestRow : OpenClaim := { program := "ytbbgahoeokffbaadoor", sum := "67847e54d4a62ce3cf0f924c6692f63ddde9d9bac6dc0c3f6da7f8dde0b5a39a", func := "loop.example/g00259/laws.FnExactDigest", spec := "fnExactDigest", inPlace := ["internal/abi.NoEscape", "internal/bytealg.MakeNoZero"], named := ["loop.example/g00259/impl.firstState", "loop.example/g00259/impl.roots"], apart := false, laid := [("loop.example/g00259/impl.firstState", laid_loop_example_g00259_impl_firstState), ("loop.example/g00259/impl.roots", laid_loop_example_g00259_impl_roots)] }
def FnExactDigestSaid : Prop := fnExactDigestRow.holds Tryd.pinned (OpenSpec.ofChange fnExactDigestSpec)

/-- ITS FALSE NEIGHBOUR: 'it returns false'. Refute it at one input. -/
def fnExactDigestWrong : ChangeSpec := { name := "fnExactDigest", vars := ["loop.example/g00259/impl.firstState", "loop.example/g00259/impl.roots"], fn := fun _ => fun
  | [d, g1, g2] => { results := [.lit (.bool false)], args := [d], vars := [g1, g2] }
  | _ => none }
def FnExactDigestWrongFalsely : Prop := fnExactDigestRow.holds Tryd.pinned (OpenSpec.ofChange fnExactDigestWrong)

/-- 'laws.FnExactShort': WHATEVER THE INPUT: true; the input reads as it did. -/
def fnExactShortSpec : ChangeSpec := { name := "fnExactShort", vars := ["loop.example/g00259/impl.firstState", "loop.example/g00259/impl.roots"], fn := fun _ => fun
  | [d, g1, g2] => { results := [.lit (.bool true)], args := [d], vars := [g1, g2] }
  | _ => none }
def fnExactShortRow : OpenClaim := { program := "ytbbgahoeokffbaadoor", sum := "67847e54d4a62ce3cf0f924c6692f63ddde9d9bac6dc0c3f6da7f8dde0b5a39a", func := "loop.example/g00259/laws.FnExactShort", spec := "fnExactShort", inPlace := ["internal/abi.NoEscape", "internal/bytealg.MakeNoZero"], named := ["loop.example/g00259/impl.firstState", "loop.example/g00259/impl.roots"], apart := false, laid := [("loop.example/g00259/impl.firstState", laid_loop_example_g00259_impl_firstState), ("loop.example/g00259/impl.roots", laid_loop_example_g00259_impl_roots)] }
def FnExactShortSaid : Prop := fnExactShortRow.holds Tryd.pinned (OpenSpec.ofChange fnExactShortSpec)

/-- ITS FALSE NEIGHBOUR: 'it returns false'. Refute it at one input. -/
def fnExactShortWrong : ChangeSpec := { name := "fnExactShort", vars := ["loop.example/g00259/impl.firstState", "loop.example/g00259/impl.roots"], fn := fun _ => fun
  | [d, g1, g2] => { results := [.lit (.bool false)], args := [d], vars := [g1, g2] }
  | _ => none }
def FnExactShortWrongFalsely : Prop := fnExactShortRow.holds Tryd.pinned (OpenSpec.ofChange fnExactShortWrong)

/-- 'laws.FnExactBlobKey': WHATEVER THE INPUT: true; the input reads as it did. -/
def fnExactBlobKeySpec : ChangeSpec := { name := "fnExactBlobKey", vars := ["loop.example/g00259/impl.firstState", "loop.example/g00259/impl.roots"], fn := fun _ => fun
  | [d, g1, g2] => { results := [.lit (.bool true)], args := [d], vars := [g1, g2] }
  | _ => none }
def fnExactBlobKeyRow : OpenClaim := { program := "ytbbgahoeokffbaadoor", sum := "67847e54d4a62ce3cf0f924c6692f63ddde9d9bac6dc0c3f6da7f8dde0b5a39a", func := "loop.example/g00259/laws.FnExactBlobKey", spec := "fnExactBlobKey", inPlace := ["internal/abi.NoEscape", "internal/bytealg.MakeNoZero"], named := ["loop.example/g00259/impl.firstState", "loop.example/g00259/impl.roots"], apart := false, laid := [("loop.example/g00259/impl.firstState", laid_loop_example_g00259_impl_firstState), ("loop.example/g00259/impl.roots", laid_loop_example_g00259_impl_roots)] }
def FnExactBlobKeySaid : Prop := fnExactBlobKeyRow.holds Tryd.pinned (OpenSpec.ofChange fnExactBlobKeySpec)

/-- ITS FALSE NEIGHBOUR: 'it returns false'. Refute it at one input. -/
def fnExactBlobKeyWrong : ChangeSpec := { name := "fnExactBlobKey", vars := ["loop.example/g00259/impl.firstState", "loop.example/g00259/impl.roots"], fn := fun _ => fun
  | [d, g1, g2] => { results := [.lit (.bool false)], args := [d], vars := [g1, g2] }
  | _ => none }
def FnExactBlobKeyWrongFalsely : Prop := fnExactBlobKeyRow.holds Tryd.pinned (OpenSpec.ofChange fnExactBlobKeyWrong)

/-- 'laws.FnExactHashEnd': WHATEVER THE INPUT: true; the input reads as it did. -/
def fnExactHashEndSpec : ChangeSpec := { name := "fnExactHashEnd", vars := ["loop.example/g00259/impl.roots"], fn := fun _ => fun
  | [d, g1] => { results := [.lit (.bool true)], args := [d], vars := [g1] }
  | _ => none }
def fnExactHashEndRow : OpenClaim := { program := "ytbbgahoeokffbaadoor", sum := "67847e54d4a62ce3cf0f924c6692f63ddde9d9bac6dc0c3f6da7f8dde0b5a39a", func := "loop.example/g00259/laws.FnExactHashEnd", spec := "fnExactHashEnd", inPlace := ["internal/abi.NoEscape", "internal/bytealg.MakeNoZero"], unfollowed := true, recurses := true, named := ["loop.example/g00259/impl.roots"], apart := false, laid := [("loop.example/g00259/impl.roots", laid_loop_example_g00259_impl_roots)] }
def FnExactHashEndSaid : Prop := fnExactHashEndRow.holds Tryd.pinned (OpenSpec.ofChange fnExactHashEndSpec)

/-- ITS FALSE NEIGHBOUR: 'it returns false'. Refute it at one input. -/
def fnExactHashEndWrong : ChangeSpec := { name := "fnExactHashEnd", vars := ["loop.example/g00259/impl.roots"], fn := fun _ => fun
  | [d, g1] => { results := [.lit (.bool false)], args := [d], vars := [g1] }
  | _ => none }
def FnExactHashEndWrongFalsely : Prop := fnExactHashEndRow.holds Tryd.pinned (OpenSpec.ofChange fnExactHashEndWrong)

/-- 'laws.FnExactPackGet': WHATEVER THE INPUT: true; the input reads as it did. -/
def fnExactPackGetSpec : ChangeSpec := { name := "fnExactPackGet", vars := ["loop.example/g00259/impl.firstState", "loop.example/g00259/impl.roots"], fn := fun _ => fun
  | [d1, d2, g1, g2] => { results := [.lit (.bool true)], args := [d1, d2], vars := [g1, g2] }
  | _ => none }
def fnExactPackGetRow : OpenClaim := { program := "ytbbgahoeokffbaadoor", sum := "67847e54d4a62ce3cf0f924c6692f63ddde9d9bac6dc0c3f6da7f8dde0b5a39a", func := "loop.example/g00259/laws.FnExactPackGet", spec := "fnExactPackGet", inPlace := ["internal/abi.NoEscape", "internal/bytealg.MakeNoZero"], named := ["loop.example/g00259/impl.firstState", "loop.example/g00259/impl.roots"], apart := false, laid := [("loop.example/g00259/impl.firstState", laid_loop_example_g00259_impl_firstState), ("loop.example/g00259/impl.roots", laid_loop_example_g00259_impl_roots)] }
def FnExactPackGetSaid : Prop := fnExactPackGetRow.holds Tryd.pinned (OpenSpec.ofChange fnExactPackGetSpec)

/-- ITS FALSE NEIGHBOUR: 'it returns false'. Refute it at one input. -/
def fnExactPackGetWrong : ChangeSpec := { name := "fnExactPackGet", vars := ["loop.example/g00259/impl.firstState", "loop.example/g00259/impl.roots"], fn := fun _ => fun
  | [d1, d2, g1, g2] => { results := [.lit (.bool false)], args := [d1, d2], vars := [g1, g2] }
  | _ => none }
def FnExactPackGetWrongFalsely : Prop := fnExactPackGetRow.holds Tryd.pinned (OpenSpec.ofChange fnExactPackGetWrong)

/-- 'laws.FnExactPackRight': WHATEVER THE INPUT: true; the input reads as it did. -/
def fnExactPackRightSpec : ChangeSpec := { name := "fnExactPackRight", vars := ["loop.example/g00259/impl.firstState", "loop.example/g00259/impl.roots"], fn := fun _ => fun
  | [d, g1, g2] => { results := [.lit (.bool true)], args := [d], vars := [g1, g2] }
  | _ => none }
def fnExactPackRightRow : OpenClaim := { program := "ytbbgahoeokffbaadoor", sum := "67847e54d4a62ce3cf0f924c6692f63ddde9d9bac6dc0c3f6da7f8dde0b5a39a", func := "loop.example/g00259/laws.FnExactPackRight", spec := "fnExactPackRight", inPlace := ["internal/abi.NoEscape", "internal/bytealg.MakeNoZero"], named := ["loop.example/g00259/impl.firstState", "loop.example/g00259/impl.roots"], apart := false, laid := [("loop.example/g00259/impl.firstState", laid_loop_example_g00259_impl_firstState), ("loop.example/g00259/impl.roots", laid_loop_example_g00259_impl_roots)] }
def FnExactPackRightSaid : Prop := fnExactPackRightRow.holds Tryd.pinned (OpenSpec.ofChange fnExactPackRightSpec)

/-- ITS FALSE NEIGHBOUR: 'it returns false'. Refute it at one input. -/
def fnExactPackRightWrong : ChangeSpec := { name := "fnExactPackRight", vars := ["loop.example/g00259/impl.firstState", "loop.example/g00259/impl.roots"], fn := fun _ => fun
  | [d, g1, g2] => { results := [.lit (.bool false)], args := [d], vars := [g1, g2] }
  | _ => none }
def FnExactPackRightWrongFalsely : Prop := fnExactPackRightRow.holds Tryd.pinned (OpenSpec.ofChange fnExactPackRightWrong)

/-- 'laws.FnExactPackBytes': WHATEVER THE INPUT: true; the input reads as it did. -/
def fnExactPackBytesSpec : ChangeSpec := { name := "fnExactPackBytes", vars := ["loop.example/g00259/impl.firstState", "loop.example/g00259/impl.roots"], fn := fun _ => fun
  | [d, g1, g2] => { results := [.lit (.bool true)], args := [d], vars := [g1, g2] }
  | _ => none }
def fnExactPackBytesRow : OpenClaim := { program := "ytbbgahoeokffbaadoor", sum := "67847e54d4a62ce3cf0f924c6692f63ddde9d9bac6dc0c3f6da7f8dde0b5a39a", func := "loop.example/g00259/laws.FnExactPackBytes", spec := "fnExactPackBytes", inPlace := ["internal/abi.NoEscape", "internal/bytealg.MakeNoZero"], named := ["loop.example/g00259/impl.firstState", "loop.example/g00259/impl.roots"], apart := false, laid := [("loop.example/g00259/impl.firstState", laid_loop_example_g00259_impl_firstState), ("loop.example/g00259/impl.roots", laid_loop_example_g00259_impl_roots)] }
def FnExactPackBytesSaid : Prop := fnExactPackBytesRow.holds Tryd.pinned (OpenSpec.ofChange fnExactPackBytesSpec)

/-- ITS FALSE NEIGHBOUR: 'it returns false'. Refute it at one input. -/
def fnExactPackBytesWrong : ChangeSpec := { name := "fnExactPackBytes", vars := ["loop.example/g00259/impl.firstState", "loop.example/g00259/impl.roots"], fn := fun _ => fun
  | [d, g1, g2] => { results := [.lit (.bool false)], args := [d], vars := [g1, g2] }
  | _ => none }
def FnExactPackBytesWrongFalsely : Prop := fnExactPackBytesRow.holds Tryd.pinned (OpenSpec.ofChange fnExactPackBytesWrong)

/- THE SECOND FORM. 'bulk': how many values and letters a reading holds, each counted each time it is reached (what is shared counts as often as it is met; a slice's spare places count too). A statement '..UptoSaid' is the law's where the arguments, and the package variables that the reading takes, are together of bulk at most 1048576: NARROWER than '..Said'. Prove '..Said' where nothing that the law and all that it calls make is longer than what came in: it says more and counts as full. Else prove '..UptoSaid'. A law counts once. -/
mutual
def uptoBulk {H : Type} : DataW H → Nat
  | .lit (.string bytes) => bytes.length + 1
  | .lit _ => 1
  | .nil => 1
  | .ptr d => uptoBulk d + 1
  | .slice elems spare => uptoBulkAll elems + uptoBulkAll spare + 1
  | .agg parts => uptoBulkAll parts + 1
  | .iface _ d => uptoBulk d + 1
  | .map entries => uptoBulkEntries entries + 1
  | .held _ => 1
def uptoBulkAll {H : Type} : List (DataW H) → Nat
  | [] => 0
  | d :: r => uptoBulk d + uptoBulkAll r
def uptoBulkEntries {H : Type} : List (Lit × DataW H) → Nat
  | [] => 0
  | x :: r => uptoBulkEntry x + uptoBulkEntries r
def uptoBulkEntry {H : Type} : Lit × DataW H → Nat
  | (.string bytes, d) => bytes.length + uptoBulk d + 1
  | (_, d) => uptoBulk d + 1
 end
def uptoSmall : (H : Type) → List (DataW H) → Bool := fun _ ds => decide (uptoBulkAll ds ≤ 1048576)
def OpenSpec.upto (s : _root_.Go.ChangeSpec) : _root_.Go.OpenSpec := { _root_.Go.OpenSpec.ofChange s with cond := some uptoSmall }

/-- 'laws.FnExactHashBegin', WHERE WHAT IT READS IS OF BULK AT MOST 1048576: true; the input reads as it did. -/
def fnExactHashBeginUptoRow : OpenClaim := { program := "ytbbgahoeokffbaadoor", sum := "67847e54d4a62ce3cf0f924c6692f63ddde9d9bac6dc0c3f6da7f8dde0b5a39a", func := "loop.example/g00259/laws.FnExactHashBegin", spec := "fnExactHashBegin", named := ["loop.example/g00259/impl.firstState"], apart := false, laid := [("loop.example/g00259/impl.firstState", laid_loop_example_g00259_impl_firstState)], narrowed := true }
def FnExactHashBeginUptoSaid : Prop := fnExactHashBeginUptoRow.holds Tryd.pinned (OpenSpec.upto fnExactHashBeginSpec)

/-- 'laws.FnExactHashMore', WHERE WHAT IT READS IS OF BULK AT MOST 1048576: true; the input reads as it did. -/
def fnExactHashMoreUptoRow : OpenClaim := { program := "ytbbgahoeokffbaadoor", sum := "67847e54d4a62ce3cf0f924c6692f63ddde9d9bac6dc0c3f6da7f8dde0b5a39a", func := "loop.example/g00259/laws.FnExactHashMore", spec := "fnExactHashMore", unfollowed := true, recurses := true, named := ["loop.example/g00259/impl.roots"], apart := false, laid := [("loop.example/g00259/impl.roots", laid_loop_example_g00259_impl_roots)], narrowed := true }
def FnExactHashMoreUptoSaid : Prop := fnExactHashMoreUptoRow.holds Tryd.pinned (OpenSpec.upto fnExactHashMoreSpec)

/-- 'laws.FnExactDigest', WHERE WHAT IT READS IS OF BULK AT MOST 1048576: true; the input reads as it did. -/
def fnExactDigestUptoRow : OpenClaim := { program := "ytbbgahoeokffbaadoor", sum := "67847e54d4a62ce3cf0f924c6692f63ddde9d9bac6dc0c3f6da7f8dde0b5a39a", func := "loop.example/g00259/laws.FnExactDigest", spec := "fnExactDigest", inPlace := ["internal/abi.NoEscape", "internal/bytealg.MakeNoZero"], named := ["loop.example/g00259/impl.firstState", "loop.example/g00259/impl.roots"], apart := false, laid := [("loop.example/g00259/impl.firstState", laid_loop_example_g00259_impl_firstState), ("loop.example/g00259/impl.roots", laid_loop_example_g00259_impl_roots)], narrowed := true }
def FnExactDigestUptoSaid : Prop := fnExactDigestUptoRow.holds Tryd.pinned (OpenSpec.upto fnExactDigestSpec)

/-- 'laws.FnExactShort', WHERE WHAT IT READS IS OF BULK AT MOST 1048576: true; the input reads as it did. -/
def fnExactShortUptoRow : OpenClaim := { program := "ytbbgahoeokffbaadoor", sum := "67847e54d4a62ce3cf0f924c6692f63ddde9d9bac6dc0c3f6da7f8dde0b5a39a", func := "loop.example/g00259/laws.FnExactShort", spec := "fnExactShort", inPlace := ["internal/abi.NoEscape", "internal/bytealg.MakeNoZero"], named := ["loop.example/g00259/impl.firstState", "loop.example/g00259/impl.roots"], apart := false, laid := [("loop.example/g00259/impl.firstState", laid_loop_example_g00259_impl_firstState), ("loop.example/g00259/impl.roots", laid_loop_example_g00259_impl_roots)], narrowed := true }
def FnExactShortUptoSaid : Prop := fnExactShortUptoRow.holds Tryd.pinned (OpenSpec.upto fnExactShortSpec)

/-- 'laws.FnExactBlobKey', WHERE WHAT IT READS IS OF BULK AT MOST 1048576: true; the input reads as it did. -/
def fnExactBlobKeyUptoRow : OpenClaim := { program := "ytbbgahoeokffbaadoor", sum := "67847e54d4a62ce3cf0f924c6692f63ddde9d9bac6dc0c3f6da7f8dde0b5a39a", func := "loop.example/g00259/laws.FnExactBlobKey", spec := "fnExactBlobKey", inPlace := ["internal/abi.NoEscape", "internal/bytealg.MakeNoZero"], named := ["loop.example/g00259/impl.firstState", "loop.example/g00259/impl.roots"], apart := false, laid := [("loop.example/g00259/impl.firstState", laid_loop_example_g00259_impl_firstState), ("loop.example/g00259/impl.roots", laid_loop_example_g00259_impl_roots)], narrowed := true }
def FnExactBlobKeyUptoSaid : Prop := fnExactBlobKeyUptoRow.holds Tryd.pinned (OpenSpec.upto fnExactBlobKeySpec)

/-- 'laws.FnExactHashEnd', WHERE WHAT IT READS IS OF BULK AT MOST 1048576: true; the input reads as it did. -/
def fnExactHashEndUptoRow : OpenClaim := { program := "ytbbgahoeokffbaadoor", sum := "67847e54d4a62ce3cf0f924c6692f63ddde9d9bac6dc0c3f6da7f8dde0b5a39a", func := "loop.example/g00259/laws.FnExactHashEnd", spec := "fnExactHashEnd", inPlace := ["internal/abi.NoEscape", "internal/bytealg.MakeNoZero"], unfollowed := true, recurses := true, named := ["loop.example/g00259/impl.roots"], apart := false, laid := [("loop.example/g00259/impl.roots", laid_loop_example_g00259_impl_roots)], narrowed := true }
def FnExactHashEndUptoSaid : Prop := fnExactHashEndUptoRow.holds Tryd.pinned (OpenSpec.upto fnExactHashEndSpec)

/-- 'laws.FnExactPackGet', WHERE WHAT IT READS IS OF BULK AT MOST 1048576: true; the input reads as it did. -/
def fnExactPackGetUptoRow : OpenClaim := { program := "ytbbgahoeokffbaadoor", sum := "67847e54d4a62ce3cf0f924c6692f63ddde9d9bac6dc0c3f6da7f8dde0b5a39a", func := "loop.example/g00259/laws.FnExactPackGet", spec := "fnExactPackGet", inPlace := ["internal/abi.NoEscape", "internal/bytealg.MakeNoZero"], named := ["loop.example/g00259/impl.firstState", "loop.example/g00259/impl.roots"], apart := false, laid := [("loop.example/g00259/impl.firstState", laid_loop_example_g00259_impl_firstState), ("loop.example/g00259/impl.roots", laid_loop_example_g00259_impl_roots)], narrowed := true }
def FnExactPackGetUptoSaid : Prop := fnExactPackGetUptoRow.holds Tryd.pinned (OpenSpec.upto fnExactPackGetSpec)

/-- 'laws.FnExactPackRight', WHERE WHAT IT READS IS OF BULK AT MOST 1048576: true; the input reads as it did. -/
def fnExactPackRightUptoRow : OpenClaim := { program := "ytbbgahoeokffbaadoor", sum := "67847e54d4a62ce3cf0f924c6692f63ddde9d9bac6dc0c3f6da7f8dde0b5a39a", func := "loop.example/g00259/laws.FnExactPackRight", spec := "fnExactPackRight", inPlace := ["internal/abi.NoEscape", "internal/bytealg.MakeNoZero"], named := ["loop.example/g00259/impl.firstState", "loop.example/g00259/impl.roots"], apart := false, laid := [("loop.example/g00259/impl.firstState", laid_loop_example_g00259_impl_firstState), ("loop.example/g00259/impl.roots", laid_loop_example_g00259_impl_roots)], narrowed := true }
def FnExactPackRightUptoSaid : Prop := fnExactPackRightUptoRow.holds Tryd.pinned (OpenSpec.upto fnExactPackRightSpec)

/-- 'laws.FnExactPackBytes', WHERE WHAT IT READS IS OF BULK AT MOST 1048576: true; the input reads as it did. -/
def fnExactPackBytesUptoRow : OpenClaim := { program := "ytbbgahoeokffbaadoor", sum := "67847e54d4a62ce3cf0f924c6692f63ddde9d9bac6dc0c3f6da7f8dde0b5a39a", func := "loop.example/g00259/laws.FnExactPackBytes", spec := "fnExactPackBytes", inPlace := ["internal/abi.NoEscape", "internal/bytealg.MakeNoZero"], named := ["loop.example/g00259/impl.firstState", "loop.example/g00259/impl.roots"], apart := false, laid := [("loop.example/g00259/impl.firstState", laid_loop_example_g00259_impl_firstState), ("loop.example/g00259/impl.roots", laid_loop_example_g00259_impl_roots)], narrowed := true }
def FnExactPackBytesUptoSaid : Prop := fnExactPackBytesUptoRow.holds Tryd.pinned (OpenSpec.upto fnExactPackBytesSpec)

end Rows
end Go.Proofs.YtbbgahoeokffbaaDoor

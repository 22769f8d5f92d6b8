/-
  DERIVED. GIVEN WITH THE SEED: THE PROGRAM's TIES (one call each: nine closed facts by the kernel) AND EACH ROW's TIE, after the 31st guide's Derived/Test/Toyas{Tie, Card}.lean. No idea stands in it: it is a product of the set-up. Laid BY PROGRAM, IN A SANDBOX (cutbox-door.mjs). By AI agents, Wed Nov 11 2026. No macro, syntax, notation, axiom, sorry.
-/
import Derived.Test.YtbbgahoeokffbaaDoorRows
import Derived.LaidByTextLater
import Derived.SevenTiedAt
import Derived.LaidSub
import Derived.LaidOnce
namespace Go.Proofs.YtbbgahoeokffbaaDoor
open Go
set_option maxRecDepth 100000
theorem seatTie1 : Tryd.prog.laidByTextLater [("loop.example/g00259/impl.firstState", Rows.laid_loop_example_g00259_impl_firstState), ("loop.example/g00259/impl.roots", Rows.laid_loop_example_g00259_impl_roots)] [.data, .data] true :=
  Program.laidByTextLater_by_one 19 8 65 (by kernel_rfl) (by kernel_rfl) (by kernel_rfl) (by kernel_rfl) (by kernel_rfl) (by kernel_rfl) (fun _ _ => by kernel_rfl)
theorem noOwnUnsafe : Tryd.pinned.checked.prog.headLifts.contains "ownunsafe" = false := by kernel_rfl
theorem tie : Tryd.prog.laidByTextLater [("loop.example/g00259/impl.firstState", Rows.laid_loop_example_g00259_impl_firstState)] [.data] true :=
  Program.laidByTextLater.sub seatTie1 ["loop.example/g00259/impl.firstState"] (by kernel_rfl) (by kernel_rfl)
theorem fnExactHashBegin_row_tie : Rows.fnExactHashBeginRow.laidByTextAt .later Tryd.pinned [.data] true :=
  OpenClaim.laidByTextAt_later rfl rfl tie noOwnUnsafe
theorem tie2 : Tryd.prog.laidByTextLater [("loop.example/g00259/impl.roots", Rows.laid_loop_example_g00259_impl_roots)] [.data] true :=
  Program.laidByTextLater.sub seatTie1 ["loop.example/g00259/impl.roots"] (by kernel_rfl) (by kernel_rfl)
theorem fnExactHashMore_row_tie : Rows.fnExactHashMoreRow.laidByTextAt .later Tryd.pinned [.data] true :=
  OpenClaim.laidByTextAt_later rfl rfl tie2 noOwnUnsafe
theorem fnExactHashEnd_row_tie : Rows.fnExactHashEndRow.laidByTextAt .later Tryd.pinned [.data] true :=
  OpenClaim.laidByTextAt_later rfl rfl tie2 noOwnUnsafe
theorem tie3 : Tryd.prog.laidByTextLater [("loop.example/g00259/impl.firstState", Rows.laid_loop_example_g00259_impl_firstState), ("loop.example/g00259/impl.roots", Rows.laid_loop_example_g00259_impl_roots)] [.data, .data] true :=
  Program.laidByTextLater.sub seatTie1 ["loop.example/g00259/impl.firstState", "loop.example/g00259/impl.roots"] (by kernel_rfl) (by kernel_rfl)
theorem fnExactDigest_row_tie : Rows.fnExactDigestRow.laidByTextAt .later Tryd.pinned [.data, .data] true :=
  OpenClaim.laidByTextAt_later rfl rfl tie3 noOwnUnsafe
theorem fnExactShort_row_tie : Rows.fnExactShortRow.laidByTextAt .later Tryd.pinned [.data, .data] true :=
  OpenClaim.laidByTextAt_later rfl rfl tie3 noOwnUnsafe
theorem fnExactBlobKey_row_tie : Rows.fnExactBlobKeyRow.laidByTextAt .later Tryd.pinned [.data, .data] true :=
  OpenClaim.laidByTextAt_later rfl rfl tie3 noOwnUnsafe
theorem fnExactPackGet_row_tie : Rows.fnExactPackGetRow.laidByTextAt .later Tryd.pinned [.data, .data] true :=
  OpenClaim.laidByTextAt_later rfl rfl tie3 noOwnUnsafe
theorem fnExactPackRight_row_tie : Rows.fnExactPackRightRow.laidByTextAt .later Tryd.pinned [.data, .data] true :=
  OpenClaim.laidByTextAt_later rfl rfl tie3 noOwnUnsafe
theorem fnExactPackBytes_row_tie : Rows.fnExactPackBytesRow.laidByTextAt .later Tryd.pinned [.data, .data] true :=
  OpenClaim.laidByTextAt_later rfl rfl tie3 noOwnUnsafe
theorem fnExactHashBeginUpto_row_tie : Rows.fnExactHashBeginUptoRow.laidByTextAt .later Tryd.pinned [.data] true :=
  OpenClaim.laidByTextAt_later rfl rfl tie noOwnUnsafe
theorem fnExactHashMoreUpto_row_tie : Rows.fnExactHashMoreUptoRow.laidByTextAt .later Tryd.pinned [.data] true :=
  OpenClaim.laidByTextAt_later rfl rfl tie2 noOwnUnsafe
theorem fnExactDigestUpto_row_tie : Rows.fnExactDigestUptoRow.laidByTextAt .later Tryd.pinned [.data, .data] true :=
  OpenClaim.laidByTextAt_later rfl rfl tie3 noOwnUnsafe
theorem fnExactShortUpto_row_tie : Rows.fnExactShortUptoRow.laidByTextAt .later Tryd.pinned [.data, .data] true :=
  OpenClaim.laidByTextAt_later rfl rfl tie3 noOwnUnsafe
theorem fnExactBlobKeyUpto_row_tie : Rows.fnExactBlobKeyUptoRow.laidByTextAt .later Tryd.pinned [.data, .data] true :=
  OpenClaim.laidByTextAt_later rfl rfl tie3 noOwnUnsafe
theorem fnExactHashEndUpto_row_tie : Rows.fnExactHashEndUptoRow.laidByTextAt .later Tryd.pinned [.data] true :=
  OpenClaim.laidByTextAt_later rfl rfl tie2 noOwnUnsafe
theorem fnExactPackGetUpto_row_tie : Rows.fnExactPackGetUptoRow.laidByTextAt .later Tryd.pinned [.data, .data] true :=
  OpenClaim.laidByTextAt_later rfl rfl tie3 noOwnUnsafe
theorem fnExactPackRightUpto_row_tie : Rows.fnExactPackRightUptoRow.laidByTextAt .later Tryd.pinned [.data, .data] true :=
  OpenClaim.laidByTextAt_later rfl rfl tie3 noOwnUnsafe
theorem fnExactPackBytesUpto_row_tie : Rows.fnExactPackBytesUptoRow.laidByTextAt .later Tryd.pinned [.data, .data] true :=
  OpenClaim.laidByTextAt_later rfl rfl tie3 noOwnUnsafe
end Go.Proofs.YtbbgahoeokffbaaDoor

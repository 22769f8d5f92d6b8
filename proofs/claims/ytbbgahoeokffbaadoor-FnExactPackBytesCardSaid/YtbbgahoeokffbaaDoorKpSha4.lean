/-
  strings.Repeat of the zero byte, off the shelf's contract; what impl.digest answers, without that premise. Conditions: a text of at most 2^40 bytes, the package's tables as the text lays them.
-/
import Derived.Test.YtbbgahoeokffbaaDoorKpSha3
import Derived.Test.YtbbgahoeokffbaaDoorKpShelf
import Derived.Lib.Repeat
namespace Go.Proofs.YtbbgahoeokffbaaDoor.Sha
open Go Go.RowKit Go.Proofs.YtbbgahoeokffbaaDoorW.PrintWords
set_option linter.unusedVariables false
set_option linter.unusedSimpArgs false
theorem repeat_zero (c : Nat) : Lib.repeatL [0] c = List.replicate c 0 := by
  induction c with
  | zero => rfl
  | succ c ih => rw [Lib.repeatL, ih]; rfl
theorem rep0 : Rep0 := by
  intro c w hc
  refine (Tryd.strings_Repeat ⟨#[0]⟩ c w (by omega) (by show 1 * c ≤ _; omega)).mono ?_
  rintro e w' ⟨rfl, hb⟩
  refine ⟨?_, hb⟩
  rw [show (ByteArray.mk #[0]).data.toList = [0] from rfl, repeat_zero]
theorem impl_digest.calls1 (text : ByteArray) (htext : text.size ≤ 1099511627776) (w : World) (hG : Glob w) : Calls Tryd.prog 59 #[.string text] w fun e w' => e = .returned (.string (digestF text)) ∧ Below w.heap.size w w' :=
  impl_digest.calls rep0 text htext w hG.1 hG.2
end Go.Proofs.YtbbgahoeokffbaaDoor.Sha

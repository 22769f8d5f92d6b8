/-
  The contracts of the reference's digest in the program's own words. Conditions: those of each lemma.
-/
import Derived.Test.YtbbgahoeokffbaaDoorKpShaLaw
namespace Go.Proofs.YtbbgahoeokffbaaDoor.Sha
open Go Go.RowKit Go.Proofs.YtbbgahoeokffbaaDoorW.PrintWords Go.Proofs.YtbbgahoeokffbaaDoorW.PrintLast Go.Proofs.YtbbgahoeokffbaaDoorW.PrintMore Go.Proofs.YtbbgahoeokffbaaDoor.XFnExactDigest
set_option linter.unusedVariables false
set_option linter.unusedSimpArgs false
/-- What the reference's Digest answers. -/
def digestS (a0 : ByteArray) : ByteArray := if a0.size ≤ 20000 then digestF a0 else ⟨#[]⟩
theorem digestS_calls (a0 : ByteArray) (w : World) : Calls Tryd.prog 21 #[.string a0] w fun e w' => e = .returned (.string (digestS a0)) ∧ Below w.heap.size w w' := by
  refine spec_Digest.calls 1000 a0 (digestS a0) w ?_
  unfold digestS
  by_cases c : a0.size ≤ 20000
  · rw [if_pos c]
    exact digest_spec a0 c 1000 (Nat.le_refl _)
  · rw [if_neg c]
    exact digest_long a0 c 1000
theorem digestF_size (a : ByteArray) : (digestF a).size = 32 := by
  unfold digestF summedF
  rw [strOf_size, outB_len]
end Go.Proofs.YtbbgahoeokffbaaDoor.Sha

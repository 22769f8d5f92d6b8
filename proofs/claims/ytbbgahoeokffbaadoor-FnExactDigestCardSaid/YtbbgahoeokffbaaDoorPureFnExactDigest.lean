/- The digest of every text, by the program and by the reference: the same. Conditions: none beyond the statement's own. -/
import Derived.Test.YtbbgahoeokffbaaDoorXFnExactDigestx4
import Derived.Test.YtbbgahoeokffbaaDoorShaLaw
namespace Go.Proofs.YtbbgahoeokffbaaDoor.Pure
open Go.RowKit Go.Proofs.YtbbgahoeokffbaaDoor.XFnExactDigest Go.Proofs.YtbbgahoeokffbaaDoorW.PrintWords Go.Proofs.YtbbgahoeokffbaaDoorW.PrintLast
theorem FnExactDigest : laws_FnExactDigest.Pure := by
  intro a ha
  refine ⟨1000, ?_⟩
  unfold laws_FnExactDigest.f
  by_cases h : (a.size : Int) > 1048576
  · rw [if_pos h]
  rw [if_neg h]
  unfold impl_Digest.f impl_isLong.f impl_digest.f
  by_cases c : a.size ≤ 20000
  · rw [Sha.digest_spec a c 1000 (Nat.le_refl _), decide_eq_false (show ¬ (a.size : Int) > 20000 by omega), if_pos (show a.size ≤ 1099511627776 by omega)]
    simp
  · rw [Sha.digest_long a c 1000, decide_eq_true (show (a.size : Int) > 20000 by omega)]
    simp
end Go.Proofs.YtbbgahoeokffbaaDoor.Pure

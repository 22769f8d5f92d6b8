/-
  Small facts on the model's whole numbers and bits, used by the plain laws of this seat. No conditions beyond each lemma's own.
-/
import Derived.Laws.BitsAllLaws
import Derived.Laws.BitsLemmas
import Derived.OpenShut
import Derived.RowKit
namespace Go.Proofs.YtbbgahoeokffbaaDoor.Aid
open Go Go.RowKit
set_option linter.unusedVariables false
set_option linter.unusedSimpArgs false
theorem u64_xor_zero (x : Int) (h0 : 0 ≤ x) (h1 : x < 18446744073709551616) : bits .xor .u64 x 0 = x := by
  rw [u64_xor x 0 h0 h1 (by omega) (by omega)]
  simp
  omega
theorem u64_low7 (x : Int) (h0 : 0 ≤ x) (h1 : x < 18446744073709551616) : bits .and .u64 x 127 = x % 128 := by
  rw [u64_and x 127 h0 h1 (by omega) (by omega), show (127 : Int).toNat = 127 from rfl, nat_mask7]
  omega
theorem u8_or_128 (y : Int) (h0 : 0 ≤ y) (h1 : y < 128) : bits .or .u8 y 128 = y + 128 := by
  rw [u8_or y 128 h0 (by omega) (by omega) (by omega), show (128 : Int).toNat = 128 from rfl, Nat.or_comm, nat_join 7 128 _ (by decide) (by omega)]
  omega
end Go.Proofs.YtbbgahoeokffbaaDoor.Aid

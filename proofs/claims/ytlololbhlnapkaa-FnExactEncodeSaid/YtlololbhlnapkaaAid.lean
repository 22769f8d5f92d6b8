/-
  Small facts on the model's whole numbers and bits, used by the plain laws of this seat. No conditions beyond each lemma's own.
-/
import Derived.Laws.BitsAllLaws
import Derived.Laws.BitsLemmas
import Derived.OpenShut
import Derived.RowKit
namespace Go.Proofs.Ytlololbhlnapkaa.Aid
open Go Go.RowKit
set_option linter.unusedVariables false
set_option linter.unusedSimpArgs false

theorem i64_bd {n : Int} (h : (Lit.int .i64 n).wf = true) : -9223372036854775808 ≤ n ∧ n ≤ 9223372036854775807 := by
  simp [Lit.wf, IntKind.min, IntKind.max, IntKind.signed, IntKind.bits] at h
  omega
theorem w64 {n : Int} (h0 : -9223372036854775808 ≤ n) (h1 : n ≤ 9223372036854775807) : wrap64 n = n := by unfold wrap64; omega
theorem xor_ones (x : Nat) (h : x < 18446744073709551616) : x ^^^ 18446744073709551615 = 18446744073709551615 - x := by
  have e : (BitVec.ofNat 64 x ^^^ BitVec.allOnes 64).toNat = (~~~ BitVec.ofNat 64 x).toNat := by rw [BitVec.xor_allOnes]
  rw [BitVec.toNat_xor, BitVec.toNat_not, BitVec.toNat_allOnes, BitVec.toNat_ofNat, Nat.mod_eq_of_lt (by omega)] at e
  exact e
theorem u64_xor_zero (x : Int) (h0 : 0 ≤ x) (h1 : x < 18446744073709551616) : bits .xor .u64 x 0 = x := by
  rw [u64_xor x 0 h0 h1 (by omega) (by omega)]
  simp
  omega
theorem u64_xor_ones (x : Int) (h0 : 0 ≤ x) (h1 : x < 18446744073709551616) : bits .xor .u64 x 18446744073709551615 = 18446744073709551615 - x := by
  rw [u64_xor x _ h0 h1 (by omega) (by omega)]
  rw [show (18446744073709551615 : Int).toNat = 18446744073709551615 from rfl, xor_ones _ (by omega)]
  omega
theorem u64_low7 (x : Int) (h0 : 0 ≤ x) (h1 : x < 18446744073709551616) : bits .and .u64 x 127 = x % 128 := by
  rw [u64_and x 127 h0 h1 (by omega) (by omega), show (127 : Int).toNat = 127 from rfl, nat_mask7]
  omega
theorem u8_or_128 (y : Int) (h0 : 0 ≤ y) (h1 : y < 128) : bits .or .u8 y 128 = y + 128 := by
  rw [u8_or y 128 h0 (by omega) (by omega) (by omega), show (128 : Int).toNat = 128 from rfl, Nat.or_comm, nat_join 7 128 _ (by decide) (by omega)]
  omega
end Go.Proofs.Ytlololbhlnapkaa.Aid

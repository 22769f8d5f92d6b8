/-
  The spec's digest answers as the program's: plain laws of what takes a text in and what ends it. Conditions: a state of eight numbers below 2^32, sizes up to 2^40.
-/
import Derived.Test.YtbbgahoeokffbaaDoorKhShaBlock
import Derived.Test.YtbbgahoeokffbaaDoorKhXFnExactDigestx4
namespace Go.Proofs.YtbbgahoeokffbaaDoor.Sha
open Go Go.RowKit Go.Proofs.YtbbgahoeokffbaaDoorW.PrintWords Go.Proofs.YtbbgahoeokffbaaDoorW.PrintLast Go.Proofs.YtbbgahoeokffbaaDoorW.PrintMore Go.Proofs.YtbbgahoeokffbaaDoor.XFnExactDigest
set_option linter.unusedVariables false
set_option linter.unusedSimpArgs false
theorem more_l0 (l : List Int) (hl : l.length = 8) (hw : Words l) (tb : ByteArray) (ht : tb.size ≤ 4611686018427387904) (sz : Int) (d : Nat) : ∀ (k m : Nat), m + d = tb.size / 64 → d + 201 ≤ k →
    spec_l05More.l0 k ((64 * m : Nat) : Int) (blks tb l m) tb sz = some (blks tb l (tb.size / 64), tb.extract (64 * (tb.size / 64)) tb.size, sz) := by
  induction d with
  | zero =>
    intro k m hm hk
    obtain ⟨k, rfl⟩ : ∃ m, k = m + 1 := ⟨k - 1, by omega⟩
    obtain rfl : m = tb.size / 64 := by omega
    have h1 : ¬ wrap64 ((tb.size : Int) - ((64 * (tb.size / 64) : Nat) : Int)) ≥ 64 := by unfold wrap64; omega
    have h2 : (0 : Int) ≤ ((64 * (tb.size / 64) : Nat) : Int) := by omega
    have h3 : ((64 * (tb.size / 64) : Nat) : Int) ≤ (tb.size : Int) := by omega
    rw [spec_l05More.l0, if_neg h1, if_pos h2, if_pos h3, Int.toNat_natCast]
  | succ d ih =>
    intro k m hm hk
    obtain ⟨k, rfl⟩ : ∃ m, k = m + 1 := ⟨k - 1, by omega⟩
    have e1 : wrap64 (((64 * m : Nat) : Int) + 64) = ((64 * (m + 1) : Nat) : Int) := by unfold wrap64; omega
    have h1 : wrap64 ((tb.size : Int) - ((64 * m : Nat) : Int)) ≥ 64 := by unfold wrap64; omega
    have h2 : (0 : Int) ≤ ((64 * m : Nat) : Int) := by omega
    have h3 : ((64 * m : Nat) : Int) ≤ ((64 * (m + 1) : Nat) : Int) := by omega
    have h4 : ((64 * (m + 1) : Nat) : Int) ≤ (tb.size : Int) := by omega
    have hs : (tb.extract (64 * m) (64 * (m + 1))).size = 64 := by rw [ByteArray.size_extract]; omega
    have e2 := block_spec (blks tb l m) (by rw [blks_len, hl]) (blks_words tb l m hw) (tb.extract (64 * m) (64 * (m + 1))) hs k (by omega)
    rw [spec_l05More.l0, if_pos h1, if_pos h2, e1, if_pos h3, if_pos h4, Int.toNat_natCast, Int.toNat_natCast, e2, Option.bind_some]
    exact ih k (m + 1) (by omega) (by omega)
/-- A text taken in. -/
theorem more_spec (l : List Int) (hl : l.length = 8) (hw : Words l) (rest text : ByteArray) (size : Int) (h : rest.size + text.size ≤ 4611686018427387904) (k : Nat) (hk : (rest.size + text.size) / 64 + 201 ≤ k) :
    spec_l05More.f k l rest size text = some (blks (rest ++ text) l ((rest ++ text).size / 64), (rest ++ text).extract (64 * ((rest ++ text).size / 64)) (rest ++ text).size, wrap64 (size + (text.size : Int))) := by
  have hsz : (rest ++ text).size = rest.size + text.size := ByteArray.size_append
  unfold spec_l05More.f
  rw [Option.bind_some, if_pos (by rw [hl]; simp), if_pos (by omega), List.nil_append]
  have := more_l0 l hl hw (rest ++ text) (by omega) (wrap64 (size + (text.size : Int))) ((rest ++ text).size / 64) k 0 (by omega) (by omega)
  exact this
end Go.Proofs.YtbbgahoeokffbaaDoor.Sha

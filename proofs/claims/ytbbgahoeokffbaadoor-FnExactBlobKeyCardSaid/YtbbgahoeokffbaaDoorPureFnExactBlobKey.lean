/- The key of every blob, by the program and by the reference: the same. Conditions: none beyond the statement's own. -/
import Derived.Test.YtbbgahoeokffbaaDoorXFnExactBlobKeyx2
namespace Go.Proofs.YtbbgahoeokffbaaDoor.Pure
open Go.RowKit Go.Proofs.YtbbgahoeokffbaaDoor.XFnExactBlobKey Go.Proofs.YtbbgahoeokffbaaDoorW.PrintWords Go.Proofs.YtbbgahoeokffbaaDoorW.PrintLast
set_option linter.unusedVariables false
set_option linter.unusedSimpArgs false
namespace FnExactBlobKey_
theorem sput1 (k : Nat) (hk : 10 ≤ k) : spec_PutNum.f k 1 = some (strOfNums [2]) := at_rounds (fun k => spec_PutNum.mono 1 k) hk (by kernel_rfl)
theorem sput2 (k : Nat) (hk : 10 ≤ k) : spec_PutNum.f k 2 = some (strOfNums [4]) := at_rounds (fun k => spec_PutNum.mono 2 k) hk (by kernel_rfl)
theorem iput1 (k : Nat) (hk : 10 ≤ k) : impl_PutNum.f k 1 = some (strOfNums [2]) := at_rounds (fun k => impl_PutNum.mono 1 k) hk (by kernel_rfl)
theorem iput2 (k : Nat) (hk : 10 ≤ k) : impl_PutNum.f k 2 = some (strOfNums [4]) := at_rounds (fun k => impl_PutNum.mono 2 k) hk (by kernel_rfl)
/-- The key of a right blob. -/
def keyF (a : Int) (s : ByteArray) : ByteArray := Sha.digestF (strOfNums [2 * a] ++ s)
def right (a : Int) (s : ByteArray) : Bool := (decide (a = 1) || decide (a = 2)) && decide (s.size ≤ 2000)
theorem sright (a : Int) (s : ByteArray) : spec_BlobRight.f a s = some (right a s) := by
  unfold spec_BlobRight.f right
  by_cases h1 : a = 1
  · simp [h1]
    omega
  · by_cases h2 : a = 2
    · simp [h2]
      omega
    · simp [h1, h2]
theorem iright (a : Int) (s : ByteArray) : impl_BlobRight.f a s = some (right a s) := by
  unfold impl_BlobRight.f impl_isKind.f right
  by_cases h1 : a = 1
  · simp [h1]
    omega
  · by_cases h2 : a = 2
    · simp [h2]
      omega
    · simp [h1, h2]
theorem one_byte (x : Int) (s : ByteArray) : (strOfNums [x] ++ s).size = 1 + s.size := by
  rw [ByteArray.size_append, Sha.strOf_size]
  rfl
theorem ikey (a : Int) (s : ByteArray) (h : right a s = true) (k : Nat) (hk : 10 ≤ k) : impl_Blob_key.f k a s = some (keyF a s) := by
  unfold right at h
  have hs : s.size ≤ 2000 := by
    rw [Bool.and_eq_true] at h
    exact of_decide_eq_true h.2
  have ha : a = 1 ∨ a = 2 := by
    rw [Bool.and_eq_true, Bool.or_eq_true] at h
    exact h.1.imp of_decide_eq_true of_decide_eq_true
  have z : (strOfNums [2]).size = 1 := rfl
  have z' : (strOfNums [4]).size = 1 := rfl
  unfold impl_Blob_key.f impl_digest.f keyF
  rcases ha with rfl | rfl
  · rw [iput1 k hk, Option.bind_some, if_pos (by omega), if_pos (by rw [one_byte]; omega)]
    rfl
  · rw [iput2 k hk, Option.bind_some, if_pos (by omega), if_pos (by rw [one_byte]; omega)]
    rfl
theorem skey (a : Int) (s : ByteArray) (k : Nat) (hk : 10 ≤ k) : spec_BlobKey.f k a s = some (if right a s = true then keyF a s else ⟨#[]⟩) := by
  unfold spec_BlobKey.f
  rw [sright, Option.bind_some]
  by_cases h : right a s = true
  · rw [if_pos h, if_pos h]
    unfold right at h
    have hs : s.size ≤ 2000 := by
      rw [Bool.and_eq_true] at h
      exact of_decide_eq_true h.2
    have ha : a = 1 ∨ a = 2 := by
      rw [Bool.and_eq_true, Bool.or_eq_true] at h
      exact h.1.imp of_decide_eq_true of_decide_eq_true
    have z : (strOfNums [2]).size = 1 := rfl
    have z' : (strOfNums [4]).size = 1 := rfl
    unfold spec_Digest.f keyF Sha.digestS
    rcases ha with rfl | rfl
    · rw [sput1 k hk, Option.bind_some, if_pos (by omega), if_pos (by rw [one_byte]; omega)]
      rfl
    · rw [sput2 k hk, Option.bind_some, if_pos (by omega), if_pos (by rw [one_byte]; omega)]
      rfl
  · rw [if_neg h, if_neg h]
theorem ikey2 (a : Int) (s : ByteArray) (k : Nat) (hk : 10 ≤ k) : impl_BlobKey.f k a s = some (if right a s = true then keyF a s else ⟨#[]⟩) := by
  unfold impl_BlobKey.f
  rw [iright, Option.bind_some]
  by_cases h : right a s = true
  · rw [if_pos h, if_pos h, ikey a s h k hk]
    rfl
  · rw [if_neg h, if_neg h]
end FnExactBlobKey_
open FnExactBlobKey_
theorem FnExactBlobKey (a : Int) (s : ByteArray) (_ : (Lit.int .i64 a).wf = true) (hs : s.size ≤ maxLen) : ∃ k, laws_FnExactBlobKey.f k a s = some true := by
  refine ⟨10, ?_⟩
  unfold maxLen at hs
  unfold laws_FnExactBlobKey.f laws_szBlob.f laws_toBlob.f
  rw [show wrap64 (1048576 - (s.size : Int)) = 1048576 - (s.size : Int) by unfold wrap64; omega]
  by_cases h0 : 1048576 - (s.size : Int) < 0
  · simp [h0]
  · rw [if_neg h0, Option.bind_some, if_neg h0]
    simp only [Option.bind_some]
    rw [skey a s 10 (Nat.le_refl _), ikey2 a s 10 (Nat.le_refl _)]
    simp
end Go.Proofs.YtbbgahoeokffbaaDoor.Pure

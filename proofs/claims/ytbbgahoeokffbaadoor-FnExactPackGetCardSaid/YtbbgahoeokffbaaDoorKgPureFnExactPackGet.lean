/- The blob of every entry of every text, by the program and by the reference: the same. Conditions: none beyond the statement's own. -/
import Derived.Test.YtbbgahoeokffbaaDoorKgXFnExactPackGetx5
namespace Go.Proofs.YtbbgahoeokffbaaDoor.Pure
open Go.RowKit Go.Proofs.YtbbgahoeokffbaaDoor.XFnExactPackGet Go.Proofs.YtbbgahoeokffbaaDoorW.PrintWords Go.Proofs.YtbbgahoeokffbaaDoorW.PrintLast
set_option linter.unusedVariables false
set_option linter.unusedSimpArgs false
namespace FnExactPackGet_
theorem sput1 (k : Nat) (hk : 10 ≤ k) : spec_PutNum.f k 1 = some (strOfNums [2]) := at_rounds (fun k => spec_PutNum.mono 1 k) hk (by kernel_rfl)
theorem sput2 (k : Nat) (hk : 10 ≤ k) : spec_PutNum.f k 2 = some (strOfNums [4]) := at_rounds (fun k => spec_PutNum.mono 2 k) hk (by kernel_rfl)
theorem iput1 (k : Nat) (hk : 10 ≤ k) : impl_PutNum.f k 1 = some (strOfNums [2]) := at_rounds (fun k => impl_PutNum.mono 1 k) hk (by kernel_rfl)
theorem iput2 (k : Nat) (hk : 10 ≤ k) : impl_PutNum.f k 2 = some (strOfNums [4]) := at_rounds (fun k => impl_PutNum.mono 2 k) hk (by kernel_rfl)
/-- The key of a right blob. -/
def keyF (a : Int) (s : ByteArray) : ByteArray := Sha.digestF (strOfNums [2 * a] ++ s)
def right (a : Int) (s : ByteArray) : Bool := (decide (a = 1) || decide (a = 2)) && decide (s.size ≤ 2000)
theorem sright (a : Int) (s : ByteArray) : spec_BlobRight.f a s = some (right a s) := by
  unfold spec_BlobRight.f right
  by_cases h1 : a = 1
  · simp [h1]
    omega
  · by_cases h2 : a = 2
    · simp [h2]
      omega
    · simp [h1, h2]
theorem iright (a : Int) (s : ByteArray) : impl_BlobRight.f a s = some (right a s) := by
  unfold impl_BlobRight.f impl_isKind.f right
  by_cases h1 : a = 1
  · simp [h1]
    omega
  · by_cases h2 : a = 2
    · simp [h2]
      omega
    · simp [h1, h2]
theorem one_byte (x : Int) (s : ByteArray) : (strOfNums [x] ++ s).size = 1 + s.size := by
  rw [ByteArray.size_append, Sha.strOf_size]
  rfl
theorem ikey (a : Int) (s : ByteArray) (h : right a s = true) (k : Nat) (hk : 10 ≤ k) : impl_Blob_key.f k a s = some (keyF a s) := by
  unfold right at h
  have hs : s.size ≤ 2000 := by
    rw [Bool.and_eq_true] at h
    exact of_decide_eq_true h.2
  have ha : a = 1 ∨ a = 2 := by
    rw [Bool.and_eq_true, Bool.or_eq_true] at h
    exact h.1.imp of_decide_eq_true of_decide_eq_true
  have z : (strOfNums [2]).size = 1 := rfl
  have z' : (strOfNums [4]).size = 1 := rfl
  unfold impl_Blob_key.f impl_digest.f keyF
  rcases ha with rfl | rfl
  · rw [iput1 k hk, Option.bind_some, if_pos (by omega), if_pos (by rw [one_byte]; omega)]
    rfl
  · rw [iput2 k hk, Option.bind_some, if_pos (by omega), if_pos (by rw [one_byte]; omega)]
    rfl
theorem skey (a : Int) (s : ByteArray) (k : Nat) (hk : 10 ≤ k) : spec_BlobKey.f k a s = some (if right a s = true then keyF a s else ⟨#[]⟩) := by
  unfold spec_BlobKey.f
  rw [sright, Option.bind_some]
  by_cases h : right a s = true
  · rw [if_pos h, if_pos h]
    unfold right at h
    have hs : s.size ≤ 2000 := by
      rw [Bool.and_eq_true] at h
      exact of_decide_eq_true h.2
    have ha : a = 1 ∨ a = 2 := by
      rw [Bool.and_eq_true, Bool.or_eq_true] at h
      exact h.1.imp of_decide_eq_true of_decide_eq_true
    have z : (strOfNums [2]).size = 1 := rfl
    have z' : (strOfNums [4]).size = 1 := rfl
    unfold spec_Digest.f keyF Sha.digestS
    rcases ha with rfl | rfl
    · rw [sput1 k hk, Option.bind_some, if_pos (by omega), if_pos (by rw [one_byte]; omega)]
      rfl
    · rw [sput2 k hk, Option.bind_some, if_pos (by omega), if_pos (by rw [one_byte]; omega)]
      rfl
  · rw [if_neg h, if_neg h]
def none3 (c : Int) : Int × ByteArray × Int := (0, (⟨#[]⟩ : ByteArray), c)
/-- The blob of an entry whose place lies in the text. -/
def got (t : ByteArray) (key : ByteArray) (kind : Int) : Int × ByteArray × Int := if right kind t = true then (if (keyF kind t).toList = key.toList then (kind, t, 0) else none3 5) else none3 5
def bad (a : ByteArray) (at_ size : Int) : Bool := decide (at_ < 0) || decide (size < 0) || decide (size > 2000) || decide (at_ > (a.size : Int) - size)
def res (a key : ByteArray) (kind at_ size : Int) : Int × ByteArray × Int := if a.size ≤ 20000 then (if bad a at_ size = true then none3 9 else got (a.extract at_.toNat (at_ + size).toNat) key kind) else none3 2
theorem spec_j (a key : ByteArray) (kind at_ size : Int) (k : Nat) (hk : 20 ≤ k) (ha : a.size ≤ 20000) (h : bad a at_ size = false) : spec_PackGet.j0 k a false key kind at_ size = some (got (a.extract at_.toNat (at_ + size).toNat) key kind) := by
  obtain ⟨k, rfl⟩ : ∃ m, k = m + 1 := ⟨k - 1, by omega⟩
  unfold bad at h
  simp only [Bool.or_eq_false_iff, decide_eq_false_iff_not] at h
  obtain ⟨⟨⟨h1, h2⟩, h3⟩, h4⟩ := h
  have e : wrap64 (at_ + size) = at_ + size := by unfold wrap64; omega
  rw [spec_PackGet.j0, if_neg (by simp), e, if_pos (by omega), if_pos (by omega), if_pos (by omega)]
  generalize a.extract at_.toNat (at_ + size).toNat = t
  rw [sright, Option.bind_some]
  unfold got
  by_cases c : right kind t = true
  · rw [if_pos c, if_pos c, skey kind t k (by omega), Option.bind_some, if_pos c]
    by_cases d : (keyF kind t).toList = key.toList
    · rw [if_pos d, if_pos d]
    · rw [if_neg d, if_neg d]
      rfl
  · rw [if_neg c, if_neg c]
    rfl
theorem impl_j (a key : ByteArray) (kind at_ size : Int) (k : Nat) (hk : 20 ≤ k) (ha : a.size ≤ 20000) (h : bad a at_ size = false) : impl_packGet.j0 k a false key kind at_ size = some (got (a.extract at_.toNat (at_ + size).toNat) key kind) := by
  obtain ⟨k, rfl⟩ : ∃ m, k = m + 1 := ⟨k - 1, by omega⟩
  unfold bad at h
  simp only [Bool.or_eq_false_iff, decide_eq_false_iff_not] at h
  obtain ⟨⟨⟨h1, h2⟩, h3⟩, h4⟩ := h
  have e : wrap64 (at_ + size) = at_ + size := by unfold wrap64; omega
  rw [impl_packGet.j0, if_neg (by simp), e, if_pos (by omega), if_pos (by omega), if_pos (by omega)]
  generalize a.extract at_.toNat (at_ + size).toNat = t
  rw [iright, Option.bind_some]
  unfold got
  by_cases c : right kind t = true
  · rw [if_pos c, if_pos c, ikey kind t c k (by omega), Option.bind_some]
    by_cases d : (keyF kind t).toList = key.toList
    · rw [if_pos d, if_pos d]
    · rw [if_neg d, if_neg d]
      rfl
  · rw [if_neg c, if_neg c]
    rfl
theorem spec_j9 (a key : ByteArray) (kind at_ size : Int) (k : Nat) (hk : 20 ≤ k) : spec_PackGet.j0 k a true key kind at_ size = some (none3 9) := by
  obtain ⟨k, rfl⟩ : ∃ m, k = m + 1 := ⟨k - 1, by omega⟩
  rw [spec_PackGet.j0, if_pos rfl]
  rfl
theorem impl_j9 (a key : ByteArray) (kind at_ size : Int) (k : Nat) (hk : 20 ≤ k) : impl_packGet.j0 k a true key kind at_ size = some (none3 9) := by
  obtain ⟨k, rfl⟩ : ∃ m, k = m + 1 := ⟨k - 1, by omega⟩
  rw [impl_packGet.j0, if_pos rfl]
  rfl
theorem spec_get (a key : ByteArray) (kind at_ size : Int) (k : Nat) (hk : 20 ≤ k) : spec_PackGet.f k a key kind at_ size = some (res a key kind at_ size) := by
  unfold spec_PackGet.f res
  by_cases ha : a.size ≤ 20000
  · rw [if_neg (by omega), if_pos ha]
    by_cases h1 : at_ < 0
    · rw [if_pos h1, spec_j9 _ _ _ _ _ _ hk, if_pos (by simp [bad, h1])]
    rw [if_neg h1]
    by_cases h2 : size < 0
    · rw [if_pos h2, spec_j9 _ _ _ _ _ _ hk, if_pos (by simp [bad, h2])]
    rw [if_neg h2]
    by_cases h3 : size > 2000
    · rw [if_pos h3, spec_j9 _ _ _ _ _ _ hk, if_pos (by simp [bad, h3])]
    rw [if_neg h3, show wrap64 ((a.size : Int) - size) = (a.size : Int) - size by unfold wrap64; omega]
    by_cases h4 : at_ > (a.size : Int) - size
    · rw [decide_eq_true h4, spec_j9 _ _ _ _ _ _ hk, if_pos (by simp [bad, h4])]
    · have hb : bad a at_ size = false := by
        unfold bad
        rw [decide_eq_false h1, decide_eq_false h2, decide_eq_false h3, decide_eq_false h4]
        rfl
      rw [decide_eq_false h4, spec_j a key kind at_ size k hk ha hb, if_neg (by rw [hb]; simp)]
  · rw [if_pos (by omega), if_neg ha]
    rfl
theorem impl_get (a key : ByteArray) (kind at_ size : Int) (k : Nat) (hk : 20 ≤ k) : impl_PackGet.f k a key kind at_ size = some (res a key kind at_ size) := by
  unfold impl_PackGet.f impl_isLong.f impl_packGet.f impl_within.f impl_long.f res
  by_cases ha : a.size ≤ 20000
  · rw [decide_eq_false (show ¬ (a.size : Int) > 20000 by omega), Option.bind_some, if_neg (by simp), if_pos ha]
    by_cases h1 : at_ < 0
    · rw [if_pos h1, impl_j9 _ _ _ _ _ _ hk, if_pos (by simp [bad, h1])]
      rfl
    rw [if_neg h1]
    by_cases h2 : size ≥ 0
    · rw [if_pos h2]
      by_cases h3 : size ≤ 2000
      · rw [decide_eq_true h3, Option.bind_some, if_pos rfl, Option.bind_some, show wrap64 ((a.size : Int) - size) = (a.size : Int) - size by unfold wrap64; omega]
        by_cases h4 : at_ > (a.size : Int) - size
        · rw [decide_eq_true h4, impl_j9 _ _ _ _ _ _ hk, if_pos (by simp [bad, h4])]
          rfl
        · have hb : bad a at_ size = false := by
            unfold bad
            rw [decide_eq_false h1, decide_eq_false (show ¬ size < 0 by omega), decide_eq_false (show ¬ size > 2000 by omega), decide_eq_false h4]
            rfl
          rw [decide_eq_false h4, impl_j a key kind at_ size k hk ha hb, if_neg (by rw [hb]; simp)]
          rfl
      · rw [decide_eq_false h3, Option.bind_some, if_neg (by simp), impl_j9 _ _ _ _ _ _ hk, if_pos (by simp [bad]; omega)]
        rfl
    · rw [if_neg h2, Option.bind_some, if_neg (by simp), impl_j9 _ _ _ _ _ _ hk, if_pos (by simp [bad]; omega)]
      rfl
  · rw [decide_eq_true (show (a.size : Int) > 20000 by omega), Option.bind_some, if_pos rfl, if_neg ha]
    rfl
end FnExactPackGet_
open FnExactPackGet_
theorem FnExactPackGet (a key : ByteArray) (kind at_ size : Int) (ha : a.size ≤ 140737488351232) (hs : key.size ≤ maxLen) (_ : (Lit.int .i64 kind).wf = true) (_ : (Lit.int .i64 at_).wf = true) (_ : (Lit.int .i64 size).wf = true) : ∃ k, laws_FnExactPackGet.f k a key kind at_ size = some true := by
  suffices main : ∀ K : Nat, 20 ≤ K → laws_FnExactPackGet.f K a key kind at_ size = some true from ⟨_, main 20 (by omega)⟩
  intro K hK
  unfold maxLen at hs
  unfold laws_FnExactPackGet.f laws_szEntry.f laws_toEntry.f
  by_cases h : (a.size : Int) > 1048576
  · rw [if_pos h]
  rw [if_neg h, show wrap64 (1048576 - (key.size : Int)) = 1048576 - (key.size : Int) by unfold wrap64; omega]
  by_cases h0 : 1048576 - (key.size : Int) < 0
  · simp [h0]
  · rw [if_neg h0, Option.bind_some, if_neg h0]
    simp only [Option.bind_some]
    rw [spec_get a key kind at_ size K hK, impl_get a key kind at_ size K hK]
    simp only [Option.bind_some]
    unfold laws_eqBlobOut.f laws_eqBlob.f
    simp
end Go.Proofs.YtbbgahoeokffbaaDoor.Pure

/- The law FnExactPackBytes, over plain values: program and reference give the same answer for every list of blobs. No conditions beyond the statement's own. -/
import Derived.Test.YtbbgahoeokffbaaDoorKpZFnExactPackBytesx2
namespace Go.Proofs.YtbbgahoeokffbaaDoor.Pure
open Go.RowKit Go.Proofs.YtbbgahoeokffbaaDoor.ZFnExactPackBytes Go.Proofs.YtbbgahoeokffbaaDoorW.PrintWords Go.Proofs.YtbbgahoeokffbaaDoorW.PrintLast
set_option linter.unusedVariables false
set_option linter.unusedSimpArgs false
namespace FnExactPackBytes_
theorem rd37 (l : List S37) (i : Nat) (h : i < l.length) : rd_T37 l (i : Int) = l[i] := by
  unfold rd_T37
  rw [Int.toNat_natCast, List.getD_eq_getElem?_getD, List.getElem?_eq_getElem h, Option.getD_some]
theorem rd40 (l : List S40) (i : Nat) (h : i < l.length) : rd_T40 l (i : Int) = l[i] := by
  unfold rd_T40
  rw [Int.toNat_natCast, List.getD_eq_getElem?_getD, List.getElem?_eq_getElem h, Option.getD_some]
def to40 (x : S37) : S40 := ⟨x.f0, x.f1⟩
theorem sz_l0 (l : List S37) (hl : l.length ≤ 1048576) (hw : ∀ a ∈ l, a.f1.size ≤ maxLen) (d : Nat) : ∀ (k i : Nat) (left : Int), i + d = l.length → d + 1 ≤ k → 0 ≤ left → left ≤ 1048576 → ∃ r, laws_szBlobS.l0 k l left (i : Int) = some r := by
  induction d with
  | zero =>
    intro k i left hi hk h0 h1
    obtain ⟨k, rfl⟩ : ∃ m, k = m + 1 := ⟨k - 1, by omega⟩
    exact ⟨left, by rw [laws_szBlobS.l0, if_neg (by omega)]⟩
  | succ d ih =>
    intro k i left hi hk h0 h1
    obtain ⟨k, rfl⟩ : ∃ m, k = m + 1 := ⟨k - 1, by omega⟩
    have hi' : i < l.length := by omega
    have hs := hw _ (List.getElem_mem hi')
    unfold maxLen at hs
    rw [laws_szBlobS.l0, if_pos (by omega), if_pos (by omega), rd37 l i hi']
    unfold laws_szBlob.f
    rw [show wrap64 (left - ((l[i]).f1.size : Int)) = left - ((l[i]).f1.size : Int) by unfold wrap64; omega]
    by_cases h : left - ((l[i]).f1.size : Int) < 0
    · rw [if_pos h, Option.bind_some, if_pos (by omega)]
      exact ⟨-1, rfl⟩
    · rw [if_neg h, Option.bind_some, if_neg h, show wrap64 ((i : Int) + 1) = ((i + 1 : Nat) : Int) by unfold wrap64; omega]
      exact ih k (i + 1) _ (by omega) (by omega) (by omega) (by omega)
theorem sz_eq (l : List S37) (hm : l.length ≤ maxLen) (hw : ∀ a ∈ l, a.f1.size ≤ maxLen) (k : Nat) (hk : l.length + 1 ≤ k) : ∃ r, laws_szBlobS.f k l 1048576 = some r ∧ (r < 0 ∨ l.length ≤ 1048576) := by
  unfold maxLen at hm
  unfold laws_szBlobS.f
  rw [show wrap64 (1048576 - (l.length : Int)) = 1048576 - (l.length : Int) by unfold wrap64; omega]
  by_cases h : 1048576 - (l.length : Int) < 0
  · rw [if_pos h]
    exact ⟨-1, rfl, Or.inl (by omega)⟩
  · rw [if_neg h]
    obtain ⟨r, hr⟩ := sz_l0 l (by omega) hw l.length k 0 (1048576 - (l.length : Int)) (by omega) hk (by omega) (by omega)
    exact ⟨r, hr, Or.inr (by omega)⟩
theorem to_l0 (l : List S37) (hl : l.length ≤ 1048576) (d : Nat) : ∀ (k i : Nat) (m : List S40), i + d = l.length → m.length = l.length → (∀ j, j < i → m[j]? = (l.map to40)[j]?) → d + 1 ≤ k → laws_toBlobS.l0 k l m (i : Int) = some (l.map to40) := by
  induction d with
  | zero =>
    intro k i m hi hm hj hk
    obtain ⟨k, rfl⟩ : ∃ m, k = m + 1 := ⟨k - 1, by omega⟩
    rw [laws_toBlobS.l0, if_neg (by omega)]
    congr 1
    apply List.ext_getElem?
    intro j
    by_cases h : j < i
    · exact hj j h
    · rw [List.getElem?_eq_none (by omega), List.getElem?_eq_none (by rw [List.length_map]; omega)]
  | succ d ih =>
    intro k i m hi hm hj hk
    obtain ⟨k, rfl⟩ : ∃ m, k = m + 1 := ⟨k - 1, by omega⟩
    have hi' : i < l.length := by omega
    unfold laws_toBlobS.l0 laws_toBlob.f
    rw [if_pos (by omega), if_pos (by omega), Option.bind_some, if_pos (by omega), rd37 l i hi', Int.toNat_natCast]
    rw [show wrap64 ((i : Int) + 1) = ((i + 1 : Nat) : Int) by unfold wrap64; omega]
    refine ih k (i + 1) _ (by omega) (by rw [List.length_set]; exact hm) ?_ (by omega)
    intro j hji
    by_cases h : j = i
    · subst h
      rw [List.getElem?_set_self (by omega), List.getElem?_map, List.getElem?_eq_getElem hi']
      rfl
    · rw [List.getElem?_set_ne (by omega)]
      exact hj j (by omega)
theorem to_eq (l : List S37) (hl : l.length ≤ 1048576) (k : Nat) (hk : l.length + 1 ≤ k) : laws_toBlobS.f k l = some (l.map to40) := by
  unfold laws_toBlobS.f
  rw [if_pos (by omega), if_pos (by omega), Int.toNat_natCast]
  exact to_l0 l hl l.length k 0 _ (by omega) (by simp) (fun j hj => absurd hj (by omega)) hk
theorem eq_l0 (l : List S40) (hl : l.length ≤ 1048576) (d : Nat) : ∀ (k i : Nat), i + d = l.length → d + 1 ≤ k → laws_eqBlobS.l0 k l l (i : Int) = some true := by
  induction d with
  | zero =>
    intro k i hi hk
    obtain ⟨k, rfl⟩ : ∃ m, k = m + 1 := ⟨k - 1, by omega⟩
    rw [laws_eqBlobS.l0, if_neg (by omega)]
  | succ d ih =>
    intro k i hi hk
    obtain ⟨k, rfl⟩ : ∃ m, k = m + 1 := ⟨k - 1, by omega⟩
    rw [laws_eqBlobS.l0, if_pos (by omega), if_pos (by omega), if_pos (by omega)]
    unfold laws_eqBlob.f
    rw [if_pos rfl, if_pos rfl, Option.bind_some, if_pos rfl, show wrap64 ((i : Int) + 1) = ((i + 1 : Nat) : Int) by unfold wrap64; omega]
    exact ih k (i + 1) (by omega) (by omega)
theorem eq_same (l : List S40) (hl : l.length ≤ 1048576) (k : Nat) (hk : l.length + 1 ≤ k) : laws_eqBlobS.f k l l = some true := by
  unfold laws_eqBlobS.f
  rw [if_pos rfl]
  exact eq_l0 l hl l.length k 0 (by omega) hk
def outF (r : ByteArray × Bool) : ByteArray := if r.2 = true then r.1 else ⟨#[]⟩
theorem spec_bytes (l : List S40) (hl : l.length ≤ 1048576) : spec_PackBytes.f l = some (outF (Pk.packF (l.map spec_l07Pack.cv))) := by
  unfold spec_PackBytes.f spec_l07Pack.f
  by_cases h : (l.length : Int) > 400
  · rw [if_pos h]
    unfold Pk.packF
    rw [if_neg (by rw [List.length_map]; omega)]
    rfl
  · rw [if_neg h, if_pos (by omega), Option.bind_some]
    unfold outF
    split <;> rfl
theorem impl_bytes (l : List S40) (hl : l.length ≤ 1048576) : impl_PackBytes.f l = some (outF (Pk.packF (l.map spec_l07Pack.cv))) := by
  unfold impl_PackBytes.f impl_packed.f
  rw [if_pos (by omega), Option.bind_some]
  have e : impl_packed.cv = spec_l07Pack.cv := rfl
  rw [e]
  unfold outF
  split <;> rfl
end FnExactPackBytes_
open FnExactPackBytes_
theorem FnExactPackBytes (l : List S37) (hm : l.length ≤ maxLen) (hw : ∀ a ∈ l, a.f1.size ≤ maxLen) : ∃ k, laws_FnExactPackBytes.f k l = some true := by
  suffices main : ∀ K : Nat, l.length + 10 ≤ K → laws_FnExactPackBytes.f K l = some true from ⟨_, main (l.length + 10) (by omega)⟩
  intro K hK
  unfold laws_FnExactPackBytes.f
  obtain ⟨r, e, hr⟩ := sz_eq l hm hw K (by omega)
  rw [e, Option.bind_some]
  by_cases h : r < 0
  · rw [if_pos h]
  · have hl : l.length ≤ 1048576 := by omega
    have hl' : (l.map to40).length = l.length := List.length_map _
    rw [if_neg h, to_eq l hl K (by omega)]
    simp only [Option.bind_some]
    rw [spec_bytes _ (by omega), impl_bytes _ (by omega)]
    simp only [Option.bind_some]
    rw [eq_same _ (by omega) K (by omega)]
    simp
end Go.Proofs.YtbbgahoeokffbaaDoor.Pure

/-
  The law FnExactHashMore, over plain values: program and reference give the same hash, write into no argument, and the answer owns its memory. No conditions beyond the statement's own.
-/
import Derived.Test.YtbbgahoeokffbaaDoorKhAid
import Derived.Test.YtbbgahoeokffbaaDoorKhXFnExactHashMorex4
namespace Go.Proofs.YtbbgahoeokffbaaDoor.Pure
open Go.RowKit Go.Proofs.YtbbgahoeokffbaaDoor.XFnExactHashMore Go.Proofs.YtbbgahoeokffbaaDoorW.PrintWords Go.Proofs.YtbbgahoeokffbaaDoorW.PrintLast Go.Proofs.YtbbgahoeokffbaaDoorW.PrintMore
set_option linter.unusedVariables false
set_option linter.unusedSimpArgs false
namespace FnExactHashMore_
theorem szHash_eq (l : List Int) (s : ByteArray) (a : Int) (n : Int) (h0 : 0 ≤ n) (h1 : n ≤ 1048576) (hl : l.length ≤ maxLen) (hs : s.size ≤ maxLen) :
    ∃ r, laws_szHash.f l s a n = some r ∧ (r < 0 ∨ l.length + s.size ≤ 1048576) := by
  unfold maxLen at hl hs
  unfold laws_szHash.f laws_szInt64S.f
  rw [show wrap64 (n - (l.length : Int)) = n - (l.length : Int) by unfold wrap64; omega]
  by_cases h : n - (l.length : Int) < 0
  · rw [if_pos h]
    exact ⟨-1, rfl, Or.inl (by omega)⟩
  · rw [if_neg h]
    simp only [Option.bind_some]
    rw [if_neg h, show wrap64 (n - (l.length : Int) - (s.size : Int)) = n - (l.length : Int) - (s.size : Int) by unfold wrap64; omega]
    by_cases g : n - (l.length : Int) - (s.size : Int) < 0
    · rw [if_pos g]
      exact ⟨-1, rfl, Or.inl (by omega)⟩
    · rw [if_neg g]
      exact ⟨_, rfl, Or.inr (by omega)⟩
theorem rd_get (l : List Int) (i : Nat) (h : i < l.length) : rd l (i : Int) = l[i] := by
  unfold rd
  rw [Int.toNat_natCast, List.getD_eq_getElem?_getD, List.getElem?_eq_getElem h, Option.getD_some]
theorem toInts_l0 (l : List Int) (hl : l.length ≤ 35184372088832) (d : Nat) : ∀ (k i : Nat) (m : List Int), i + d = l.length → m.length = l.length → (∀ j, j < i → m[j]? = l[j]?) → d + 1 ≤ k → laws_toInt64S.l0 k l m (i : Int) = some l := by
  induction d with
  | zero =>
    intro k i m hi hm hj hk
    obtain ⟨k, rfl⟩ : ∃ m, k = m + 1 := ⟨k - 1, by omega⟩
    rw [laws_toInt64S.l0, if_neg (by omega)]
    congr 1
    apply List.ext_getElem?
    intro j
    by_cases h : j < i
    · exact hj j h
    · rw [List.getElem?_eq_none (by omega), List.getElem?_eq_none (by omega)]
  | succ d ih =>
    intro k i m hi hm hj hk
    obtain ⟨k, rfl⟩ : ∃ m, k = m + 1 := ⟨k - 1, by omega⟩
    rw [laws_toInt64S.l0, if_pos (by omega), if_pos (by omega), if_pos (by omega), rd_get l i (by omega), Int.toNat_natCast]
    rw [show wrap64 ((i : Int) + 1) = ((i + 1 : Nat) : Int) by unfold wrap64; omega]
    refine ih k (i + 1) _ (by omega) (by rw [List.length_set]; exact hm) ?_ (by omega)
    intro j hji
    by_cases h : j = i
    · subst h
      rw [List.getElem?_set_self (by omega), List.getElem?_eq_getElem (by omega)]
    · rw [List.getElem?_set_ne (by omega)]
      exact hj j (by omega)
theorem toInts_eq (l : List Int) (hl : l.length ≤ 35184372088832) (k : Nat) (hk : l.length + 1 ≤ k) : laws_toInt64S.f k l = some l := by
  unfold laws_toInt64S.f
  rw [if_pos (by omega), if_pos (by omega), Int.toNat_natCast]
  exact toInts_l0 l hl l.length k 0 _ (by omega) (by simp) (fun j hj => absurd hj (by omega)) hk
theorem eqInts_l0 (l : List Int) (hl : l.length ≤ 1000000000) (d : Nat) : ∀ (k i : Nat), i + d = l.length → d + 1 ≤ k → laws_eqInt64S.l0 k l l (i : Int) = some true := by
  induction d with
  | zero =>
    intro k i hi hk
    obtain ⟨k, rfl⟩ : ∃ m, k = m + 1 := ⟨k - 1, by omega⟩
    rw [laws_eqInt64S.l0, if_neg (by omega)]
  | succ d ih =>
    intro k i hi hk
    obtain ⟨k, rfl⟩ : ∃ m, k = m + 1 := ⟨k - 1, by omega⟩
    rw [laws_eqInt64S.l0, if_pos (by omega), if_pos (by omega), if_pos (by omega), if_pos rfl, show wrap64 ((i : Int) + 1) = ((i + 1 : Nat) : Int) by unfold wrap64; omega]
    exact ih k (i + 1) (by omega) (by omega)
theorem eqInts (l : List Int) (hl : l.length ≤ 1000000000) (k : Nat) (hk : l.length + 1 ≤ k) : laws_eqInt64S.f k l l = some true := by
  unfold laws_eqInt64S.f
  rw [if_pos rfl]
  exact eqInts_l0 l hl l.length k 0 (by omega) hk
theorem toHash_eq (l : List Int) (s : ByteArray) (a : Int) (hl : l.length ≤ 35184372088832) (k : Nat) (hk : l.length + 1 ≤ k) : laws_toHash.f k l s a = some (l, s, a) := by
  unfold laws_toHash.f
  rw [toInts_eq l hl k hk]
  rfl
theorem eqHash_same (l : List Int) (s : ByteArray) (a : Int) (hl : l.length ≤ 1000000000) (k : Nat) (hk : l.length + 1 ≤ k) : laws_eqHash.f k l s a l s a = some true := by
  unfold laws_eqHash.f
  rw [eqInts l hl k hk]
  simp
def u32B (x : Int) : Bool := decide (0 ≤ x) && decide (x ≤ 4294967295)
def okH (l : List Int) (s : ByteArray) (n : Int) : Bool := decide (l.length = 8) && (l.all u32B && decide (0 ≤ n ∧ n ≤ 1099511627776 ∧ (s.size : Int) = n % 64))
theorem spec_hright_l0 (l : List Int) (s : ByteArray) (n : Int) (hl : l.length = 8) (d : Nat) : ∀ (k i : Nat), i + d = l.length → d + 1 ≤ k → spec_HashRight.l0 k (i : Int) l s n = some ((l.drop i).all u32B) := by
  induction d with
  | zero =>
    intro k i hi hk
    obtain ⟨k, rfl⟩ : ∃ m, k = m + 1 := ⟨k - 1, by omega⟩
    rw [spec_HashRight.l0, if_neg (by omega), List.drop_of_length_le (by omega)]
    rfl
  | succ d ih =>
    intro k i hi hk
    obtain ⟨k, rfl⟩ : ∃ m, k = m + 1 := ⟨k - 1, by omega⟩
    rw [spec_HashRight.l0, if_pos (by omega), if_pos (by omega), if_pos (by omega), rd_get l i (by omega)]
    rw [show wrap64 ((i : Int) + 1) = ((i + 1 : Nat) : Int) by unfold wrap64; omega, ih k (i + 1) (by omega) (by omega)]
    rw [List.drop_eq_getElem_cons (show i < l.length by omega), List.all_cons]
    unfold u32B
    by_cases h1 : l[i] < 0
    · have h1' : ¬ 0 ≤ l[i] := by omega
      simp [h1, h1']
    · have h1' : 0 ≤ l[i] := by omega
      by_cases h2 : l[i] > 4294967295
      · have h2' : ¬ l[i] ≤ 4294967295 := by omega
        simp [h1, h2, h2']
      · have h2' : l[i] ≤ 4294967295 := by omega
        simp [h1, h1', h2, h2']
theorem spec_hright (l : List Int) (s : ByteArray) (n : Int) (hl : l.length ≤ 1000000000) (k : Nat) (hk : l.length + 10 ≤ k) : spec_HashRight.f k l s n = some (okH l s n) := by
  obtain ⟨k, rfl⟩ : ∃ m, k = m + 1 := ⟨k - 1, by omega⟩
  unfold spec_HashRight.f okH
  simp only [spec_HashRight.j0]
  by_cases h1 : (l.length : Int) = 8
  · have h1' : l.length = 8 := by omega
    rw [if_pos h1, decide_eq_true h1']
    by_cases h2 : n < 0
    · rw [if_pos h2, decide_eq_false (show ¬ (0 ≤ n ∧ n ≤ 1099511627776 ∧ (s.size : Int) = n % 64) by omega)]
      simp
    · rw [if_neg h2]
      by_cases h3 : n > 1099511627776
      · rw [if_pos h3, decide_eq_false (show ¬ (0 ≤ n ∧ n ≤ 1099511627776 ∧ (s.size : Int) = n % 64) by omega)]
        simp
      · rw [if_neg h3, Int.tmod_eq_emod_of_nonneg (by omega)]
        by_cases h4 : (s.size : Int) = n % 64
        · have e : ((s.size : Int) != n % 64) = false := by simp [h4]
          have h := spec_hright_l0 l s n h1' l.length k 0 (by omega) (by omega)
          rw [List.drop_zero] at h
          have h' : spec_HashRight.l0 k 0 l s n = some (l.all u32B) := h
          rw [e, if_neg (by simp), h', decide_eq_true (show (0 ≤ n ∧ n ≤ 1099511627776 ∧ (s.size : Int) = n % 64) by omega)]
          simp
        · have e : ((s.size : Int) != n % 64) = true := by simp [h4]
          rw [e, if_pos rfl, decide_eq_false (show ¬ (0 ≤ n ∧ n ≤ 1099511627776 ∧ (s.size : Int) = n % 64) by omega)]
          simp
  · have h1' : ¬ l.length = 8 := by omega
    rw [if_neg h1, decide_eq_false h1']
    simp
theorem impl_bad (x : Int) : impl_HashRight_1.f x = some (!u32B x) := by
  unfold impl_HashRight_1.f impl_within.f u32B
  by_cases h : x ≥ 0
  · have h' : 0 ≤ x := h
    simp [h']
  · have h' : ¬ 0 ≤ x := h
    simp [h']
theorem index_l0 (l : List Int) (hl : l.length ≤ 1000000000) (d : Nat) : ∀ (k i : Nat), i + d = l.length → d + 1 ≤ k → ∃ r, slices_IndexFunc_int64_int64.l0 k l (l.length : Int) (i : Int) = some r ∧ decide (r ≥ 0) = !((l.drop i).all u32B) := by
  induction d with
  | zero =>
    intro k i hi hk
    obtain ⟨k, rfl⟩ : ∃ m, k = m + 1 := ⟨k - 1, by omega⟩
    refine ⟨-1, ?_, ?_⟩
    · rw [slices_IndexFunc_int64_int64.l0, if_neg (by omega)]
    · rw [List.drop_of_length_le (by omega)]
      rfl
  | succ d ih =>
    intro k i hi hk
    obtain ⟨k, rfl⟩ : ∃ m, k = m + 1 := ⟨k - 1, by omega⟩
    rw [slices_IndexFunc_int64_int64.l0, if_pos (by omega), if_pos (by omega), if_pos (by omega), rd_get l i (by omega), impl_bad]
    simp only [Option.bind_some]
    rw [show wrap64 ((i : Int) + 1) = ((i + 1 : Nat) : Int) by unfold wrap64; omega]
    rw [List.drop_eq_getElem_cons (show i < l.length by omega), List.all_cons]
    cases hb : u32B l[i] with
    | true =>
      obtain ⟨r, e, h⟩ := ih k (i + 1) (by omega) (by omega)
      refine ⟨r, ?_, ?_⟩
      · simpa using e
      · simpa using h
    | false =>
      refine ⟨i, ?_, ?_⟩
      · simp
      · simp
theorem impl_hright (l : List Int) (s : ByteArray) (n : Int) (hl : l.length ≤ 1000000000) (k : Nat) (hk : l.length + 10 ≤ k) : impl_HashRight.f k l s n = some (okH l s n) := by
  unfold impl_HashRight.f okH impl_within.f impl_size_int64.f impl_long.f slices_ContainsFunc_int64_int64.f slices_IndexFunc_int64_int64.f
  obtain ⟨r, e, hr⟩ := index_l0 l hl l.length k 0 (by omega) (by omega)
  have e' : slices_IndexFunc_int64_int64.l0 k l (l.length : Int) 0 = some r := e
  rw [e']
  rw [List.drop_zero] at hr
  simp only [Option.bind_some]
  rw [hr]
  by_cases h1 : (l.length : Int) = 8
  · have h1' : l.length = 8 := by omega
    rw [if_pos h1, decide_eq_true h1']
    cases hb : l.all u32B with
    | false => simp
    | true =>
      simp only [Bool.not_true, Bool.false_eq_true, if_false]
      by_cases h2 : n ≥ 0
      · rw [if_pos h2]
        by_cases h3 : n ≤ 1099511627776
        · rw [decide_eq_true h3, Int.tmod_eq_emod_of_nonneg h2]
          simp only [Option.bind_some, if_true]
          by_cases h4 : (s.size : Int) = n % 64
          · rw [decide_eq_true (show (0 ≤ n ∧ n ≤ 1099511627776 ∧ (s.size : Int) = n % 64) by omega)]
            simp [h4]
          · rw [decide_eq_false (show ¬ (0 ≤ n ∧ n ≤ 1099511627776 ∧ (s.size : Int) = n % 64) by omega)]
            simp [h4]
        · rw [decide_eq_false h3, decide_eq_false (show ¬ (0 ≤ n ∧ n ≤ 1099511627776 ∧ (s.size : Int) = n % 64) by omega)]
          simp
      · rw [if_neg h2, decide_eq_false (show ¬ (0 ≤ n ∧ n ≤ 1099511627776 ∧ (s.size : Int) = n % 64) by omega)]
        simp
  · have h1' : ¬ l.length = 8 := by omega
    rw [if_neg h1, decide_eq_false h1']
    simp
theorem markInts_l0 (s : Int) (hs : 0 < s) (d : Nat) : ∀ (k i : Nat) (l : List Int), i + d = l.length → s + l.length ≤ 2000000000 → d + 1 ≤ k → (∀ j : Nat, j < i → l[j]? = some (s + (j : Int))) →
    ∃ l' : List Int, laws_markInt64S.l0 k l (s + i) i = some (s + l.length, l') ∧ l'.length = l.length ∧ ∀ j : Nat, j < l.length → l'[j]? = some (s + (j : Int)) := by
  induction d with
  | zero =>
    intro k i l hi hl hk h
    obtain ⟨k, rfl⟩ : ∃ m, k = m + 1 := ⟨k - 1, by omega⟩
    refine ⟨l, ?_, rfl, fun j hj => h j (by omega)⟩
    rw [laws_markInt64S.l0, if_neg (by omega)]
    congr 2
    omega
  | succ d ih =>
    intro k i l hi hl hk h
    obtain ⟨k, rfl⟩ : ∃ m, k = m + 1 := ⟨k - 1, by omega⟩
    have hset : (l.set i (s + (i : Int))).length = l.length := List.length_set ..
    obtain ⟨l', e, h1, h2⟩ := ih k (i + 1) (l.set i (s + (i : Int))) (by omega) (by omega) (by omega) (by
      intro j hj
      by_cases hji : j = i
      · subst hji
        rw [List.getElem?_set_self (by omega)]
      · rw [List.getElem?_set_ne (by omega)]
        exact h j (by omega))
    rw [hset] at e h1 h2
    refine ⟨l', ?_, h1, h2⟩
    rw [laws_markInt64S.l0, if_pos (by omega), if_pos (by omega), Int.toNat_natCast, show wrap64 (s + (i : Int) + 1) = s + ((i + 1 : Nat) : Int) by unfold wrap64; omega, show wrap64 ((i : Int) + 1) = ((i + 1 : Nat) : Int) by unfold wrap64; omega]
    exact e
theorem heldInts_l0 (s : Int) (hs : 0 < s) (l : List Int) (hl : s + l.length ≤ 2000000000) (h : ∀ j : Nat, j < l.length → l[j]? = some (s + (j : Int))) (d : Nat) :
    ∀ (k i : Nat), i + d = l.length → d + 1 ≤ k → laws_heldInt64S.l0 k l (s + i) i = some (s + l.length) := by
  induction d with
  | zero =>
    intro k i hi hk
    obtain ⟨k, rfl⟩ : ∃ m, k = m + 1 := ⟨k - 1, by omega⟩
    rw [laws_heldInt64S.l0, if_neg (by omega)]
    congr 1
    omega
  | succ d ih =>
    intro k i hi hk
    obtain ⟨k, rfl⟩ : ∃ m, k = m + 1 := ⟨k - 1, by omega⟩
    have hr : rd l (i : Int) = s + (i : Int) := by
      unfold rd
      rw [Int.toNat_natCast, List.getD_eq_getElem?_getD, h i (by omega), Option.getD_some]
    rw [laws_heldInt64S.l0, if_pos (by omega), if_pos (by omega), hr, if_pos rfl, show wrap64 (s + (i : Int) + 1) = s + ((i + 1 : Nat) : Int) by unfold wrap64; omega, show wrap64 ((i : Int) + 1) = ((i + 1 : Nat) : Int) by unfold wrap64; omega]
    exact ih k (i + 1) (by omega) (by omega)
/-- marked, and held: what is marked is found so again. -/
theorem marks_ints (l : List Int) (s : Int) (hs : 0 < s) (hl : s + l.length ≤ 2000000000) (k : Nat) (hk : l.length + 1 ≤ k) :
    ∃ l', laws_markInt64S.f k l s = some (s + l.length, l') ∧ l'.length = l.length ∧ ∀ k', l.length + 1 ≤ k' → laws_heldInt64S.f k' l' s = some (s + l.length) := by
  obtain ⟨l', e, h1, h2⟩ := markInts_l0 s hs l.length k 0 l (by omega) hl hk (fun j hj => absurd hj (by omega))
  have z : s + ((0 : Nat) : Int) = s := by omega
  refine ⟨l', ?_, h1, fun k' hk' => ?_⟩
  · rw [z] at e
    exact e
  · have e2 := heldInts_l0 s hs l' (by omega) (fun j hj => h2 j (by omega)) l'.length k' 0 (by omega) (by omega)
    rw [h1, z] at e2
    exact e2
theorem same_ok (l : List Int) (s : ByteArray) (a : Int) : okH l s a = Sha.okH l s a := (Bool.and_assoc _ _ _).symm
/-- What HashMore answers. -/
def res (l : List Int) (s : ByteArray) (a : Int) (t : ByteArray) : List Int × ByteArray × Int := if t.size ≤ 20000 then (if Sha.okH l s a = true then (if a + (t.size : Int) > 1099511627776 then (l, s, a) else Sha.moreF l s t a) else (l, s, a)) else ([], (⟨#[]⟩ : ByteArray), 0)
theorem res_len (l : List Int) (s : ByteArray) (a : Int) (t : ByteArray) : (res l s a t).1.length ≤ l.length := by
  unfold res
  split
  · split
    · split
      · exact Nat.le_refl _
      · unfold Sha.moreF
        rw [Sha.blks_len]
        exact Nat.le_refl _
    · exact Nat.le_refl _
  · simp
theorem spec_more (l : List Int) (s : ByteArray) (a : Int) (t : ByteArray) (hl : l.length ≤ 1000000000) (k : Nat) (hk : l.length + 10 ≤ k) : spec_HashMore.f k l s a t = some (res l s a t) := by
  unfold spec_HashMore.f spec_l05More.f Sha.moreS res
  by_cases ht : t.size ≤ 20000
  · rw [if_neg (by omega), if_pos ht, spec_hright l s a hl k hk, Option.bind_some, same_ok]
    by_cases h : Sha.okH l s a = true
    · obtain ⟨h1, h2, h3, h4, h5⟩ := Sha.okH_out h
      rw [if_pos h, if_pos h, show wrap64 (a + (t.size : Int)) = a + (t.size : Int) by unfold wrap64; omega]
      by_cases hb : a + (t.size : Int) > 1099511627776
      · rw [if_pos hb, if_pos hb, Option.bind_some, if_pos (by simp; omega), List.nil_append]
      · rw [if_neg hb, if_neg hb, if_pos ⟨h, ht⟩, Option.bind_some]
    · rw [if_neg h, if_neg h, Option.bind_some, if_pos (by simp; omega), List.nil_append]
  · rw [if_pos (by omega), if_neg ht]
theorem impl_more (l : List Int) (s : ByteArray) (a : Int) (t : ByteArray) (hl : l.length ≤ 1000000000) (k : Nat) (hk : l.length + 10 ≤ k) : impl_HashMore.f k l s a t = some (res l s a t) := by
  unfold impl_HashMore.f impl_isLong.f impl_long.f slices_Clone_int64_int64.f Sha.moreI res
  by_cases ht : t.size ≤ 20000
  · rw [decide_eq_false (show ¬ (t.size : Int) > 20000 by omega), Option.bind_some, if_neg (by simp), if_pos ht, impl_hright l s a hl k hk, Option.bind_some, same_ok]
    by_cases h : Sha.okH l s a = true
    · obtain ⟨h1, h2, h3, h4, h5⟩ := Sha.okH_out h
      rw [if_pos h, if_pos h, Option.bind_some, show wrap64 (a + (t.size : Int)) = a + (t.size : Int) by unfold wrap64; omega]
      by_cases hb : a + (t.size : Int) > 1099511627776
      · rw [if_pos hb, if_pos hb, if_pos hl, Option.bind_some, ite_self]
      · rw [if_neg hb, if_neg hb, if_pos h]
    · rw [if_neg h, if_neg h, if_pos hl, Option.bind_some]
  · rw [decide_eq_true (show (t.size : Int) > 20000 by omega), Option.bind_some, if_pos rfl, if_neg ht]
theorem j0_true (l : List Int) (s : ByteArray) (a : Int) (t : ByteArray) (hl : l.length ≤ 1048576) (k : Nat) (hk : l.length + 20 ≤ k) (R : List Int × ByteArray × Int) (hR : res l s a t = R) :
    laws_FnExactHashMore.j0 k t false l s a R.1 R.2.1 R.2.2 R.1 R.2.1 R.2.2 = some true := by
  obtain ⟨k, rfl⟩ : ∃ m, k = m + 1 := ⟨k - 1, by omega⟩
  have hRl : R.1.length ≤ l.length := by rw [← hR]; exact res_len l s a t
  obtain ⟨r, e1, e2, e3⟩ := marks_ints R.1 1 (by omega) (by omega) k (by omega)
  have e4 := e3 k (by omega)
  rw [laws_FnExactHashMore.j0, if_neg (by simp)]
  unfold laws_markHash.f laws_heldHash.f
  rw [e1]
  simp only [Option.bind_some]
  rw [e4]
  simp only [Option.bind_some]
  rw [if_neg (by omega)]
  simp only [Option.bind_some]
  rw [if_neg (by omega), if_pos True.intro, toHash_eq l s a (by omega) k (by omega)]
  simp only [Option.bind_some]
  rw [impl_more l s a t (by omega) k (by omega), hR]
  simp only [Option.bind_some]
  rw [eqHash_same R.1 R.2.1 R.2.2 (by omega) k (by omega)]
  simp only [Option.bind_some, if_true]
  rw [if_neg (by omega)]
end FnExactHashMore_
open FnExactHashMore_
theorem FnExactHashMore (l : List Int) (s : ByteArray) (a : Int) (t : ByteArray) (hm : l.length ≤ maxLen) (_ : ∀ x ∈ l, (Lit.int .i64 x).wf = true) (hs : s.size ≤ maxLen) (_ : (Lit.int .i64 a).wf = true) (ht : t.size ≤ 140737488351232) : ∃ k, laws_FnExactHashMore.f k l s a t = some true := by
  suffices main : ∀ K : Nat, l.length + 30 ≤ K → laws_FnExactHashMore.f K l s a t = some true from ⟨_, main (l.length + 30) (by omega)⟩
  intro K hK
  unfold laws_FnExactHashMore.f
  by_cases h9 : (t.size : Int) > 1048576
  · rw [if_pos h9]
  rw [if_neg h9]
  obtain ⟨r, e, hr⟩ := szHash_eq l s a 1048576 (by omega) (by omega) hm hs
  rw [e]
  simp only [Option.bind_some]
  by_cases h : r < 0
  · rw [if_pos h]
  · have hl : l.length ≤ 1048576 := by omega
    obtain ⟨l', e1, e2, _⟩ := marks_ints l 1 (by omega) (by omega) K (by omega)
    have hj := j0_true l s a t hl K (by omega) (res l s a t) rfl
    have hRl := res_len l s a t
    rw [if_neg h, toHash_eq l s a (by omega) K (by omega)]
    simp only [Option.bind_some]
    rw [spec_more l s a t (by omega) K (by omega), impl_more l s a t (by omega) K (by omega)]
    generalize res l s a t = R at hj hRl
    simp only [Option.bind_some]
    rw [eqHash_same R.1 R.2.1 R.2.2 (by omega) K (by omega), eqHash_same l s a (by omega) K (by omega)]
    simp only [Option.bind_some, if_true]
    unfold laws_markHash.f
    rw [e1]
    simp only [Option.bind_some]
    rw [if_neg (by omega)]
    exact hj
end Go.Proofs.YtbbgahoeokffbaaDoor.Pure

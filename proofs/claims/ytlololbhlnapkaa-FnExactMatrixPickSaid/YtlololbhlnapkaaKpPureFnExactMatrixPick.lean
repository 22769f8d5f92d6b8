/-
  The law FnExactMatrixPick, over plain values: program and reference give the same rows for any matrix and any numbers of rows. No conditions beyond the statement's own.
-/
import Derived.Test.YtlololbhlnapkaaKpAid
import Derived.Test.YtlololbhlnapkaaKpMp
import Derived.Test.YtlololbhlnapkaaKpXFnExactMatrixPickx5
namespace Go.Proofs.Ytlololbhlnapkaa.Pure
open Go.RowKit Go.Proofs.Ytlololbhlnapkaa.XFnExactMatrixPick Go.Proofs.Ytlololbhlnapkaa.Gf Go.Proofs.Ytlololbhlnapkaa.FieldAid Go.Proofs.Ytlololbhlnapkaa.Mp Go.Proofs.YtlololbhlnapkaaW.PrintWords Go.Proofs.YtlololbhlnapkaaW.PrintLast Go.Proofs.YtlololbhlnapkaaW.PrintMore
set_option linter.unusedVariables false
set_option linter.unusedSimpArgs false
namespace FnExactMatrixPick_
theorem szMatrix_eq (a b : Int) (l : List Int) (n : Int) (h0 : 0 ≤ n) (h1 : n ≤ 1048576) (hl : l.length ≤ maxLen) : laws_szMatrix.f a b l n = some (if n - (l.length : Int) < 0 then -1 else n - (l.length : Int)) := by
  unfold maxLen at hl
  unfold laws_szMatrix.f laws_szInt64S.f
  rw [show wrap64 (n - (l.length : Int)) = n - (l.length : Int) by unfold wrap64; omega]
  by_cases h : n - (l.length : Int) < 0
  · rw [if_pos h, if_pos h]
    rfl
  · rw [if_neg h, if_neg h]
    simp only [Option.bind_some]
    rw [if_neg h]
theorem rd_get (l : List Int) (i : Nat) (h : i < l.length) : rd l (i : Int) = l[i] := by
  unfold rd
  rw [Int.toNat_natCast, List.getD_eq_getElem?_getD, List.getElem?_eq_getElem h, Option.getD_some]
theorem toInts_l0 (l : List Int) (hl : l.length ≤ 35184372088832) (d : Nat) : ∀ (k i : Nat) (m : List Int), i + d = l.length → m.length = l.length → (∀ j, j < i → m[j]? = l[j]?) → d + 1 ≤ k → laws_toInt64S.l0 k l m (i : Int) = some l := by
  induction d with
  | zero =>
    intro k i m hi hm hj hk
    obtain ⟨k, rfl⟩ : ∃ m, k = m + 1 := ⟨k - 1, by omega⟩
    rw [laws_toInt64S.l0, if_neg (by omega)]
    congr 1
    apply List.ext_getElem?
    intro j
    by_cases h : j < i
    · exact hj j h
    · rw [List.getElem?_eq_none (by omega), List.getElem?_eq_none (by omega)]
  | succ d ih =>
    intro k i m hi hm hj hk
    obtain ⟨k, rfl⟩ : ∃ m, k = m + 1 := ⟨k - 1, by omega⟩
    rw [laws_toInt64S.l0, if_pos (by omega), if_pos (by omega), if_pos (by omega), rd_get l i (by omega), Int.toNat_natCast]
    rw [show wrap64 ((i : Int) + 1) = ((i + 1 : Nat) : Int) by unfold wrap64; omega]
    refine ih k (i + 1) _ (by omega) (by rw [List.length_set]; exact hm) ?_ (by omega)
    intro j hji
    by_cases h : j = i
    · subst h
      rw [List.getElem?_set_self (by omega), List.getElem?_eq_getElem (by omega)]
    · rw [List.getElem?_set_ne (by omega)]
      exact hj j (by omega)
theorem toInts_eq (l : List Int) (hl : l.length ≤ 35184372088832) (k : Nat) (hk : l.length + 1 ≤ k) : laws_toInt64S.f k l = some l := by
  unfold laws_toInt64S.f
  rw [if_pos (by omega), if_pos (by omega), Int.toNat_natCast]
  exact toInts_l0 l hl l.length k 0 _ (by omega) (by simp) (fun j hj => absurd hj (by omega)) hk
theorem toMatrix_eq (a b : Int) (l : List Int) (hl : l.length ≤ 35184372088832) (k : Nat) (hk : l.length + 1 ≤ k) : laws_toMatrix.f k a b l = some (a, b, l) := by
  unfold laws_toMatrix.f
  rw [toInts_eq l hl k hk]
  rfl
theorem eqInts_l0 (l : List Int) (hl : l.length ≤ 1000000000) (d : Nat) : ∀ (k i : Nat), i + d = l.length → d + 1 ≤ k → laws_eqInt64S.l0 k l l (i : Int) = some true := by
  induction d with
  | zero =>
    intro k i hi hk
    obtain ⟨k, rfl⟩ : ∃ m, k = m + 1 := ⟨k - 1, by omega⟩
    rw [laws_eqInt64S.l0, if_neg (by omega)]
  | succ d ih =>
    intro k i hi hk
    obtain ⟨k, rfl⟩ : ∃ m, k = m + 1 := ⟨k - 1, by omega⟩
    rw [laws_eqInt64S.l0, if_pos (by omega), if_pos (by omega), if_pos (by omega), if_pos rfl, show wrap64 ((i : Int) + 1) = ((i + 1 : Nat) : Int) by unfold wrap64; omega]
    exact ih k (i + 1) (by omega) (by omega)
theorem eqInts (l : List Int) (hl : l.length ≤ 1000000000) (k : Nat) (hk : l.length + 1 ≤ k) : laws_eqInt64S.f k l l = some true := by
  unfold laws_eqInt64S.f
  rw [if_pos rfl]
  exact eqInts_l0 l hl l.length k 0 (by omega) hk
theorem eqMatrix_same (a b : Int) (l : List Int) (hl : l.length ≤ 1000000000) (k : Nat) (hk : l.length + 1 ≤ k) : laws_eqMatrix.f k a b l a b l = some true := by
  unfold laws_eqMatrix.f
  rw [if_pos rfl, if_pos rfl, eqInts l hl k hk]
  rfl
theorem eqOut_same (a b : Int) (l : List Int) (c : Int) (hl : l.length ≤ 1000000000) (k : Nat) (hk : l.length + 1 ≤ k) : laws_eqMatrixOut.f k a b l c a b l c = some true := by
  unfold laws_eqMatrixOut.f
  rw [eqMatrix_same a b l hl k hk, Option.bind_some, if_pos rfl, if_pos rfl]
def byteB (x : Int) : Bool := decide (0 ≤ x) && decide (x ≤ 255)
def okM (a b : Int) (l : List Int) : Bool := decide (1 ≤ a ∧ a ≤ 16 ∧ 1 ≤ b ∧ b ≤ 16 ∧ (l.length : Int) = a * b) && l.all byteB
theorem side_mul {a b : Int} (h1 : 1 ≤ a) (h2 : a ≤ 16) (h3 : 1 ≤ b) (h4 : b ≤ 16) : 1 ≤ a * b ∧ a * b ≤ 256 := by
  constructor
  · have := Int.mul_le_mul h1 h3 (by omega) (by omega)
    omega
  · have := Int.mul_le_mul h2 h4 (by omega) (by omega)
    omega
theorem okM_out {a b : Int} {l : List Int} (h : okM a b l = true) : ∃ r c : Nat, a = (r : Int) ∧ b = (c : Int) ∧ 1 ≤ r ∧ r ≤ 16 ∧ 1 ≤ c ∧ c ≤ 16 ∧ l.length = r * c ∧ Bytes l := by
  unfold okM at h
  rw [Bool.and_eq_true, decide_eq_true_iff, List.all_eq_true] at h
  obtain ⟨⟨h1, h2, h3, h4, h5⟩, h6⟩ := h
  obtain ⟨r, rfl⟩ := Int.eq_ofNat_of_zero_le (show 0 ≤ a by omega)
  obtain ⟨c, rfl⟩ := Int.eq_ofNat_of_zero_le (show 0 ≤ b by omega)
  refine ⟨r, c, rfl, rfl, by omega, by omega, by omega, by omega, ?_, fun x hx => ?_⟩
  · rw [← Int.natCast_mul] at h5
    exact Int.ofNat_inj.1 h5
  · have := h6 x hx
    unfold byteB at this
    rw [Bool.and_eq_true, decide_eq_true_iff, decide_eq_true_iff] at this
    exact this
theorem okM_same (a b : Int) (l : List Int) : okM a b l = FnExactMatrixRight_.okM a b l := rfl
theorem spec_byte (x : Int) : spec_l02Byte.f x = some (byteB x) := by
  unfold spec_l02Byte.f byteB
  by_cases h : x ≥ 0
  · have h' : 0 ≤ x := h
    simp [h']
  · have h' : ¬ 0 ≤ x := h
    simp [h']
theorem spec_right_l0 (a b : Int) (l : List Int) (hl : l.length ≤ 1000000000) (d : Nat) : ∀ (k i : Nat), i + d = l.length → d + 1 ≤ k → spec_MatrixRight.l0 k (i : Int) a b l = some ((l.drop i).all byteB) := by
  induction d with
  | zero =>
    intro k i hi hk
    obtain ⟨k, rfl⟩ : ∃ m, k = m + 1 := ⟨k - 1, by omega⟩
    rw [spec_MatrixRight.l0, if_neg (by omega), List.drop_of_length_le (by omega)]
    rfl
  | succ d ih =>
    intro k i hi hk
    obtain ⟨k, rfl⟩ : ∃ m, k = m + 1 := ⟨k - 1, by omega⟩
    rw [spec_MatrixRight.l0, if_pos (by omega), if_pos (by omega), rd_get l i (by omega), spec_byte]
    simp only [Option.bind_some]
    rw [show wrap64 ((i : Int) + 1) = ((i + 1 : Nat) : Int) by unfold wrap64; omega, ih k (i + 1) (by omega) (by omega)]
    rw [List.drop_eq_getElem_cons (show i < l.length by omega), List.all_cons]
    cases byteB l[i] <;> simp
theorem spec_right (a b : Int) (l : List Int) (hl : l.length ≤ 1000000000) (k : Nat) (hk : l.length + 2 ≤ k) : spec_MatrixRight.f k a b l = some (okM a b l) := by
  obtain ⟨k, rfl⟩ : ∃ m, k = m + 1 := ⟨k - 1, by omega⟩
  unfold spec_MatrixRight.f okM
  simp only [spec_MatrixRight.j0]
  by_cases h1 : a < 1
  · rw [if_pos h1]
    simp
    omega
  rw [if_neg h1]
  by_cases h2 : a > 16
  · rw [if_pos h2]
    simp
    omega
  rw [if_neg h2]
  by_cases h3 : b < 1
  · rw [if_pos h3]
    simp
    omega
  rw [if_neg h3]
  by_cases h4 : b > 16
  · rw [if_pos h4]
    simp
    omega
  rw [if_neg h4]
  have hm := side_mul (a := a) (b := b) (by omega) (by omega) (by omega) (by omega)
  rw [show wrap64 (a * b) = a * b by unfold wrap64; omega]
  by_cases h5 : (l.length : Int) = a * b
  · have e : ((l.length : Int) != a * b) = false := by simp [h5]
    have h := spec_right_l0 a b l hl l.length k 0 (by omega) (by omega)
    rw [List.drop_zero] at h
    have h' : spec_MatrixRight.l0 k 0 a b l = some (l.all byteB) := h
    rw [e, if_neg (by simp), h', decide_eq_true (by omega)]
    rfl
  · have e : ((l.length : Int) != a * b) = true := by simp [h5]
    rw [e, if_pos rfl, decide_eq_false (by omega)]
    rfl
theorem markInts_l0 (s : Int) (hs : 0 < s) (d : Nat) : ∀ (k i : Nat) (l : List Int), i + d = l.length → s + l.length ≤ 2000000000 → d + 1 ≤ k → (∀ j : Nat, j < i → l[j]? = some (s + (j : Int))) →
    ∃ l' : List Int, laws_markInt64S.l0 k l (s + i) i = some (s + l.length, l') ∧ l'.length = l.length ∧ ∀ j : Nat, j < l.length → l'[j]? = some (s + (j : Int)) := by
  induction d with
  | zero =>
    intro k i l hi hl hk h
    obtain ⟨k, rfl⟩ : ∃ m, k = m + 1 := ⟨k - 1, by omega⟩
    refine ⟨l, ?_, rfl, fun j hj => h j (by omega)⟩
    rw [laws_markInt64S.l0, if_neg (by omega)]
    congr 2
    omega
  | succ d ih =>
    intro k i l hi hl hk h
    obtain ⟨k, rfl⟩ : ∃ m, k = m + 1 := ⟨k - 1, by omega⟩
    have hset : (l.set i (s + (i : Int))).length = l.length := List.length_set ..
    obtain ⟨l', e, h1, h2⟩ := ih k (i + 1) (l.set i (s + (i : Int))) (by omega) (by omega) (by omega) (by
      intro j hj
      by_cases hji : j = i
      · subst hji
        rw [List.getElem?_set_self (by omega)]
      · rw [List.getElem?_set_ne (by omega)]
        exact h j (by omega))
    rw [hset] at e h1 h2
    refine ⟨l', ?_, h1, h2⟩
    rw [laws_markInt64S.l0, if_pos (by omega), if_pos (by omega), Int.toNat_natCast, show wrap64 (s + (i : Int) + 1) = s + ((i + 1 : Nat) : Int) by unfold wrap64; omega, show wrap64 ((i : Int) + 1) = ((i + 1 : Nat) : Int) by unfold wrap64; omega]
    exact e
theorem heldInts_l0 (s : Int) (hs : 0 < s) (l : List Int) (hl : s + l.length ≤ 2000000000) (h : ∀ j : Nat, j < l.length → l[j]? = some (s + (j : Int))) (d : Nat) :
    ∀ (k i : Nat), i + d = l.length → d + 1 ≤ k → laws_heldInt64S.l0 k l (s + i) i = some (s + l.length) := by
  induction d with
  | zero =>
    intro k i hi hk
    obtain ⟨k, rfl⟩ : ∃ m, k = m + 1 := ⟨k - 1, by omega⟩
    rw [laws_heldInt64S.l0, if_neg (by omega)]
    congr 1
    omega
  | succ d ih =>
    intro k i hi hk
    obtain ⟨k, rfl⟩ : ∃ m, k = m + 1 := ⟨k - 1, by omega⟩
    have hr : rd l (i : Int) = s + (i : Int) := by
      unfold rd
      rw [Int.toNat_natCast, List.getD_eq_getElem?_getD, h i (by omega), Option.getD_some]
    rw [laws_heldInt64S.l0, if_pos (by omega), if_pos (by omega), hr, if_pos rfl, show wrap64 (s + (i : Int) + 1) = s + ((i + 1 : Nat) : Int) by unfold wrap64; omega, show wrap64 ((i : Int) + 1) = ((i + 1 : Nat) : Int) by unfold wrap64; omega]
    exact ih k (i + 1) (by omega) (by omega)
/-- marked, and held: what is marked is found so again. -/
theorem marks_ints (l : List Int) (s : Int) (hs : 0 < s) (hl : s + l.length ≤ 2000000000) (k : Nat) (hk : l.length + 1 ≤ k) :
    ∃ l', laws_markInt64S.f k l s = some (s + l.length, l') ∧ l'.length = l.length ∧ ∀ k', l.length + 1 ≤ k' → laws_heldInt64S.f k' l' s = some (s + l.length) := by
  obtain ⟨l', e, h1, h2⟩ := markInts_l0 s hs l.length k 0 l (by omega) hl hk (fun j hj => absurd hj (by omega))
  have z : s + ((0 : Nat) : Int) = s := by omega
  refine ⟨l', ?_, h1, fun k' hk' => ?_⟩
  · rw [z] at e
    exact e
  · have e2 := heldInts_l0 s hs l' (by omega) (fun j hj => h2 j (by omega)) l'.length k' 0 (by omega) (by omega)
    rw [h1, z] at e2
    exact e2
theorem rdL_get (ls : List (List Int)) (i : Nat) (h : i < ls.length) : rd_L1 ls (i : Int) = ls[i] := by
  unfold rd_L1
  rw [Int.toNat_natCast, List.getD_eq_getElem?_getD, List.getElem?_eq_getElem h, Option.getD_some]
theorem flat_step (ls : List (List Int)) (i : Nat) (h : i < ls.length) : (ls.drop i).flatten = ls[i] ++ (ls.drop (i + 1)).flatten := by
  rw [List.drop_eq_getElem_cons h, List.flatten_cons]
theorem concat_l1 (ls : List (List Int)) (hl : ls.length ≤ 1000000) (d : Nat) : ∀ (k i : Nat) (out : List Int), i + d = ls.length → out.length + (ls.drop i).flatten.length ≤ 1000000 → d + 1 ≤ k →
    slices_Concat_int64_int64.l1 k out ls (ls.length : Int) (i : Int) = some (out ++ (ls.drop i).flatten) := by
  induction d with
  | zero =>
    intro k i out hi ho hk
    obtain ⟨k, rfl⟩ : ∃ m, k = m + 1 := ⟨k - 1, by omega⟩
    rw [slices_Concat_int64_int64.l1, if_neg (by omega), List.drop_of_length_le (by omega)]
    simp
  | succ d ih =>
    intro k i out hi ho hk
    obtain ⟨k, rfl⟩ : ∃ m, k = m + 1 := ⟨k - 1, by omega⟩
    have hs := flat_step ls i (by omega)
    rw [hs, List.length_append] at ho
    rw [slices_Concat_int64_int64.l1, if_pos (by omega), if_pos (by omega), if_pos (by omega), rdL_get ls i (by omega), if_pos (by omega), show wrap64 ((i : Int) + 1) = ((i + 1 : Nat) : Int) by unfold wrap64; omega,
      ih k (i + 1) _ (by omega) (by rw [List.length_append]; omega) (by omega), hs, List.append_assoc]
theorem concat_l0 (ls : List (List Int)) (hl : ls.length ≤ 1000000) (hf : ls.flatten.length ≤ 1000000) (d : Nat) : ∀ (k i n : Nat), i + d = ls.length → n + (ls.drop i).flatten.length = ls.flatten.length → d + ls.length + 2 ≤ k →
    slices_Concat_int64_int64.l0 k ls (n : Int) ls (ls.length : Int) (i : Int) = some ls.flatten := by
  induction d with
  | zero =>
    intro k i n hi ho hk
    obtain ⟨k, rfl⟩ : ∃ m, k = m + 1 := ⟨k - 1, by omega⟩
    rw [slices_Concat_int64_int64.l0, if_neg (by omega)]
    unfold slices_Grow_int64_int64.f
    rw [if_pos (by omega), if_pos (by omega), Option.bind_some]
    have h := concat_l1 ls hl ls.length k 0 [] (by omega) (by simp only [List.drop_zero, List.length_nil]; omega) (by omega)
    rw [List.drop_zero, List.nil_append] at h
    exact h
  | succ d ih =>
    intro k i n hi ho hk
    obtain ⟨k, rfl⟩ : ∃ m, k = m + 1 := ⟨k - 1, by omega⟩
    have hs := flat_step ls i (by omega)
    rw [hs, List.length_append] at ho
    rw [slices_Concat_int64_int64.l0, if_pos (by omega), if_pos (by omega), if_pos (by omega), rdL_get ls i (by omega), show wrap64 ((n : Int) + (ls[i].length : Int)) = ((n + ls[i].length : Nat) : Int) by unfold wrap64; omega, if_neg (by omega),
      show wrap64 ((i : Int) + 1) = ((i + 1 : Nat) : Int) by unfold wrap64; omega]
    exact ih k (i + 1) _ (by omega) (by omega) (by omega)
theorem concat_eq (ls : List (List Int)) (hl : ls.length ≤ 1000000) (hf : ls.flatten.length ≤ 1000000) (k : Nat) (hk : 2 * ls.length + 2 ≤ k) : slices_Concat_int64_int64.f k ls = some ls.flatten := by
  unfold slices_Concat_int64_int64.f
  exact concat_l0 ls hl hf ls.length k 0 0 (by omega) (by rw [List.drop_zero]; omega) (by omega)
theorem matrixOf_eq (ls : List (List Int)) (h0 : 0 < ls.length) (hl : ls.length ≤ 1000000) (hf : ls.flatten.length ≤ 1000000) (k : Nat) (hk : 2 * ls.length + 2 ≤ k) : impl_matrixOf.f k ls = some ((ls.length : Int), (ls[0].length : Int), ls.flatten) := by
  unfold impl_matrixOf.f impl_size_int64_144.f impl_size_int64_67.f
  rw [Option.bind_some, if_pos (by omega), Option.bind_some, concat_eq ls hl hf k hk, Option.bind_some, show (0 : Int) = ((0 : Nat) : Int) from rfl, rdL_get ls 0 h0]
def rowOk (r : Nat) (x : Int) : Bool := decide (0 ≤ x ∧ x < (r : Int))
def rowsOf (l : List Int) (c : Nat) (rows : List Int) : List (List Int) := rows.map fun x => rowL l c x.toNat
theorem flat_le (ls : List (List Int)) (c : Nat) (h : ∀ x ∈ ls, x.length = c) : ls.flatten.length = ls.length * c := by
  induction ls with
  | nil => simp
  | cons a t ih =>
    rw [List.flatten_cons, List.length_append, ih (fun x hx => h x (List.mem_cons_of_mem _ hx)), h a List.mem_cons_self, List.length_cons, Nat.succ_mul]
    omega
theorem rows_len {l : List Int} {r c : Nat} (hl : l.length = r * c) {rows : List Int} (h : rows.all (rowOk r) = true) : ∀ x ∈ rowsOf l c rows, x.length = c := by
  intro x hx
  unfold rowsOf at hx
  obtain ⟨y, hy, rfl⟩ := List.mem_map.1 hx
  have := List.all_eq_true.1 h y hy
  unfold rowOk at this
  have := of_decide_eq_true this
  exact rowL_len hl (by omega)
theorem spec_pick_l0 (r c : Nat) (l rows : List Int) (hr : r ≤ 16) (hc : c ≤ 16) (hl : l.length = r * c) (hn : rows.length ≤ 16) (d : Nat) : ∀ (k i : Nat) (out : List Int), i + d = rows.length → out.length ≤ i * c → d + 1 ≤ k →
    spec_MatrixPick.l0 k rows (i : Int) (r : Int) (c : Int) l (rows.length : Int) (c : Int) out = some (if (rows.drop i).all (rowOk r) = true then ((rows.length : Int), (c : Int), out ++ (rowsOf l c (rows.drop i)).flatten, 0) else (0, 0, [], 1)) := by
  have hrc := side_le hr hc
  induction d with
  | zero =>
    intro k i out hi ho hk
    obtain ⟨k, rfl⟩ : ∃ m, k = m + 1 := ⟨k - 1, by omega⟩
    rw [spec_MatrixPick.l0, if_neg (by omega), List.drop_of_length_le (by omega)]
    simp [rowsOf]
  | succ d ih =>
    intro k i out hi ho hk
    obtain ⟨k, rfl⟩ : ∃ m, k = m + 1 := ⟨k - 1, by omega⟩
    have hd : rows.drop i = rows[i]'(by omega) :: rows.drop (i + 1) := List.drop_eq_getElem_cons (by omega)
    rw [spec_MatrixPick.l0, if_pos (by omega), if_pos (by omega), rd_get rows i (by omega), hd, List.all_cons]
    generalize rows[i]'(by omega) = x
    unfold spec_l03Ill.f
    simp only [Option.bind_some]
    by_cases h1 : x < 0
    · rw [if_pos h1, show rowOk r x = false from decide_eq_false (by omega), Bool.false_and, if_neg (by simp)]
    rw [if_neg h1]
    by_cases h2 : x ≥ (r : Int)
    · rw [if_pos h2, show rowOk r x = false from decide_eq_false (by omega), Bool.false_and, if_neg (by simp)]
    rw [if_neg h2, show rowOk r x = true from decide_eq_true (by omega), Bool.true_and]
    obtain ⟨y, rfl⟩ := Int.eq_ofNat_of_zero_le (show 0 ≤ x by omega)
    have hy : y < r := by omega
    have hyc := step_le c hy
    have hic : i * c ≤ 16 * 16 := Nat.mul_le_mul (by omega) hc
    have hsm : (y + 1) * c = y * c + c := Nat.succ_mul y c
    have e : (l.take (((y + 1) * c : Nat) : Int).toNat).drop ((y * c : Nat) : Int).toNat = rowL l c y := by rw [Int.toNat_natCast, Int.toNat_natCast, Nat.succ_mul]; rfl
    rw [w_succ y (by omega), w_mul y c (by omega), w_mul (y + 1) c (by omega), e, if_pos (by omega), if_pos (by omega), if_pos (by omega), rowL_len hl hy, if_pos (by omega), w_succ i (by omega),
      ih k (i + 1) _ (by omega) (by rw [List.length_append, rowL_len hl hy, Nat.succ_mul]; omega) (by omega), show rowsOf l c ((y : Int) :: rows.drop (i + 1)) = rowL l c y :: rowsOf l c (rows.drop (i + 1)) from rfl, List.flatten_cons, List.append_assoc]
theorem pick_one (x : Int) (r : Nat) (hr : r ≤ 16) : impl_MatrixPick_1.f x (r : Int) = some (!(rowOk r x)) := by
  unfold impl_MatrixPick_1.f impl_within.f rowOk
  rw [show wrap64 ((r : Int) - 1) = (r : Int) - 1 by unfold wrap64; omega]
  by_cases h : x ≥ 0
  · rw [if_pos h, Option.bind_some]
    congr 2
    exact decide_eq_decide.2 ⟨fun h' => ⟨h, by omega⟩, fun h' => by omega⟩
  · rw [if_neg h, Option.bind_some, decide_eq_false (fun h' => h h'.1)]
theorem index_l0 (r : Nat) (rows : List Int) (hr : r ≤ 16) (hn : rows.length ≤ 1000000) (d : Nat) : ∀ (k i : Nat), i + d = rows.length → d + 1 ≤ k →
    ∃ j : Int, slices_IndexFunc_int64_int64.l0 k rows (r : Int) (rows.length : Int) (i : Int) = some j ∧ decide (j ≥ 0) = !((rows.drop i).all (rowOk r)) := by
  induction d with
  | zero =>
    intro k i hi hk
    obtain ⟨k, rfl⟩ : ∃ m, k = m + 1 := ⟨k - 1, by omega⟩
    refine ⟨-1, ?_, ?_⟩
    · rw [slices_IndexFunc_int64_int64.l0, if_neg (by omega)]
    · rw [List.drop_of_length_le (by omega)]
      rfl
  | succ d ih =>
    intro k i hi hk
    obtain ⟨k, rfl⟩ : ∃ m, k = m + 1 := ⟨k - 1, by omega⟩
    have hd : rows.drop i = rows[i]'(by omega) :: rows.drop (i + 1) := List.drop_eq_getElem_cons (by omega)
    obtain ⟨j, e, hj⟩ := ih k (i + 1) (by omega) (by omega)
    rw [slices_IndexFunc_int64_int64.l0, if_pos (by omega), if_pos (by omega), if_pos (by omega), rd_get rows i (by omega), pick_one _ r hr, Option.bind_some, hd, List.all_cons, show wrap64 ((i : Int) + 1) = ((i + 1 : Nat) : Int) by unfold wrap64; omega]
    cases hx : rowOk r (rows[i]'(by omega))
    · refine ⟨(i : Int), if_pos rfl, ?_⟩
      rw [Bool.false_and]
      exact decide_eq_true (by omega)
    · refine ⟨j, ?_, ?_⟩
      · rw [if_neg (by simp)]
        exact e
      · rw [Bool.true_and]
        exact hj
theorem contains_eq (r : Nat) (rows : List Int) (hr : r ≤ 16) (hn : rows.length ≤ 1000000) (k : Nat) (hk : rows.length + 1 ≤ k) : slices_ContainsFunc_int64_int64.f k rows (r : Int) = some (!(rows.all (rowOk r))) := by
  unfold slices_ContainsFunc_int64_int64.f slices_IndexFunc_int64_int64.f
  obtain ⟨j, e, hj⟩ := index_l0 r rows hr hn rows.length k 0 (by omega) hk
  rw [List.drop_zero] at hj
  rw [show (0 : Int) = ((0 : Nat) : Int) from rfl, e, Option.bind_some]
  exact congrArg some hj
theorem pick_l0 (r c : Nat) (l rows : List Int) (hr : r ≤ 16) (hc : c ≤ 16) (hl : l.length = r * c) (hn : rows.length ≤ 16) (hok : rows.all (rowOk r) = true) (K : Nat) (d : Nat) : ∀ (i : Nat), i + d = rows.length →
    impl_Matrix_pick.l0 (K + d + 1) (rowsOf l c (rows.take i)) rows (rows.length : Int) (i : Int) (r : Int) (c : Int) l = (impl_matrixOf.f K (rowsOf l c rows)).bind fun b => some (b.1, b.2.1, b.2.2) := by
  have hrc := side_le hr hc
  induction d with
  | zero =>
    intro i hi
    rw [impl_Matrix_pick.l0, if_neg (by omega), List.take_of_length_le (by omega)]
  | succ d ih =>
    intro i hi
    have hx := List.all_eq_true.1 hok (rows[i]'(by omega)) (List.getElem_mem _)
    have ht : rows.take (i + 1) = rows.take i ++ [rows[i]'(by omega)] := by rw [List.take_add_one, List.getElem?_eq_getElem (by omega)]; rfl
    have ih := ih (i + 1) (by omega)
    rw [ht] at ih
    rw [impl_Matrix_pick.l0, if_pos (by omega), if_pos (by omega), if_pos (by omega), rd_get rows i (by omega)]
    revert ih hx
    generalize rows[i]'(by omega) = x
    intro hx ih
    have hx' := of_decide_eq_true (show decide (0 ≤ x ∧ x < (r : Int)) = true from hx)
    obtain ⟨y, rfl⟩ := Int.eq_ofNat_of_zero_le hx'.1
    have hy : y < r := by omega
    have hyc := step_le c hy
    have hsm : (y + 1) * c = y * c + c := Nat.succ_mul y c
    have e : (l.take (((y + 1) * c : Nat) : Int).toNat).drop ((y * c : Nat) : Int).toNat = rowL l c y := by rw [Int.toNat_natCast, Int.toNat_natCast, Nat.succ_mul]; rfl
    rw [w_succ y (by omega), w_mul y c (by omega), w_mul (y + 1) c (by omega), e, if_pos (by omega), if_pos (by omega), if_pos (by omega), if_pos (by unfold rowsOf; rw [List.length_map, List.length_take]; omega), w_succ i (by omega), ← ih]
    unfold rowsOf
    rw [List.map_append]
    rfl
theorem pick_eq (r c : Nat) (l rows : List Int) (hr : r ≤ 16) (hc : c ≤ 16) (hl : l.length = r * c) (h1 : 1 ≤ rows.length) (hn : rows.length ≤ 16) (hok : rows.all (rowOk r) = true) (k : Nat) (hk : 100 ≤ k) :
    impl_Matrix_pick.f k (r : Int) (c : Int) l rows = some ((rows.length : Int), (c : Int), (rowsOf l c rows).flatten) := by
  have hL : (rowsOf l c rows).length = rows.length := List.length_map _
  have hF := flat_le (rowsOf l c rows) c (rows_len hl hok)
  have hFl : rows.length * c ≤ 16 * 16 := Nat.mul_le_mul hn hc
  rw [hL] at hF
  have h0 : (rowsOf l c rows)[0].length = c := rows_len hl hok _ (List.getElem_mem _)
  have h := pick_l0 r c l rows hr hc hl hn hok (k - (rows.length + 1)) rows.length 0 (by omega)
  rw [show k - (rows.length + 1) + rows.length + 1 = k by omega, matrixOf_eq (rowsOf l c rows) (by omega) (by omega) (by omega) _ (by omega), Option.bind_some, h0] at h
  refine h.trans ?_
  rw [hL]
/-- What MatrixPick answers. -/
def resPick (a b : Int) (l rows : List Int) : Int × Int × List Int × Int := if rows.length > 400 then (0, 0, [], 2) else if okM a b l = true ∧ 1 ≤ rows.length ∧ rows.length ≤ 16 ∧ rows.all (rowOk a.toNat) = true then ((rows.length : Int), b, (rowsOf l b.toNat rows).flatten, 0) else (0, 0, [], 1)
theorem spec_pick (a b : Int) (l rows : List Int) (hl : l.length ≤ 1000000000) (k : Nat) (hk : l.length + 200 ≤ k) : spec_MatrixPick.f k a b l rows = some (resPick a b l rows) := by
  unfold spec_MatrixPick.f resPick spec_l03Ill.f
  simp only [Option.bind_some]
  by_cases h0 : rows.length > 400
  · rw [if_pos (by omega), if_pos h0]
  rw [if_neg (by omega), if_neg h0, spec_right a b l hl k (by omega), Option.bind_some]
  obtain ⟨k, rfl⟩ : ∃ m, k = m + 1 := ⟨k - 1, by omega⟩
  by_cases h1 : okM a b l = true
  · rw [if_pos h1]
    by_cases h2 : (rows.length : Int) < 1
    · rw [if_pos h2, if_neg (fun h => by omega), spec_MatrixPick.j0, if_pos rfl]
      rfl
    rw [if_neg h2, spec_MatrixPick.j0]
    by_cases h3 : (rows.length : Int) > 16
    · rw [decide_eq_true h3, if_pos rfl, if_neg (fun h => by omega)]
      rfl
    rw [decide_eq_false h3, if_neg (by simp)]
    obtain ⟨r, c, rfl, rfl, r1, r2, c1, c2, e1, by1⟩ := okM_out h1
    have h := spec_pick_l0 r c l rows r2 c2 e1 (by omega) rows.length k 0 [] (by omega) (by simp) (by omega)
    rw [List.drop_zero, List.nil_append] at h
    refine h.trans ?_
    rw [Int.toNat_natCast, Int.toNat_natCast]
    by_cases h4 : rows.all (rowOk r) = true
    · rw [if_pos h4, if_pos ⟨h1, by omega, by omega, h4⟩]
    · rw [if_neg h4, if_neg (fun h => h4 h.2.2.2)]
  · rw [if_neg h1, if_neg (fun h => h1 h.1), spec_MatrixPick.j0, if_pos rfl]
    rfl
theorem impl_pick (a b : Int) (l rows : List Int) (hl : l.length ≤ 1000000000) (k : Nat) (hk : l.length + 200 ≤ k) : impl_MatrixPick.f k a b l rows = some (resPick a b l rows) := by
  unfold impl_MatrixPick.f resPick impl_isMany_int64.f impl_MatrixRight.f ExtRight.mright impl_size_int64_67.f impl_within.f
  rw [if_pos hl]
  simp only [Option.bind_some]
  rw [← okM_same a b l]
  by_cases h0 : rows.length > 400
  · rw [decide_eq_true (show (rows.length : Int) > 400 by omega), if_pos rfl, if_pos h0]
  rw [decide_eq_false (show ¬ (rows.length : Int) > 400 by omega), if_neg (by simp), if_neg h0]
  by_cases h1 : okM a b l = true
  · rw [if_pos h1]
    by_cases h2 : (rows.length : Int) ≥ 1
    · rw [if_pos h2, Option.bind_some]
      by_cases h3 : (rows.length : Int) ≤ 16
      · rw [decide_eq_true h3, if_pos rfl]
        obtain ⟨r, c, rfl, rfl, r1, r2, c1, c2, e1, by1⟩ := okM_out h1
        rw [contains_eq r rows r2 (by omega) k (by omega), Option.bind_some, Int.toNat_natCast, Int.toNat_natCast]
        by_cases h4 : rows.all (rowOk r) = true
        · rw [h4, if_neg (by simp), pick_eq r c l rows r2 c2 e1 (by omega) (by omega) h4 k (by omega), Option.bind_some, if_pos ⟨h1, by omega, by omega, rfl⟩]
        · rw [Bool.not_eq_true] at h4
          rw [h4, if_pos (show (!false) = true from rfl), if_neg (fun h => absurd h.2.2.2 (by simp))]
      · rw [decide_eq_false h3, if_neg (by simp), if_neg (fun h => by omega)]
    · rw [if_neg h2, Option.bind_some, if_neg (by simp), if_neg (fun h => by omega)]
  · rw [if_neg h1, if_neg (fun h => h1 h.1)]
theorem res_len (a b : Int) (l rows : List Int) : (resPick a b l rows).2.2.1.length ≤ 256 := by
  unfold resPick
  split
  · exact Nat.zero_le _
  · split
    · rename_i h
      obtain ⟨h1, h2, h3, h4⟩ := h
      obtain ⟨r, c, rfl, rfl, r1, r2, c1, c2, e1, by1⟩ := okM_out h1
      rw [Int.toNat_natCast] at h4
      show (List.flatten (rowsOf l c rows)).length ≤ 256
      rw [flat_le (rowsOf l c rows) c (rows_len e1 h4), show (rowsOf l c rows).length = rows.length from List.length_map _]
      exact side_le h3 c2
    · exact Nat.zero_le _
theorem j0_true (a b : Int) (l rows : List Int) (hl : l.length ≤ 1048576) (hl' : rows.length ≤ 1048576) (k : Nat) (hk : l.length + rows.length + 1000 ≤ k) (R : Int × Int × List Int × Int) (hR : resPick a b l rows = R) :
    laws_FnExactMatrixPick.j0 k rows false a b l R.1 R.2.1 R.2.2.1 R.2.2.2 R.1 R.2.1 R.2.2.1 R.2.2.2 = some true := by
  obtain ⟨k, rfl⟩ : ∃ m, k = m + 1 := ⟨k - 1, by omega⟩
  have hRl : R.2.2.1.length ≤ 256 := by rw [← hR]; exact res_len a b l rows
  obtain ⟨r, e1, e2, e3⟩ := marks_ints R.2.2.1 1 (by omega) (by omega) k (by omega)
  have e4 := e3 k (by omega)
  rw [laws_FnExactMatrixPick.j0, if_neg (by simp)]
  unfold laws_markMatrixOut.f laws_markMatrix.f laws_heldMatrixOut.f laws_heldMatrix.f
  rw [e1]
  simp only [Option.bind_some]
  rw [e4]
  simp only [Option.bind_some]
  rw [if_neg (by omega)]
  simp only [Option.bind_some]
  rw [if_neg (by omega)]
  simp only [Option.bind_some]
  rw [if_neg (by omega)]
  rw [if_pos (by first | rfl | exact True.intro)]
  rw [toMatrix_eq a b l (by omega) k (by omega), Option.bind_some, toInts_eq rows (by omega) k (by omega), Option.bind_some]
  rw [impl_pick a b l rows (by omega) k (by omega), hR]
  simp only [Option.bind_some]
  rw [eqOut_same R.1 R.2.1 R.2.2.1 R.2.2.2 (by omega) k (by omega)]
  simp only [Option.bind_some, if_true]
  rw [if_neg (by omega)]
end FnExactMatrixPick_
open FnExactMatrixPick_
theorem FnExactMatrixPick (a b : Int) (l rows : List Int) (_ : (Lit.int .i64 a).wf = true) (_ : (Lit.int .i64 b).wf = true) (hm : l.length ≤ maxLen) (_ : ∀ x ∈ l, (Lit.int .i64 x).wf = true) (hm' : rows.length ≤ maxLen) (_ : ∀ x ∈ rows, (Lit.int .i64 x).wf = true) : ∃ k, laws_FnExactMatrixPick.f k a b l rows = some true := by
  suffices main : ∀ K : Nat, l.length + rows.length + 2000 ≤ K → laws_FnExactMatrixPick.f K a b l rows = some true from ⟨_, main (l.length + rows.length + 2000) (by omega)⟩
  intro K hK
  unfold laws_FnExactMatrixPick.f
  by_cases h' : (rows.length : Int) > 1048576
  · rw [if_pos h']
  rw [if_neg h', szMatrix_eq a b l 1048576 (by omega) (by omega) hm]
  simp only [Option.bind_some]
  by_cases h : (1048576 : Int) - (l.length : Int) < 0
  · rw [if_pos h, if_pos (by omega)]
  rw [if_neg h, if_neg h]
  obtain ⟨r, e1, e2, _⟩ := marks_ints l 1 (by omega) (by omega) K (by omega)
  obtain ⟨r', e1', e2', _⟩ := marks_ints rows (1 + (l.length : Int)) (by omega) (by omega) K (by omega)
  have hj := j0_true a b l rows (by omega) (by omega) K (by omega) (resPick a b l rows) rfl
  have hRl := res_len a b l rows
  rw [toMatrix_eq a b l (by omega) K (by omega), Option.bind_some, toInts_eq rows (by omega) K (by omega), Option.bind_some]
  rw [spec_pick a b l rows (by omega) K (by omega), Option.bind_some, Option.bind_some, Option.bind_some, impl_pick a b l rows (by omega) K (by omega), Option.bind_some]
  generalize resPick a b l rows = R at hj hRl
  rw [eqOut_same R.1 R.2.1 R.2.2.1 R.2.2.2 (by omega) K (by omega), Option.bind_some, if_pos rfl, Option.bind_some, eqMatrix_same a b l (by omega) K (by omega), Option.bind_some, if_pos rfl, Option.bind_some, eqInts rows (by omega) K (by omega), Option.bind_some, if_pos rfl]
  unfold laws_markMatrix.f
  rw [e1]
  simp only [Option.bind_some]
  rw [e1']
  simp only [Option.bind_some]
  rw [if_neg (by omega)]
  exact hj
end Go.Proofs.Ytlololbhlnapkaa.Pure

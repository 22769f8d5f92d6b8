/-
  The law FnExactMatrixInv, over plain values: program and reference find the same inverse of any matrix. No conditions beyond the statement's own.
-/
import Derived.Test.YtlololbhlnapkaaKiAid
import Derived.Test.YtlololbhlnapkaaKiMc
import Derived.Test.YtlololbhlnapkaaKiRd
import Derived.Test.YtlololbhlnapkaaKiXFnExactMatrixInvx10
namespace Go.Proofs.Ytlololbhlnapkaa.Pure
open Go.RowKit Go.Proofs.Ytlololbhlnapkaa.XFnExactMatrixInv Go.Proofs.Ytlololbhlnapkaa.Gf Go.Proofs.Ytlololbhlnapkaa.FieldAid Go.Proofs.Ytlololbhlnapkaa.Mp Go.Proofs.YtlololbhlnapkaaW.PrintWords Go.Proofs.YtlololbhlnapkaaW.PrintLast Go.Proofs.YtlololbhlnapkaaW.PrintMore
open Go.Proofs.Ytlololbhlnapkaa.Mc Go.Proofs.Ytlololbhlnapkaa.Rd
set_option linter.unusedVariables false
set_option linter.unusedSimpArgs false
namespace FnExactMatrixInv_
theorem szMatrix_eq (a b : Int) (l : List Int) (n : Int) (h0 : 0 ≤ n) (h1 : n ≤ 1048576) (hl : l.length ≤ maxLen) : laws_szMatrix.f a b l n = some (if n - (l.length : Int) < 0 then -1 else n - (l.length : Int)) := by
  unfold maxLen at hl
  unfold laws_szMatrix.f laws_szInt64S.f
  rw [show wrap64 (n - (l.length : Int)) = n - (l.length : Int) by unfold wrap64; omega]
  by_cases h : n - (l.length : Int) < 0
  · rw [if_pos h, if_pos h]
    rfl
  · rw [if_neg h, if_neg h]
    simp only [Option.bind_some]
    rw [if_neg h]
theorem rd_get (l : List Int) (i : Nat) (h : i < l.length) : rd l (i : Int) = l[i] := by
  unfold rd
  rw [Int.toNat_natCast, List.getD_eq_getElem?_getD, List.getElem?_eq_getElem h, Option.getD_some]
theorem toInts_l0 (l : List Int) (hl : l.length ≤ 35184372088832) (d : Nat) : ∀ (k i : Nat) (m : List Int), i + d = l.length → m.length = l.length → (∀ j, j < i → m[j]? = l[j]?) → d + 1 ≤ k → laws_toInt64S.l0 k l m (i : Int) = some l := by
  induction d with
  | zero =>
    intro k i m hi hm hj hk
    obtain ⟨k, rfl⟩ : ∃ m, k = m + 1 := ⟨k - 1, by omega⟩
    rw [laws_toInt64S.l0, if_neg (by omega)]
    congr 1
    apply List.ext_getElem?
    intro j
    by_cases h : j < i
    · exact hj j h
    · rw [List.getElem?_eq_none (by omega), List.getElem?_eq_none (by omega)]
  | succ d ih =>
    intro k i m hi hm hj hk
    obtain ⟨k, rfl⟩ : ∃ m, k = m + 1 := ⟨k - 1, by omega⟩
    rw [laws_toInt64S.l0, if_pos (by omega), if_pos (by omega), if_pos (by omega), rd_get l i (by omega), Int.toNat_natCast]
    rw [show wrap64 ((i : Int) + 1) = ((i + 1 : Nat) : Int) by unfold wrap64; omega]
    refine ih k (i + 1) _ (by omega) (by rw [List.length_set]; exact hm) ?_ (by omega)
    intro j hji
    by_cases h : j = i
    · subst h
      rw [List.getElem?_set_self (by omega), List.getElem?_eq_getElem (by omega)]
    · rw [List.getElem?_set_ne (by omega)]
      exact hj j (by omega)
theorem toInts_eq (l : List Int) (hl : l.length ≤ 35184372088832) (k : Nat) (hk : l.length + 1 ≤ k) : laws_toInt64S.f k l = some l := by
  unfold laws_toInt64S.f
  rw [if_pos (by omega), if_pos (by omega), Int.toNat_natCast]
  exact toInts_l0 l hl l.length k 0 _ (by omega) (by simp) (fun j hj => absurd hj (by omega)) hk
theorem toMatrix_eq (a b : Int) (l : List Int) (hl : l.length ≤ 35184372088832) (k : Nat) (hk : l.length + 1 ≤ k) : laws_toMatrix.f k a b l = some (a, b, l) := by
  unfold laws_toMatrix.f
  rw [toInts_eq l hl k hk]
  rfl
theorem eqInts_l0 (l : List Int) (hl : l.length ≤ 1000000000) (d : Nat) : ∀ (k i : Nat), i + d = l.length → d + 1 ≤ k → laws_eqInt64S.l0 k l l (i : Int) = some true := by
  induction d with
  | zero =>
    intro k i hi hk
    obtain ⟨k, rfl⟩ : ∃ m, k = m + 1 := ⟨k - 1, by omega⟩
    rw [laws_eqInt64S.l0, if_neg (by omega)]
  | succ d ih =>
    intro k i hi hk
    obtain ⟨k, rfl⟩ : ∃ m, k = m + 1 := ⟨k - 1, by omega⟩
    rw [laws_eqInt64S.l0, if_pos (by omega), if_pos (by omega), if_pos (by omega), if_pos rfl, show wrap64 ((i : Int) + 1) = ((i + 1 : Nat) : Int) by unfold wrap64; omega]
    exact ih k (i + 1) (by omega) (by omega)
theorem eqInts (l : List Int) (hl : l.length ≤ 1000000000) (k : Nat) (hk : l.length + 1 ≤ k) : laws_eqInt64S.f k l l = some true := by
  unfold laws_eqInt64S.f
  rw [if_pos rfl]
  exact eqInts_l0 l hl l.length k 0 (by omega) hk
theorem eqMatrix_same (a b : Int) (l : List Int) (hl : l.length ≤ 1000000000) (k : Nat) (hk : l.length + 1 ≤ k) : laws_eqMatrix.f k a b l a b l = some true := by
  unfold laws_eqMatrix.f
  rw [if_pos rfl, if_pos rfl, eqInts l hl k hk]
  rfl
theorem eqOut_same (a b : Int) (l : List Int) (c : Int) (hl : l.length ≤ 1000000000) (k : Nat) (hk : l.length + 1 ≤ k) : laws_eqMatrixOut.f k a b l c a b l c = some true := by
  unfold laws_eqMatrixOut.f
  rw [eqMatrix_same a b l hl k hk, Option.bind_some, if_pos rfl, if_pos rfl]
def byteB (x : Int) : Bool := decide (0 ≤ x) && decide (x ≤ 255)
def okM (a b : Int) (l : List Int) : Bool := decide (1 ≤ a ∧ a ≤ 16 ∧ 1 ≤ b ∧ b ≤ 16 ∧ (l.length : Int) = a * b) && l.all byteB
theorem side_mul {a b : Int} (h1 : 1 ≤ a) (h2 : a ≤ 16) (h3 : 1 ≤ b) (h4 : b ≤ 16) : 1 ≤ a * b ∧ a * b ≤ 256 := by
  constructor
  · have := Int.mul_le_mul h1 h3 (by omega) (by omega)
    omega
  · have := Int.mul_le_mul h2 h4 (by omega) (by omega)
    omega
theorem spec_byte (x : Int) : spec_l02Byte.f x = some (byteB x) := by
  unfold spec_l02Byte.f byteB
  by_cases h : x ≥ 0
  · have h' : 0 ≤ x := h
    simp [h']
  · have h' : ¬ 0 ≤ x := h
    simp [h']
theorem spec_right_l0 (a b : Int) (l : List Int) (hl : l.length ≤ 1000000000) (d : Nat) : ∀ (k i : Nat), i + d = l.length → d + 1 ≤ k → spec_MatrixRight.l0 k (i : Int) a b l = some ((l.drop i).all byteB) := by
  induction d with
  | zero =>
    intro k i hi hk
    obtain ⟨k, rfl⟩ : ∃ m, k = m + 1 := ⟨k - 1, by omega⟩
    rw [spec_MatrixRight.l0, if_neg (by omega), List.drop_of_length_le (by omega)]
    rfl
  | succ d ih =>
    intro k i hi hk
    obtain ⟨k, rfl⟩ : ∃ m, k = m + 1 := ⟨k - 1, by omega⟩
    rw [spec_MatrixRight.l0, if_pos (by omega), if_pos (by omega), rd_get l i (by omega), spec_byte]
    simp only [Option.bind_some]
    rw [show wrap64 ((i : Int) + 1) = ((i + 1 : Nat) : Int) by unfold wrap64; omega, ih k (i + 1) (by omega) (by omega)]
    rw [List.drop_eq_getElem_cons (show i < l.length by omega), List.all_cons]
    cases byteB l[i] <;> simp
theorem spec_right (a b : Int) (l : List Int) (hl : l.length ≤ 1000000000) (k : Nat) (hk : l.length + 2 ≤ k) : spec_MatrixRight.f k a b l = some (okM a b l) := by
  obtain ⟨k, rfl⟩ : ∃ m, k = m + 1 := ⟨k - 1, by omega⟩
  unfold spec_MatrixRight.f okM
  simp only [spec_MatrixRight.j0]
  by_cases h1 : a < 1
  · rw [if_pos h1]
    simp
    omega
  rw [if_neg h1]
  by_cases h2 : a > 16
  · rw [if_pos h2]
    simp
    omega
  rw [if_neg h2]
  by_cases h3 : b < 1
  · rw [if_pos h3]
    simp
    omega
  rw [if_neg h3]
  by_cases h4 : b > 16
  · rw [if_pos h4]
    simp
    omega
  rw [if_neg h4]
  have hm := side_mul (a := a) (b := b) (by omega) (by omega) (by omega) (by omega)
  rw [show wrap64 (a * b) = a * b by unfold wrap64; omega]
  by_cases h5 : (l.length : Int) = a * b
  · have e : ((l.length : Int) != a * b) = false := by simp [h5]
    have h := spec_right_l0 a b l hl l.length k 0 (by omega) (by omega)
    rw [List.drop_zero] at h
    have h' : spec_MatrixRight.l0 k 0 a b l = some (l.all byteB) := h
    rw [e, if_neg (by simp), h', decide_eq_true (by omega)]
    rfl
  · have e : ((l.length : Int) != a * b) = true := by simp [h5]
    rw [e, if_pos rfl, decide_eq_false (by omega)]
    rfl
theorem okM_out {a b : Int} {l : List Int} (h : okM a b l = true) : ∃ r c : Nat, a = (r : Int) ∧ b = (c : Int) ∧ 1 ≤ r ∧ r ≤ 16 ∧ 1 ≤ c ∧ c ≤ 16 ∧ l.length = r * c ∧ Bytes l := by
  unfold okM at h
  rw [Bool.and_eq_true, decide_eq_true_iff, List.all_eq_true] at h
  obtain ⟨⟨h1, h2, h3, h4, h5⟩, h6⟩ := h
  obtain ⟨r, rfl⟩ := Int.eq_ofNat_of_zero_le (show 0 ≤ a by omega)
  obtain ⟨c, rfl⟩ := Int.eq_ofNat_of_zero_le (show 0 ≤ b by omega)
  refine ⟨r, c, rfl, rfl, by omega, by omega, by omega, by omega, ?_, fun x hx => ?_⟩
  · rw [← Int.natCast_mul] at h5
    exact Int.ofNat_inj.1 h5
  · have := h6 x hx
    unfold byteB at this
    rw [Bool.and_eq_true, decide_eq_true_iff, decide_eq_true_iff] at this
    exact this
theorem okM_same (a b : Int) (l : List Int) : okM a b l = FnExactMatrixRight_.okM a b l := rfl
theorem markInts_l0 (s : Int) (hs : 0 < s) (d : Nat) : ∀ (k i : Nat) (l : List Int), i + d = l.length → s + l.length ≤ 2000000000 → d + 1 ≤ k → (∀ j : Nat, j < i → l[j]? = some (s + (j : Int))) →
    ∃ l' : List Int, laws_markInt64S.l0 k l (s + i) i = some (s + l.length, l') ∧ l'.length = l.length ∧ ∀ j : Nat, j < l.length → l'[j]? = some (s + (j : Int)) := by
  induction d with
  | zero =>
    intro k i l hi hl hk h
    obtain ⟨k, rfl⟩ : ∃ m, k = m + 1 := ⟨k - 1, by omega⟩
    refine ⟨l, ?_, rfl, fun j hj => h j (by omega)⟩
    rw [laws_markInt64S.l0, if_neg (by omega)]
    congr 2
    omega
  | succ d ih =>
    intro k i l hi hl hk h
    obtain ⟨k, rfl⟩ : ∃ m, k = m + 1 := ⟨k - 1, by omega⟩
    have hset : (l.set i (s + (i : Int))).length = l.length := List.length_set ..
    obtain ⟨l', e, h1, h2⟩ := ih k (i + 1) (l.set i (s + (i : Int))) (by omega) (by omega) (by omega) (by
      intro j hj
      by_cases hji : j = i
      · subst hji
        rw [List.getElem?_set_self (by omega)]
      · rw [List.getElem?_set_ne (by omega)]
        exact h j (by omega))
    rw [hset] at e h1 h2
    refine ⟨l', ?_, h1, h2⟩
    rw [laws_markInt64S.l0, if_pos (by omega), if_pos (by omega), Int.toNat_natCast, show wrap64 (s + (i : Int) + 1) = s + ((i + 1 : Nat) : Int) by unfold wrap64; omega, show wrap64 ((i : Int) + 1) = ((i + 1 : Nat) : Int) by unfold wrap64; omega]
    exact e
theorem heldInts_l0 (s : Int) (hs : 0 < s) (l : List Int) (hl : s + l.length ≤ 2000000000) (h : ∀ j : Nat, j < l.length → l[j]? = some (s + (j : Int))) (d : Nat) :
    ∀ (k i : Nat), i + d = l.length → d + 1 ≤ k → laws_heldInt64S.l0 k l (s + i) i = some (s + l.length) := by
  induction d with
  | zero =>
    intro k i hi hk
    obtain ⟨k, rfl⟩ : ∃ m, k = m + 1 := ⟨k - 1, by omega⟩
    rw [laws_heldInt64S.l0, if_neg (by omega)]
    congr 1
    omega
  | succ d ih =>
    intro k i hi hk
    obtain ⟨k, rfl⟩ : ∃ m, k = m + 1 := ⟨k - 1, by omega⟩
    have hr : rd l (i : Int) = s + (i : Int) := by
      unfold rd
      rw [Int.toNat_natCast, List.getD_eq_getElem?_getD, h i (by omega), Option.getD_some]
    rw [laws_heldInt64S.l0, if_pos (by omega), if_pos (by omega), hr, if_pos rfl, show wrap64 (s + (i : Int) + 1) = s + ((i + 1 : Nat) : Int) by unfold wrap64; omega, show wrap64 ((i : Int) + 1) = ((i + 1 : Nat) : Int) by unfold wrap64; omega]
    exact ih k (i + 1) (by omega) (by omega)
/-- marked, and held: what is marked is found so again. -/
theorem marks_ints (l : List Int) (s : Int) (hs : 0 < s) (hl : s + l.length ≤ 2000000000) (k : Nat) (hk : l.length + 1 ≤ k) :
    ∃ l', laws_markInt64S.f k l s = some (s + l.length, l') ∧ l'.length = l.length ∧ ∀ k', l.length + 1 ≤ k' → laws_heldInt64S.f k' l' s = some (s + l.length) := by
  obtain ⟨l', e, h1, h2⟩ := markInts_l0 s hs l.length k 0 l (by omega) hl hk (fun j hj => absurd hj (by omega))
  have z : s + ((0 : Nat) : Int) = s := by omega
  refine ⟨l', ?_, h1, fun k' hk' => ?_⟩
  · rw [z] at e
    exact e
  · have e2 := heldInts_l0 s hs l' (by omega) (fun j hj => h2 j (by omega)) l'.length k' 0 (by omega) (by omega)
    rw [h1, z] at e2
    exact e2
theorem spec_l02Mul_l0 (k : Nat) : ∀ (a o : Gf.B) (n : Nat), n < 256 → n < 2 ^ k → spec_l02Mul.l0 (k + 1) (un a) (n : Int) (un o) = some (un (o ^^^ Gf.mul a (BitVec.ofNat 8 n))) := by
  induction k with
  | zero =>
    intro a o n _ h
    obtain rfl : n = 0 := by omega
    simp only [spec_l02Mul.l0]
    rw [if_neg (by omega), show BitVec.ofNat 8 0 = 0#8 from rfl, Gf.mul_zero, BitVec.xor_zero]
  | succ k ih =>
    intro a o n h8 h
    rw [spec_l02Mul.l0]
    by_cases h0 : n = 0
    · subst h0
      rw [if_neg (by omega), show BitVec.ofNat 8 0 = 0#8 from rfl, Gf.mul_zero, BitVec.xor_zero]
    · rw [if_pos (by omega), mul_next a o n h8]
      rw [← ih (Gf.xt a) (if n % 2 = 1 then o ^^^ a else o) (n / 2) (by omega) (by rw [Nat.pow_succ] at h; omega)]
      simp only [odd_tmod, half_tdiv n (by omega), w_2un, xor_un]
      by_cases hp : n % 2 = 1 <;> by_cases hx : un a * 2 > 255
      · rw [if_pos (by omega), if_pos hx, if_pos hp, xt_high a hx]
      · rw [if_pos (by omega), if_neg hx, if_pos hp, xt_low a hx]
      · rw [if_neg (by omega), if_pos hx, if_neg hp, xt_high a hx]
      · rw [if_neg (by omega), if_neg hx, if_neg hp, xt_low a hx]
theorem spec_l02Mul_f (k : Nat) (hk : 9 ≤ k) (a b : Gf.B) : spec_l02Mul.f k (un a) (un b) = some (un (Gf.mul a b)) := by
  obtain ⟨m, rfl⟩ : ∃ m, k = m + 1 := ⟨k - 1, by omega⟩
  have h := spec_l02Mul_l0 m a 0#8 b.toNat b.isLt (Nat.lt_of_lt_of_le b.isLt (Nat.pow_le_pow_right (by decide) (show 8 ≤ m by omega)))
  rw [ofNat_un, BitVec.zero_xor] at h
  exact h
theorem spec_l02Pow_l0 (k : Nat) : ∀ (a o : Gf.B) (n : Nat), n < 2 ^ 60 → n < 2 ^ k → spec_l02Pow.l0 (k + 10) (un a) (n : Int) (un o) = some (un (Gf.mul o (Gf.pw a n))) := by
  induction k with
  | zero =>
    intro a o n _ h
    obtain rfl : n = 0 := by omega
    rw [show 0 + 10 = 9 + 1 from rfl, spec_l02Pow.l0, if_neg (by omega), Gf.pw, Gf.mul_one]
  | succ k ih =>
    intro a o n h8 h
    rw [show k + 1 + 10 = (k + 10) + 1 by omega, spec_l02Pow.l0]
    by_cases h0 : n = 0
    · subst h0
      rw [if_neg (by omega), Gf.pw, Gf.mul_one]
    · rw [if_pos (by omega), pw_next a o n h0]
      rw [← ih (Gf.mul a a) (if n % 2 = 1 then Gf.mul o a else o) (n / 2) (by omega) (by rw [Nat.pow_succ] at h; omega)]
      simp only [odd_tmod, half_tdiv n (by omega), spec_l02Mul_f (k + 10) (by omega), Option.bind_some]
      by_cases hp : n % 2 = 1
      · rw [if_pos (by omega), if_pos hp]
      · rw [if_neg (by omega), if_neg hp]
theorem spec_l02Pow_f (j k : Nat) (hk : j + 10 ≤ k) (a : Gf.B) (n : Nat) (h60 : n < 2 ^ 60) (h : n < 2 ^ j) : spec_l02Pow.f k (un a) (n : Int) = some (un (Gf.pw a n)) := by
  obtain ⟨m, rfl⟩ : ∃ m, k = m + 10 := ⟨k - 10, by omega⟩
  have e := spec_l02Pow_l0 m a 1#8 n h60 (Nat.lt_of_lt_of_le h (Nat.pow_le_pow_right (by decide) (show j ≤ m by omega)))
  rw [Gf.one_mul] at e
  exact e
theorem spec_inv_f (k : Nat) (hk : 18 ≤ k) (a : Gf.B) : spec_FieldInv.f k (un a) = some (un (Gf.inv a)) := by
  have hb := un_bd a
  unfold spec_FieldInv.f spec_l02Byte.f
  rw [if_pos hb.1, Option.bind_some, decide_eq_true hb.2, if_pos rfl]
  by_cases h : un a = 0
  · rw [if_pos h]
    rw [un_eq_zero] at h
    rw [h, Gf.inv_zero]
    rfl
  · rw [if_neg h, show (254 : Int) = ((254 : Nat) : Int) from rfl, spec_l02Pow_f 8 k (by omega) a 254 (by omega) (by omega), Option.bind_some]
    rfl
def gridB (g : Rd.H) (d n : Nat) : List Int := grid (fun i j => un (g i j)) d (n * d)
theorem gridB_len (g : Rd.H) (d n : Nat) : (gridB g d n).length = n * d := grid_len _ _ _
theorem gridB_congr {g g' : Rd.H} {d n : Nat} (hd : 0 < d) (e : ∀ i j, i < n → j < d → g i j = g' i j) : gridB g d n = gridB g' d n := by
  refine grid_congr hd (fun a b hb hab => ?_)
  have ha : a < n := Nat.lt_of_not_le (fun hc => by
    have := Nat.mul_le_mul_right d hc
    omega)
  rw [e a b ha hb]
theorem rd_gridB (g : Rd.H) {d n i j : Nat} (hi : i < n) (hj : j < d) : rd (gridB g d n) ((i * d + j : Nat) : Int) = un (g i j) := by
  have := step_le d hi
  exact rd_grid _ hj (by omega)
theorem w_place {n d i j : Nat} (hn : n ≤ 16) (hd : d ≤ 16) (hi : i < n) (hj : j < d) : wrap64 (wrap64 ((i : Int) * (d : Int)) + (j : Int)) = ((i * d + j : Nat) : Int) ∧ i * d + j < n * d := by
  have h1 := step_le d hi
  have h2 := side_le hn hd
  refine ⟨?_, by omega⟩
  rw [w_mul i d (by omega), ← Int.natCast_add, w_nat _ (by omega)]
def swpT (g : Rd.H) (r p t : Nat) : Rd.H := fun i j => if j < t then g (swp r p i) j else g i j
theorem swap_l0 (g : Rd.H) {n d r p : Nat} (hn : n ≤ 16) (hd : d ≤ 16) (hr : r < n) (hp : p < n) (m : Nat) : ∀ (K j : Nat), j + m = d → m + 1 ≤ K →
    spec_l03Swap.l0 K (p : Int) (r : Int) (j : Int) (n : Int) (d : Int) (gridB (swpT g r p j) d n) = some (gridB (swpH g r p) d n) := by
  induction m with
  | zero =>
    intro K j hj hK
    obtain ⟨K, rfl⟩ : ∃ q, K = q + 1 := ⟨K - 1, by omega⟩
    rw [spec_l03Swap.l0, if_neg (by omega)]
    congr 1
    by_cases h0 : d = 0
    · subst h0
      rfl
    · refine gridB_congr (by omega) (fun a b ha hb => ?_)
      unfold swpT swpH
      rw [if_pos (by omega)]
  | succ m ih =>
    intro K j hj hK
    obtain ⟨K, rfl⟩ : ∃ q, K = q + 1 := ⟨K - 1, by omega⟩
    have w1 := Aside0.mk (w_place hn hd hp (show j < d by omega)).1
    have l1 := (w_place hn hd hp (show j < d by omega)).2
    have w2 := Aside0.mk (w_place hn hd hr (show j < d by omega)).1
    have l2 := (w_place hn hd hr (show j < d by omega)).2
    have v1 : swpT g r p j r j = g r j := by unfold swpT; rw [if_neg (by omega)]
    have v2 : swpT g r p j p j = g p j := by unfold swpT; rw [if_neg (by omega)]
    rw [spec_l03Swap.l0, if_pos (by omega), w1.out, w2.out, if_pos (by omega), if_pos (by rw [gridB_len]; omega), if_pos (by omega), if_pos (by rw [gridB_len]; omega), rd_gridB _ hr (by omega), rd_gridB _ hp (by omega), v1, v2, Int.toNat_natCast, Int.toNat_natCast, w_succ j (by omega)]
    have e : ((gridB (swpT g r p j) d n).set (p * d + j) (un (g r j))).set (r * d + j) (un (g p j)) = gridB (swpT g r p (j + 1)) d n := by
      unfold gridB
      rw [grid_set (h' := fun i jj => if i = p ∧ jj = j then un (g r j) else un (swpT g r p j i jj)) (by omega) (if_pos ⟨rfl, rfl⟩) (fun a b hb hab => if_neg hab),
        grid_set (h' := fun i jj => un (swpT g r p (j + 1) i jj)) (by omega) (by unfold swpT swp; rw [if_pos (by omega), if_pos rfl]) (fun a b hb hab => ?_)]
      by_cases hap : a = p ∧ b = j
      · rw [if_pos hap, hap.1, hap.2]
        unfold swpT swp
        rw [if_pos (by omega)]
        by_cases hpr : p = r
        · rw [if_pos hpr, hpr]
        · rw [if_neg hpr, if_pos rfl]
      · rw [if_neg hap]
        unfold swpT
        by_cases h1 : b < j
        · rw [if_pos (by omega), if_pos h1]
        · rw [if_neg h1]
          by_cases h2 : b = j
          · rw [if_pos (by omega)]
            unfold swp
            rw [if_neg (fun h => hab ⟨h, h2⟩), if_neg (fun h => hap ⟨h, h2⟩)]
          · rw [if_neg (by omega)]
    rw [e]
    exact ih K (j + 1) (by omega) (by omega)
theorem swap_eq (g : Rd.H) {n d r p : Nat} (hn : n ≤ 16) (hd : d ≤ 16) (hr : r < n) (hp : p < n) (K : Nat) (hK : 20 ≤ K) : spec_l03Swap.f K (n : Int) (d : Int) (gridB g d n) (p : Int) (r : Int) = some (gridB (swpH g r p) d n) := by
  have h := swap_l0 g hn hd hr hp d K 0 (by omega) (by omega)
  have e : swpT g r p 0 = g := by
    funext i j
    unfold swpT
    rw [if_neg (by omega)]
  rw [e] at h
  exact h
def addT (g : Rd.H) (a b : Nat) (x : Gf.B) (t : Nat) : Rd.H := fun i j => if i = a ∧ j < t then g i j ^^^ Gf.mul (g b j) x else g i j
def addH (g : Rd.H) (a b : Nat) (x : Gf.B) : Rd.H := fun i j => if i = a then g i j ^^^ Gf.mul (g b j) x else g i j
theorem add_l0 (g : Rd.H) {n d a b : Nat} (x : Gf.B) (hn : n ≤ 16) (hd : d ≤ 16) (ha : a < n) (hb : b < n) (m : Nat) : ∀ (K j : Nat), j + m = d → m + 10 ≤ K →
    spec_l03Add.l0 K (a : Int) (b : Int) (un x) (j : Int) (n : Int) (d : Int) (gridB (addT g a b x j) d n) = some (gridB (addH g a b x) d n) := by
  induction m with
  | zero =>
    intro K j hj hK
    obtain ⟨K, rfl⟩ : ∃ q, K = q + 1 := ⟨K - 1, by omega⟩
    rw [spec_l03Add.l0, if_neg (by omega)]
    congr 1
    by_cases h0 : d = 0
    · subst h0
      rfl
    · refine gridB_congr (by omega) (fun i k hi hk => ?_)
      unfold addT addH
      by_cases e : i = a
      · rw [if_pos ⟨e, by omega⟩, if_pos e]
      · rw [if_neg (fun h => e h.1), if_neg e]
  | succ m ih =>
    intro K j hj hK
    obtain ⟨K, rfl⟩ : ∃ q, K = q + 1 := ⟨K - 1, by omega⟩
    have w1 := Aside0.mk (w_place hn hd ha (show j < d by omega)).1
    have l1 := (w_place hn hd ha (show j < d by omega)).2
    have w2 := Aside0.mk (w_place hn hd hb (show j < d by omega)).1
    have l2 := (w_place hn hd hb (show j < d by omega)).2
    have v1 : addT g a b x j a j = g a j := by unfold addT; rw [if_neg (fun h => by omega)]
    have v2 : addT g a b x j b j = g b j := by unfold addT; rw [if_neg (fun h => by omega)]
    rw [spec_l03Add.l0, if_pos (by omega), w1.out, w2.out, if_pos (by omega), if_pos (by rw [gridB_len]; omega), if_pos (by omega), if_pos (by rw [gridB_len]; omega), rd_gridB _ hb (by omega), rd_gridB _ ha (by omega), v1, v2, spec_l02Mul_f K (by omega), Option.bind_some, xor_un, Int.toNat_natCast, w_succ j (by omega)]
    have e : (gridB (addT g a b x j) d n).set (a * d + j) (un (g a j ^^^ Gf.mul (g b j) x)) = gridB (addT g a b x (j + 1)) d n := by
      unfold gridB
      rw [grid_set (h' := fun i jj => un (addT g a b x (j + 1) i jj)) (by omega) (by unfold addT; rw [if_pos ⟨rfl, by omega⟩]) (fun i k hk hik => ?_)]
      unfold addT
      by_cases e : i = a
      · by_cases h1 : k < j
        · rw [if_pos ⟨e, by omega⟩, if_pos ⟨e, h1⟩]
        · rw [if_neg (fun h => hik ⟨e, by omega⟩), if_neg (fun h => h1 h.2)]
      · rw [if_neg (fun h => e h.1), if_neg (fun h => e h.1)]
    rw [e]
    exact ih K (j + 1) (by omega) (by omega)
theorem add_eq' (g : Rd.H) {n d a b : Nat} (x : Gf.B) (hn : n ≤ 16) (hd : d ≤ 16) (ha : a < n) (hb : b < n) (K : Nat) (hK : 30 ≤ K) : spec_l03Add.f K (n : Int) (d : Int) (gridB g d n) (a : Int) (b : Int) (un x) = some (gridB (addH g a b x) d n) := by
  have h := add_l0 g x hn hd ha hb d K 0 (by omega) (by omega)
  have e : addT g a b x 0 = g := by
    funext i j
    unfold addT
    rw [if_neg (fun h => by omega)]
  rw [e] at h
  exact h
/-- The part of the columns from c on. -/
def sh (c : Nat) (h : Rd.H) : Rd.H := fun i j => h i (c + j)
theorem scl_add (g : Rd.H) (r : Nat) (x : Gf.B) : addH g r r (x ^^^ 1#8) = sclH g r x := by
  funext i j
  unfold addH sclH
  by_cases e : i = r
  · rw [if_pos e, if_pos e, Gf.mul_xor, Gf.mul_one, e, BitVec.xor_comm (Gf.mul (g r j) x) (g r j), ← BitVec.xor_assoc, BitVec.xor_self, BitVec.zero_xor]
  · rw [if_neg e, if_neg e]
theorem elm_add (g : Rd.H) {r c t : Nat} (e : t ≠ r) : addH (elmT g r c t) t r (elmT g r c t t c) = elmT g r c (t + 1) := by
  funext i j
  unfold addH
  by_cases h : i = t
  · rw [if_pos h, h, elmT_step g e]
  · rw [if_neg h, elmT_other g h]
theorem elm_add_sh (k : Nat) (g : Rd.H) {r c t : Nat} (e : t ≠ r) : addH (sh k (elmT g r c t)) t r (elmT g r c t t c) = sh k (elmT g r c (t + 1)) := by
  funext i j
  unfold addH sh
  by_cases h : i = t
  · rw [if_pos h, h, elmT_step g e]
  · rw [if_neg h, elmT_other g h]
section
variable {n c b : Nat} (hn : n ≤ 16) (hc : c ≤ 16) (hb : b ≤ 16) (c1 : 0 < c) (b1 : 0 < b)
include hn hc hb c1 b1
theorem steps_l2 (B : Nat) (hB : 100 ≤ B) (R : Int × List Int × List Int) (g : Rd.H) {cc r : Nat} (hcc : cc < c) (hr : r < n)
    (cont : ∀ K, B ≤ K → spec_l03Steps.l0 K ((r + 1 : Nat) : Int) ((cc + 1 : Nat) : Int) (n : Int) (c : Int) (gridB (elmH g r cc) c n) (n : Int) (b : Int) (gridB (sh c (elmH g r cc)) b n) = some R) (m : Nat) :
    ∀ (K t : Nat), t + m = n → B + m + 1 ≤ K → spec_l03Steps.l2 K (r : Int) (cc : Int) (t : Int) (n : Int) (c : Int) (gridB (elmT g r cc t) c n) (n : Int) (b : Int) (gridB (sh c (elmT g r cc t)) b n) = some R := by
  induction m with
  | zero =>
    intro K t ht hK
    obtain ⟨K, rfl⟩ : ∃ q, K = q + 1 := ⟨K - 1, by omega⟩
    obtain rfl : t = n := by omega
    rw [spec_l03Steps.l2, if_neg (by omega), w_succ r (by omega), w_succ cc (by omega), gridB_congr (g := elmT g r cc t) (g' := elmH g r cc) c1 (fun i j hi hj => elmT_end g r cc hi), gridB_congr (g := sh c (elmT g r cc t)) (g' := sh c (elmH g r cc)) b1 (fun i j hi hj => elmT_end g r cc hi)]
    exact cont K (by omega)
  | succ m ih =>
    intro K t ht hK
    obtain ⟨K, rfl⟩ : ∃ q, K = q + 1 := ⟨K - 1, by omega⟩
    have w1 := Aside0.mk (w_place hn hc (show t < n by omega) hcc).1
    have l1 := (w_place hn hc (show t < n by omega) hcc).2
    rw [spec_l03Steps.l2, if_pos (by omega), w_succ t (by omega)]
    by_cases e : t = r
    · rw [if_pos (by omega), ← elmT_same g e]
      exact ih K (t + 1) (by omega) (by omega)
    · rw [if_neg (by omega), w1.out, if_pos (by omega), if_pos (by rw [gridB_len]; omega), rd_gridB _ (by omega) hcc, add_eq' _ _ hn hc (by omega) hr K (by omega), Option.bind_some, add_eq' _ _ hn hb (by omega) hr K (by omega), Option.bind_some, elm_add g e, elm_add_sh c g e]
      exact ih K (t + 1) (by omega) (by omega)
theorem steps_j3 (B : Nat) (hB : 100 ≤ B) (R : Int × List Int × List Int) (h : Rd.H) {cc r p : Nat} (hcc : cc < c) (hr : r < n) (hp : p < n)
    (cont : ∀ K, B ≤ K → spec_l03Steps.l0 K ((r + 1 : Nat) : Int) ((cc + 1 : Nat) : Int) (n : Int) (c : Int) (gridB (stpH h cc r p) c n) (n : Int) (b : Int) (gridB (sh c (stpH h cc r p)) b n) = some R) (K : Nat) (hK : B + n + 2 ≤ K) :
    spec_l03Steps.j3 K (r : Int) (cc : Int) (p : Int) (n : Int) (c : Int) (gridB h c n) (n : Int) (b : Int) (gridB (sh c h) b n) = some R := by
  obtain ⟨K, rfl⟩ : ∃ q, K = q + 1 := ⟨K - 1, by omega⟩
  have w1 := Aside0.mk (w_place hn hc hr hcc).1
  have l1 := (w_place hn hc hr hcc).2
  have e1 : swpH h r p r cc = h p cc := by unfold swpH swp; rw [if_pos rfl]
  have e2 : swpH (sh c h) r p = sh c (swpH h r p) := rfl
  have e3 : ∀ x, sclH (sh c (swpH h r p)) r x = sh c (sclH (swpH h r p) r x) := fun x => rfl
  rw [spec_l03Steps.j3, if_neg (by omega), swap_eq h hn hc hr hp K (by omega), Option.bind_some, swap_eq (sh c h) hn hb hr hp K (by omega), Option.bind_some, w1.out, if_pos (by omega), if_pos (by rw [gridB_len]; omega), rd_gridB _ hr hcc, e1, spec_inv_f K (by omega), Option.bind_some, ← un_one, xor_un,
    add_eq' _ _ hn hc hr hr K (by omega), Option.bind_some, add_eq' _ _ hn hb hr hr K (by omega), Option.bind_some, scl_add, scl_add, e2, e3]
  have h2 := steps_l2 hn hc hb c1 b1 B hB R (sclH (swpH h r p) r (Gf.inv (h p cc))) hcc hr cont n K 0 (by omega) (by omega)
  rw [elmT_zero] at h2
  exact h2
omit hb b1 in
theorem steps_l1 (B : Nat) (R : Int × List Int × List Int) (h : Rd.H) {cc r : Nat} (hcc : cc < c) (hr : r < n) (m : Nat) :
    ∀ (K i : Nat), i + m = n → B + m + 1 ≤ K → (∀ K', B ≤ K' → spec_l03Steps.j3 K' (r : Int) (cc : Int) (((piv h cc m i).getD n : Nat) : Int) (n : Int) (c : Int) (gridB h c n) (n : Int) (b : Int) (gridB (sh c h) b n) = some R) →
    spec_l03Steps.l1 K (r : Int) (cc : Int) (i : Int) (n : Int) (c : Int) (gridB h c n) (n : Int) (b : Int) (gridB (sh c h) b n) = some R := by
  induction m with
  | zero =>
    intro K i hi hK cont
    obtain ⟨K, rfl⟩ : ∃ q, K = q + 1 := ⟨K - 1, by omega⟩
    obtain rfl : i = n := by omega
    rw [spec_l03Steps.l1, if_neg (by omega)]
    exact cont K (by omega)
  | succ m ih =>
    intro K i hi hK cont
    obtain ⟨K, rfl⟩ : ∃ q, K = q + 1 := ⟨K - 1, by omega⟩
    have w1 := Aside0.mk (w_place hn hc (show i < n by omega) hcc).1
    have l1 := (w_place hn hc (show i < n by omega) hcc).2
    rw [spec_l03Steps.l1, if_pos (by omega), w1.out, if_pos (by omega), if_pos (by rw [gridB_len]; omega), rd_gridB _ (by omega) hcc]
    unfold piv at cont
    by_cases h0 : h i cc = 0#8
    · rw [if_pos (by rw [h0]; rfl), w_succ i (by omega)]
      rw [if_pos h0] at cont
      exact ih K (i + 1) (by omega) (by omega) cont
    · rw [if_neg (fun e => h0 (un_eq_zero.1 e))]
      rw [if_neg h0] at cont
      exact cont K (by omega)
/-- What the reference's steps come to. -/
def stepsR (n c b : Nat) (x : Rd.H × Nat) : Int × List Int × List Int := ((x.2 : Nat), gridB x.1 c n, gridB (sh c x.1) b n)
omit hn hc hb c1 b1 in
theorem steps_out (h : Rd.H) (r cc : Nat) (K : Nat) (hK : 2 ≤ K) (he : ¬ (cc < c ∧ r < n)) : spec_l03Steps.l0 K (r : Int) (cc : Int) (n : Int) (c : Int) (gridB h c n) (n : Int) (b : Int) (gridB (sh c h) b n) = some (stepsR n c b (h, r)) := by
  obtain ⟨K, rfl⟩ : ∃ q, K = q + 2 := ⟨K - 2, by omega⟩
  rw [spec_l03Steps.l0]
  by_cases h1 : (cc : Int) < (c : Int)
  · rw [if_pos h1, decide_eq_false (by omega), spec_l03Steps.j1, if_neg (by simp)]
    rfl
  · rw [if_neg h1, spec_l03Steps.j1, if_neg (by simp)]
    rfl
theorem steps_l0 (m : Nat) : ∀ (K cc r : Nat) (h : Rd.H), cc + m = c → r < n → 200 + m * 60 ≤ K →
    spec_l03Steps.l0 K (r : Int) (cc : Int) (n : Int) (c : Int) (gridB h c n) (n : Int) (b : Int) (gridB (sh c h) b n) = some (stepsR n c b (red n m cc r h)) := by
  induction m with
  | zero =>
    intro K cc r h hcc hr hK
    exact steps_out h r cc K (by omega) (by omega)
  | succ m ih =>
    intro K cc r h hcc hr hK
    obtain ⟨K, rfl⟩ : ∃ q, K = q + 2 := ⟨K - 2, by omega⟩
    rw [spec_l03Steps.l0, if_pos (by omega), decide_eq_true (by omega), spec_l03Steps.j1, if_pos rfl]
    refine steps_l1 hn hc c1 (150 + m * 60 + 70) _ h (by omega) hr (n - r) K r (by omega) (by omega) (fun K' hK' => ?_)
    cases e : piv h cc (n - r) r with
    | none =>
      obtain ⟨K', rfl⟩ : ∃ q, K' = q + 1 := ⟨K' - 1, by omega⟩
      rw [red_none e, Option.getD_none, spec_l03Steps.j3, if_pos rfl, w_succ cc (by omega)]
      exact ih K' (cc + 1) r h (by omega) hr (by omega)
    | some p =>
      have hp := piv_some e
      rw [Option.getD_some]
      refine steps_j3 hn hc hb c1 b1 (200 + m * 60) (by omega) _ h (by omega) hr (by omega) (fun K'' hK'' => ?_) K' (by omega)
      by_cases hl : r + 1 = n
      · rw [red_last e hl]
        exact steps_out _ _ _ K'' (by omega) (by omega)
      · rw [red_some e hl]
        exact ih K'' (cc + 1) (r + 1) _ (by omega) (by omega) (by omega)
theorem steps_eq (K : Nat) (hK : 1200 ≤ K) (n1 : 0 < n) (h : Rd.H) : spec_l03Steps.f K (n : Int) (c : Int) (gridB h c n) (n : Int) (b : Int) (gridB (sh c h) b n) = some (stepsR n c b (red n c 0 0 h)) := by
  unfold spec_l03Steps.f
  exact steps_l0 hn hc hb c1 b1 c K 0 0 h (by omega) n1 (by omega)
end
/-- A matrix of bytes, told by its cells. -/
def cellH (l : List Int) (c : Nat) : Rd.H := fun i j => cell l (i * c + j)
theorem as_grid {l : List Int} {n c : Nat} (hb : Bytes l) (hl : l.length = n * c) (hc : 0 < c) : l = gridB (cellH l c) c n := by
  apply List.ext_getElem?
  intro t
  unfold gridB
  by_cases ht : t < n * c
  · rw [grid_get _ ht]
    have h := rd_cell hb (show t < l.length by omega)
    unfold rd at h
    rw [Int.toNat_natCast, List.getD_eq_getElem?_getD, List.getElem?_eq_getElem (by omega), Option.getD_some] at h
    rw [List.getElem?_eq_getElem (by omega), h]
    unfold cellH
    rw [Nat.mul_comm (t / c) c, Nat.div_add_mod]
  · rw [List.getElem?_eq_none (by omega), List.getElem?_eq_none (by rw [grid_len]; omega)]
theorem copy_eq (a b : Int) (l : List Int) (hl : l.length ≤ 1000000000) : spec_l03Copy.f a b l = some (a, b, l) := by
  unfold spec_l03Copy.f
  rw [Option.bind_some, List.length_nil, if_pos (by omega), List.nil_append]
theorem unit_l0 (k : Nat) (hk : k ≤ 16) (d : Nat) : ∀ (K i : Nat), i + d = k → d + 1 ≤ K →
    spec_l03Unit.l0 K (k : Int) (i : Int) (k : Int) (k : Int) (grid (fun a b => if a = b ∧ a < i then 1 else 0) k (k * k)) = some ((k : Int), (k : Int), grid (fun a b => if a = b then 1 else 0) k (k * k)) := by
  have hkk := side_le hk hk
  induction d with
  | zero =>
    intro K i hi hK
    obtain ⟨K, rfl⟩ : ∃ m, K = m + 1 := ⟨K - 1, by omega⟩
    rw [spec_l03Unit.l0, if_neg (by omega)]
    congr 3
    by_cases h0 : k = 0
    · subst h0
      rfl
    · refine grid_congr (by omega) (fun a b hb hab => ?_)
      have ha : a < k := by
        refine Nat.lt_of_not_le (fun hc => ?_)
        have := Nat.mul_le_mul_right k hc
        omega
      by_cases e : a = b
      · rw [if_pos ⟨e, by omega⟩, if_pos e]
      · rw [if_neg (fun h => e h.1), if_neg e]
  | succ d ih =>
    intro K i hi hK
    obtain ⟨K, rfl⟩ : ∃ m, K = m + 1 := ⟨K - 1, by omega⟩
    have hs := step_le k (show i < k by omega)
    rw [spec_l03Unit.l0, if_pos (by omega), w_mul i k (by omega), ← Int.natCast_add, w_nat (i * k + i) (by omega), if_pos (by omega), if_pos (by rw [grid_len]; omega), w_succ i (by omega), Int.toNat_natCast,
      grid_set (h' := fun a b => if a = b ∧ a < i + 1 then 1 else 0) (by omega) (if_pos ⟨rfl, by omega⟩) (fun a b hb hab => ?_)]
    · exact ih K (i + 1) (by omega) (by omega)
    · by_cases e : a = b
      · by_cases e2 : a < i
        · rw [if_pos ⟨e, by omega⟩, if_pos ⟨e, e2⟩]
        · rw [if_neg (fun h => hab ⟨by omega, by omega⟩), if_neg (fun h => e2 h.2)]
      · rw [if_neg (fun h => e h.1), if_neg (fun h => e h.1)]
theorem unit_eq (k : Nat) (hk : k ≤ 16) (K : Nat) (hK : k + 1 ≤ K) : spec_l03Unit.f K (k : Int) = some ((k : Int), (k : Int), grid (fun a b => if a = b then 1 else 0) k (k * k)) := by
  have hkk := side_le hk hk
  unfold spec_l03Unit.f
  rw [w_mul k k (by omega), if_pos (by omega), Int.toNat_natCast, if_pos (by omega), grid_zeros k]
  have h := unit_l0 k hk k K 0 (by omega) hK
  have e : (fun a b : Nat => if a = b ∧ a < 0 then (1 : Int) else 0) = fun _ _ => 0 := by
    funext a b
    rw [if_neg (fun h => by omega)]
  rw [e] at h
  exact h
/-- What MatrixInv answers. -/
def resInv (a b : Int) (l : List Int) : Int × Int × List Int × Int := if okM a b l = true ∧ a = b then (if (red a.toNat a.toNat 0 0 (h0_inv l a.toNat a.toNat)).2 < a.toNat then (0, 0, [], 8) else (a, a, gridB (sh a.toNat (red a.toNat a.toNat 0 0 (h0_inv l a.toNat a.toNat)).1) a.toNat a.toNat, 0)) else (0, 0, [], 1)
theorem spec_inv (a b : Int) (l : List Int) (hl : l.length ≤ 1000000000) (k : Nat) (hk : l.length + 2000 ≤ k) : spec_MatrixInv.f k a b l = some (resInv a b l) := by
  unfold spec_MatrixInv.f resInv
  rw [spec_right a b l hl k (by omega), Option.bind_some]
  obtain ⟨k, rfl⟩ : ∃ m, k = m + 1 := ⟨k - 1, by omega⟩
  by_cases h : okM a b l = true
  · rw [if_pos h, spec_MatrixInv.j0]
    by_cases hab : a = b
    · subst hab
      rw [if_neg (by simp), if_pos ⟨h, rfl⟩]
      obtain ⟨n, n', hn, hn', n1, n2, c1, c2, e, hb⟩ := okM_out h
      obtain rfl : n = n' := by omega
      subst hn
      rw [Int.toNat_natCast, unit_eq n n2 k (by omega), Option.bind_some, copy_eq _ _ l hl, Option.bind_some]
      have e1 := as_grid hb e (by omega)
      have g1 : gridB (h0_inv l n n) n n = l := by
        rw [gridB_congr (g' := cellH l n) (by omega) (fun i j hi hj => by unfold h0_inv; rw [if_pos hj]; rfl)]
        exact e1.symm
      have g2 : gridB (sh n (h0_inv l n n)) n n = grid (fun a b => if a = b then 1 else 0) n (n * n) := by
        refine grid_congr (by omega) (fun i j hj hij => ?_)
        show un (h0_inv l n n i (n + j)) = _
        unfold h0_inv
        rw [if_neg (by omega), Nat.add_sub_cancel_left]
        by_cases e : j = i
        · rw [if_pos e, if_pos e.symm]
          rfl
        · rw [if_neg e, if_neg (fun h => e h.symm)]
          rfl
      have hs := steps_eq n2 n2 n2 (by omega) (by omega) k (by omega) (by omega) (h0_inv l n n)
      rw [g1, g2] at hs
      rw [hs, Option.bind_some]
      unfold spec_l03Ill.f stepsR
      by_cases hr : (red n n 0 0 (h0_inv l n n)).2 < n
      · rw [if_pos hr, if_pos (show ((((red n n 0 0 (h0_inv l n n)).2 : Nat)) : Int) < (n : Int) by omega)]
        rfl
      · rw [if_neg hr, if_neg (show ¬ ((((red n n 0 0 (h0_inv l n n)).2 : Nat)) : Int) < (n : Int) by omega)]
    · rw [if_pos (by simpa using hab), if_neg (fun h => hab h.2)]
      rfl
  · rw [if_neg h, if_neg (fun h' => h h'.1), spec_MatrixInv.j0, if_pos rfl]
    rfl
theorem impl_inv_ (a b : Int) (l : List Int) (hl : l.length ≤ 1000000000) (k : Nat) (hk : 1 ≤ k) : impl_MatrixInv.f k a b l = some (resInv a b l) := by
  unfold impl_MatrixInv.f resInv impl_MatrixRight.f ExtRight.mright
  obtain ⟨k, rfl⟩ : ∃ m, k = m + 1 := ⟨k - 1, by omega⟩
  rw [if_pos hl, Option.bind_some, ← okM_same a b l]
  by_cases h : okM a b l = true
  · rw [if_pos h, impl_MatrixInv.j0]
    by_cases hab : a = b
    · subst hab
      rw [if_neg (by simp), if_pos ⟨h, rfl⟩]
      unfold impl_Matrix_inverse.f
      rw [← okM_same a a l, if_pos ⟨h, rfl⟩, Option.bind_some]
      by_cases hr : (red a.toNat a.toNat 0 0 (h0_inv l a.toNat a.toNat)).2 < a.toNat
      · rw [if_pos hr, if_pos hr, if_neg (by simp)]
      · rw [if_neg hr, if_neg hr, if_pos rfl]
        rfl
    · rw [if_pos (by simpa using hab), if_neg (fun h => hab h.2)]
  · rw [if_neg h, if_neg (fun h' => h h'.1), impl_MatrixInv.j0, if_pos rfl]
theorem res_len (a b : Int) (l : List Int) : (resInv a b l).2.2.1.length ≤ 256 := by
  unfold resInv
  split
  · rename_i h
    obtain ⟨n, n', hn, hn', n1, n2, c1, c2, e, hb⟩ := okM_out h.1
    split
    · exact Nat.zero_le _
    · show (gridB _ _ _).length ≤ 256
      rw [gridB_len, hn, Int.toNat_natCast]
      exact side_le n2 n2
  · exact Nat.zero_le _
theorem j0_true (a b : Int) (l : List Int) (hl : l.length ≤ 1048576) (k : Nat) (hk : l.length + 3000 ≤ k) (R : Int × Int × List Int × Int) (hR : resInv a b l = R) :
    laws_FnExactMatrixInv.j0 k false a b l R.1 R.2.1 R.2.2.1 R.2.2.2 R.1 R.2.1 R.2.2.1 R.2.2.2 = some true := by
  obtain ⟨k, rfl⟩ : ∃ m, k = m + 1 := ⟨k - 1, by omega⟩
  have hRl : R.2.2.1.length ≤ 256 := by rw [← hR]; exact res_len a b l
  obtain ⟨r, e1, e2, e3⟩ := marks_ints R.2.2.1 1 (by omega) (by omega) k (by omega)
  have e4 := e3 k (by omega)
  rw [laws_FnExactMatrixInv.j0, if_neg (by simp)]
  unfold laws_markMatrixOut.f laws_markMatrix.f laws_heldMatrixOut.f laws_heldMatrix.f
  rw [e1]
  simp only [Option.bind_some]
  rw [e4]
  simp only [Option.bind_some]
  rw [if_neg (by omega)]
  simp only [Option.bind_some]
  rw [if_neg (by omega)]
  simp only [Option.bind_some]
  rw [if_neg (by omega)]
  rw [if_pos (by first | rfl | exact True.intro)]
  rw [toMatrix_eq a b l (by omega) k (by omega), Option.bind_some]
  rw [impl_inv_ a b l (by omega) k (by omega), hR]
  simp only [Option.bind_some]
  rw [eqOut_same R.1 R.2.1 R.2.2.1 R.2.2.2 (by omega) k (by omega)]
  simp only [Option.bind_some, if_true]
  rw [if_neg (by omega)]
end FnExactMatrixInv_
open FnExactMatrixInv_
theorem FnExactMatrixInv (a b : Int) (l : List Int) (_ : (Lit.int .i64 a).wf = true) (_ : (Lit.int .i64 b).wf = true) (hm : l.length ≤ maxLen) (_ : ∀ x ∈ l, (Lit.int .i64 x).wf = true) : ∃ k, laws_FnExactMatrixInv.f k a b l = some true := by
  suffices main : ∀ K : Nat, l.length + 4000 ≤ K → laws_FnExactMatrixInv.f K a b l = some true from ⟨_, main (l.length + 4000) (by omega)⟩
  intro K hK
  unfold laws_FnExactMatrixInv.f
  rw [szMatrix_eq a b l 1048576 (by omega) (by omega) hm]
  simp only [Option.bind_some]
  by_cases h : (1048576 : Int) - (l.length : Int) < 0
  · rw [if_pos h, if_pos (by omega)]
  rw [if_neg h, if_neg h]
  obtain ⟨r, e1, e2, _⟩ := marks_ints l 1 (by omega) (by omega) K (by omega)
  have hj := j0_true a b l (by omega) K (by omega) (resInv a b l) rfl
  have hRl := res_len a b l
  rw [toMatrix_eq a b l (by omega) K (by omega), Option.bind_some, spec_inv a b l (by omega) K (by omega), Option.bind_some, Option.bind_some, impl_inv_ a b l (by omega) K (by omega), Option.bind_some]
  generalize resInv a b l = R at hj hRl
  rw [eqOut_same R.1 R.2.1 R.2.2.1 R.2.2.2 (by omega) K (by omega), Option.bind_some, if_pos rfl, Option.bind_some, eqMatrix_same a b l (by omega) K (by omega), Option.bind_some, if_pos rfl]
  unfold laws_markMatrix.f
  rw [e1]
  simp only [Option.bind_some]
  rw [if_neg (by omega)]
  exact hj
end Go.Proofs.Ytlololbhlnapkaa.Pure

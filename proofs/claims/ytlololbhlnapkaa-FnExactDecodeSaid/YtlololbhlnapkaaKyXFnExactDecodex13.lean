/- Plain functions of what the law reaches, proofs that the calls come to them, and the law's row: written by a program of this session (xprint.py) over the kit's print. No conditions beyond each lemma's own. -/
import Derived.Test.YtlololbhlnapkaaKyCy
import Derived.Test.YtlololbhlnapkaaKyXFnExactDecodex0
import Derived.Test.YtlololbhlnapkaaKyXFnExactDecodex10
import Derived.Test.YtlololbhlnapkaaKyXFnExactDecodex11
import Derived.Test.YtlololbhlnapkaaKyXFnExactDecodex12
namespace Go.Proofs.Ytlololbhlnapkaa.XFnExactDecode
open Go.RowKit Go.Proofs.YtlololbhlnapkaaW.PrintWords Go.Proofs.YtlololbhlnapkaaW.PrintLast Go.Proofs.YtlololbhlnapkaaW.PrintMore
attribute [local go_sem] max2_int min2_int max_two min_two max_three min_three max_four min_four   -- for this text's walks alone
set_option linter.unusedVariables false
set_option linter.unusedSimpArgs false
section
open Go.Proofs.Ytlololbhlnapkaa.Gf Go.Proofs.Ytlololbhlnapkaa.FieldAid Go.Proofs.Ytlololbhlnapkaa.Mp Go.Proofs.Ytlololbhlnapkaa.Mc Go.Proofs.Ytlololbhlnapkaa.Rd Go.Proofs.Ytlololbhlnapkaa.Rw
theorem impl_mul_l0 (k : Nat) : ∀ (a o : Gf.B) (n : Nat), n < 256 → n < 2 ^ k → impl_mul.l0 (k + 1) (un a) (n : Int) (un o) = some (un (o ^^^ Gf.mul a (BitVec.ofNat 8 n))) := by
  induction k with
  | zero =>
    intro a o n _ h
    obtain rfl : n = 0 := by omega
    simp only [impl_mul.l0]
    rw [if_neg (by omega), show BitVec.ofNat 8 0 = 0#8 from rfl, Gf.mul_zero, BitVec.xor_zero]
  | succ k ih =>
    intro a o n h8 h
    rw [impl_mul.l0]
    by_cases h0 : n = 0
    · subst h0
      rw [if_neg (by omega), show BitVec.ofNat 8 0 = 0#8 from rfl, Gf.mul_zero, BitVec.xor_zero]
    · rw [if_pos (by omega), mul_next a o n h8]
      rw [← ih (Gf.xt a) (if n % 2 = 1 then o ^^^ a else o) (n / 2) (by omega) (by rw [Nat.pow_succ] at h; omega)]
      simp only [odd_and n (by omega), half_div, w_un2, xor_un]
      by_cases hp : n % 2 = 1 <;> by_cases hx : un a * 2 > 255
      · rw [if_pos (by omega), if_pos hx, if_pos hp, xt_high a hx]
      · rw [if_pos (by omega), if_neg hx, if_pos hp, xt_low a hx]
      · rw [if_neg (by omega), if_pos hx, if_neg hp, xt_high a hx]
      · rw [if_neg (by omega), if_neg hx, if_neg hp, xt_low a hx]
theorem impl_mul_f (k : Nat) (hk : 9 ≤ k) (a b : Gf.B) : impl_mul.f k (un a) (un b) = some (un (Gf.mul a b)) := by
  obtain ⟨m, rfl⟩ : ∃ m, k = m + 1 := ⟨k - 1, by omega⟩
  have h := impl_mul_l0 m a 0#8 b.toNat b.isLt (Nat.lt_of_lt_of_le b.isLt (Nat.pow_le_pow_right (by decide) (show 8 ≤ m by omega)))
  rw [ofNat_un, BitVec.zero_xor] at h
  exact h
theorem impl_pow_l0 (k : Nat) : ∀ (a o : Gf.B) (n : Nat), n < 2 ^ 60 → n < 2 ^ k → impl_pow.l0 (k + 10) (un a) (n : Int) (un o) = some (un (Gf.mul o (Gf.pw a n))) := by
  induction k with
  | zero =>
    intro a o n _ h
    obtain rfl : n = 0 := by omega
    rw [show 0 + 10 = 9 + 1 from rfl, impl_pow.l0, if_neg (by omega), Gf.pw, Gf.mul_one]
  | succ k ih =>
    intro a o n h8 h
    rw [show k + 1 + 10 = (k + 10) + 1 by omega, impl_pow.l0]
    by_cases h0 : n = 0
    · subst h0
      rw [if_neg (by omega), Gf.pw, Gf.mul_one]
    · rw [if_pos (by omega), pw_next a o n h0]
      rw [← ih (Gf.mul a a) (if n % 2 = 1 then Gf.mul o a else o) (n / 2) (by omega) (by rw [Nat.pow_succ] at h; omega)]
      simp only [odd_and n (by omega), half_div, impl_mul_f (k + 10) (by omega), Option.bind_some]
      by_cases hp : n % 2 = 1
      · rw [if_pos (by omega), if_pos hp]
      · rw [if_neg (by omega), if_neg hp]
theorem impl_pow_f (j k : Nat) (hk : j + 10 ≤ k) (a : Gf.B) (n : Nat) (h60 : n < 2 ^ 60) (h : n < 2 ^ j) : impl_pow.f k (un a) (n : Int) = some (un (Gf.pw a n)) := by
  obtain ⟨m, rfl⟩ : ∃ m, k = m + 10 := ⟨k - 10, by omega⟩
  have e := impl_pow_l0 m a 1#8 n h60 (Nat.lt_of_lt_of_le h (Nat.pow_le_pow_right (by decide) (show j ≤ m by omega)))
  rw [Gf.one_mul] at e
  exact e
theorem impl_inv_f (k : Nat) (hk : 18 ≤ k) (a : Gf.B) : impl_inv.f k (un a) = some (un (Gf.inv a)) := by
  unfold impl_inv.f
  rw [show (254 : Int) = ((254 : Nat) : Int) from rfl, impl_pow_f 8 k (by omega) a 254 (by omega) (by omega), Option.bind_some]
  rfl
theorem rdL_get (ls : List (List Int)) (i : Nat) (h : i < ls.length) : rd_L6 ls (i : Int) = ls[i] := by
  unfold rd_L6
  rw [Int.toNat_natCast, List.getD_eq_getElem?_getD, List.getElem?_eq_getElem h, Option.getD_some]
theorem flat_step (ls : List (List Int)) (i : Nat) (h : i < ls.length) : (ls.drop i).flatten = ls[i] ++ (ls.drop (i + 1)).flatten := by
  rw [List.drop_eq_getElem_cons h, List.flatten_cons]
theorem concat_l1 (ls : List (List Int)) (hl : ls.length ≤ 1000000) (d : Nat) : ∀ (k i : Nat) (out : List Int), i + d = ls.length → out.length + (ls.drop i).flatten.length ≤ 1000000 → d + 1 ≤ k →
    slices_Concat_int64_int64.l1 k out ls (ls.length : Int) (i : Int) = some (out ++ (ls.drop i).flatten) := by
  induction d with
  | zero =>
    intro k i out hi ho hk
    obtain ⟨k, rfl⟩ : ∃ m, k = m + 1 := ⟨k - 1, by omega⟩
    rw [slices_Concat_int64_int64.l1, if_neg (by omega), List.drop_of_length_le (by omega)]
    simp
  | succ d ih =>
    intro k i out hi ho hk
    obtain ⟨k, rfl⟩ : ∃ m, k = m + 1 := ⟨k - 1, by omega⟩
    have hs := flat_step ls i (by omega)
    rw [hs, List.length_append] at ho
    rw [slices_Concat_int64_int64.l1, if_pos (by omega), if_pos (by omega), if_pos (by omega), rdL_get ls i (by omega), if_pos (by omega), show wrap64 ((i : Int) + 1) = ((i + 1 : Nat) : Int) by unfold wrap64; omega,
      ih k (i + 1) _ (by omega) (by rw [List.length_append]; omega) (by omega), hs, List.append_assoc]
theorem concat_l0 (ls : List (List Int)) (hl : ls.length ≤ 1000000) (hf : ls.flatten.length ≤ 1000000) (d : Nat) : ∀ (k i n : Nat), i + d = ls.length → n + (ls.drop i).flatten.length = ls.flatten.length → d + ls.length + 2 ≤ k →
    slices_Concat_int64_int64.l0 k ls (n : Int) ls (ls.length : Int) (i : Int) = some ls.flatten := by
  induction d with
  | zero =>
    intro k i n hi ho hk
    obtain ⟨k, rfl⟩ : ∃ m, k = m + 1 := ⟨k - 1, by omega⟩
    rw [slices_Concat_int64_int64.l0, if_neg (by omega)]
    unfold slices_Grow_int64_int64.f
    rw [if_pos (by omega), if_pos (by omega), Option.bind_some]
    have h := concat_l1 ls hl ls.length k 0 [] (by omega) (by simp only [List.drop_zero, List.length_nil]; omega) (by omega)
    rw [List.drop_zero, List.nil_append] at h
    exact h
  | succ d ih =>
    intro k i n hi ho hk
    obtain ⟨k, rfl⟩ : ∃ m, k = m + 1 := ⟨k - 1, by omega⟩
    have hs := flat_step ls i (by omega)
    rw [hs, List.length_append] at ho
    rw [slices_Concat_int64_int64.l0, if_pos (by omega), if_pos (by omega), if_pos (by omega), rdL_get ls i (by omega), show wrap64 ((n : Int) + (ls[i].length : Int)) = ((n + ls[i].length : Nat) : Int) by unfold wrap64; omega, if_neg (by omega),
      show wrap64 ((i : Int) + 1) = ((i + 1 : Nat) : Int) by unfold wrap64; omega]
    exact ih k (i + 1) _ (by omega) (by omega) (by omega)
theorem concat_eq (ls : List (List Int)) (hl : ls.length ≤ 1000000) (hf : ls.flatten.length ≤ 1000000) (k : Nat) (hk : 2 * ls.length + 2 ≤ k) : slices_Concat_int64_int64.f k ls = some ls.flatten := by
  unfold slices_Concat_int64_int64.f
  exact concat_l0 ls hl hf ls.length k 0 0 (by omega) (by rw [List.drop_zero]; omega) (by omega)
theorem scale_l0 (g : Nat → Gf.B) (b : Gf.B) (d : Nat) (hd : d ≤ 1000) (m : Nat) : ∀ (K i : Nat), 9 ≤ K → i + m = d →
    impl_scale.l0 (K + m + 1) (line (fun j => if j < i then un (Gf.mul (g j) b) else un (g j)) d) (un b) (d : Int) (i : Int) = some (line (fun j => un (Gf.mul (g j) b)) d) := by
  induction m with
  | zero =>
    intro K i hK hi
    rw [impl_scale.l0, if_neg (by omega)]
    exact congrArg some (line_congr fun j hj => if_pos (by omega))
  | succ m ih =>
    intro K i hK hi
    rw [impl_scale.l0, if_pos (by omega), if_pos (by omega), if_pos (by rw [line_len]; omega), rd_line _ (by omega), if_neg (by omega), impl_mul_f (K + (m + 1)) (by omega), Option.bind_some, w_succ i (by omega), Int.toNat_natCast,
      line_set (f' := fun j => if j < i + 1 then un (Gf.mul (g j) b) else un (g j)) (if_pos (by omega)) (fun j hj => ?_)]
    · exact ih K (i + 1) hK (by omega)
    · by_cases h : j < i
      · rw [if_pos h, if_pos (by omega)]
      · rw [if_neg h, if_neg (by omega)]
theorem scale_eq (g : Nat → Gf.B) (b : Gf.B) (d : Nat) (hd : d ≤ 100) (K : Nat) (hK : 200 ≤ K) : impl_scale.f K (line (fun j => un (g j)) d) (un b) = some (line (fun j => un (Gf.mul (g j) b)) d) := by
  have h := scale_l0 g b d (by omega) d (K - (d + 1)) 0 (by omega) (by omega)
  rw [show K - (d + 1) + d + 1 = K by omega] at h
  unfold impl_scale.f
  rw [line_len]
  refine Eq.trans ?_ h
  exact congrArg (fun x => impl_scale.l0 K x (un b) (d : Int) 0) (line_congr fun j hj => (if_neg (by omega)).symm)
theorem add_l0 (g p : Nat → Gf.B) (b : Gf.B) (d : Nat) (hd : d ≤ 1000) (m : Nat) : ∀ (K i : Nat), 9 ≤ K → i + m = d →
    impl_addTimes.l0 (K + m + 1) (line (fun j => if j < i then un (g j ^^^ Gf.mul (p j) b) else un (g j)) d) (un b) (line (fun j => un (p j)) d) (d : Int) (i : Int) = some (line (fun j => un (g j ^^^ Gf.mul (p j) b)) d) := by
  induction m with
  | zero =>
    intro K i hK hi
    rw [impl_addTimes.l0, if_neg (by omega)]
    exact congrArg some (line_congr fun j hj => if_pos (by omega))
  | succ m ih =>
    intro K i hK hi
    rw [impl_addTimes.l0, if_pos (by omega), if_pos (by omega), if_pos (by rw [line_len]; omega), if_pos (by rw [line_len]; omega), rd_line _ (by omega), rd_line _ (by omega), if_neg (by omega), impl_mul_f (K + (m + 1)) (by omega), Option.bind_some, w_succ i (by omega), Int.toNat_natCast, xor_un,
      line_set (f' := fun j => if j < i + 1 then un (g j ^^^ Gf.mul (p j) b) else un (g j)) (if_pos (by omega)) (fun j hj => ?_)]
    · exact ih K (i + 1) hK (by omega)
    · by_cases h : j < i
      · rw [if_pos h, if_pos (by omega)]
      · rw [if_neg h, if_neg (by omega)]
theorem add_eq (g p : Nat → Gf.B) (b : Gf.B) (d : Nat) (hd : d ≤ 100) (K : Nat) (hK : 200 ≤ K) : impl_addTimes.f K (line (fun j => un (g j)) d) (line (fun j => un (p j)) d) (un b) = some (line (fun j => un (g j ^^^ Gf.mul (p j) b)) d) := by
  have h := add_l0 g p b d (by omega) d (K - (d + 1)) 0 (by omega) (by omega)
  rw [show K - (d + 1) + d + 1 = K by omega] at h
  unfold impl_addTimes.f
  rw [line_len]
  refine Eq.trans ?_ h
  exact congrArg (fun x => impl_addTimes.l0 K x (un b) (line (fun j => un (p j)) d) (d : Int) 0) (line_congr fun j hj => (if_neg (by omega)).symm)
theorem info22r : (Try.prog.info? 22).map (fun i => (i.zero, i.size, i.bytes)) = some (some (.slice none 0 0), 1, 24) := by kernel_rfl
/-- Where the pivot is, as the program tells it. -/
def pivI (h : Rd.H) (c d i0 i : Nat) : Int := match piv h c d i with | none => -1 | some p => ((p - i0 : Nat) : Int)
theorem index_l0 (h : Rd.H) (D c n i0 : Nat) (hc : c < D) (hn : n ≤ 1000) (m : Nat) : ∀ (K t : Nat), t + m = n → m + 1 ≤ K →
    slices_IndexFunc_int64_int64.l0 K (listOf n (fun t => lineB h D (i0 + t))) (c : Int) (n : Int) (t : Int) = some (pivI h c m i0 (i0 + t)) := by
  induction m with
  | zero =>
    intro K t ht hK
    obtain ⟨K, rfl⟩ : ∃ q, K = q + 1 := ⟨K - 1, by omega⟩
    rw [slices_IndexFunc_int64_int64.l0, if_neg (by omega)]
    rfl
  | succ m ih =>
    intro K t ht hK
    obtain ⟨K, rfl⟩ : ∃ q, K = q + 1 := ⟨K - 1, by omega⟩
    have e := listOf_get (n := n) (fun t => lineB h D (i0 + t)) (show t < n by omega)
    rw [slices_IndexFunc_int64_int64.l0, if_pos (by omega), if_pos (by omega), if_pos (by rw [listOf_len]; omega), rdL_get _ t (by rw [listOf_len]; omega), (List.getElem?_eq_some_iff.1 e).2]
    unfold impl_Matrix_reduced_1.f
    rw [if_pos (by omega), if_pos (by rw [lineB_len]; omega), rd_lineB h hc, Option.bind_some]
    unfold pivI piv
    by_cases h0 : h (i0 + t) c = 0#8
    · rw [if_neg (by rw [h0]; decide), if_pos h0, w_succ t (by omega)]
      exact ih K (t + 1) (by omega) (by omega)
    · rw [if_pos (by simpa [bne_iff_ne, un_eq_zero] using h0), if_neg h0]
      show some (t : Int) = some (((i0 + t - i0 : Nat)) : Int)
      rw [Nat.add_sub_cancel_left]
theorem index_eq (h : Rd.H) (D c n i0 : Nat) (hc : c < D) (hn : n ≤ 100) (K : Nat) (hK : 200 ≤ K) : slices_IndexFunc_int64_int64.f K (listOf n (fun t => lineB h D (i0 + t))) (c : Int) = some (pivI h c n i0 i0) := by
  unfold slices_IndexFunc_int64_int64.f
  rw [listOf_len]
  exact index_l0 h D c n i0 hc (by omega) n K 0 (by omega) (by omega)
theorem two_C (W : World) (u1 u2 : Value) (x1 x2 : List Int) (h1 : (Kd.slice 2 (Kd.int .i64)).K W x1 [u1]) (h2 : (Kd.slice 2 (Kd.int .i64)).K W x2 [u2]) :
    Kd.C (Kd.slice 2 (Kd.int .i64)) (W.alloc (Obj.cells #[u1, u2] 22)) (some ⟨W.heap.size, 0, none⟩) [x1, x2].length [x1, x2] := by
  have hb := below_alloc (Below.refl W.heap.size W) (Obj.cells #[u1, u2] 22)
  have hn := blk_new W (Obj.cells #[u1, u2] 22)
  refine ⟨rfl, (show 2 ≤ 9223372036854775807 by decide), fun _ => ⟨_, rfl, fun j p hj => ?_⟩⟩
  match j, hj with
  | 0, hj =>
    injection hj with hj
    subst hj
    refine ⟨[u1], rfl, Kd.K_below _ hb h1, fun i u hu => ?_⟩
    match i, hu with
    | 0, hu =>
      injection hu with hu
      subst hu
      rw [add_plain]
      exact (blk_cell hn 0).trans rfl
  | 1, hj =>
    injection hj with hj
    subst hj
    refine ⟨[u2], rfl, Kd.K_below _ hb h2, fun i u hu => ?_⟩
    match i, hu with
    | 0, hu =>
      injection hu with hu
      subst hu
      rw [add_plain]
      exact (blk_cell hn 1).trans rfl
theorem cat_step {W wc : World} {o : Obj} {v : Value} {r : List Int} (hR : Kd.R (Kd.int .i64) 2 wc (W.alloc o).heap.size (fun _ => True) v r) (hB : Below (W.alloc o).heap.size (W.alloc o) wc) :
    Below W.heap.size W wc ∧ Kd.R (Kd.int .i64) 2 wc W.heap.size (fun k => W.heap.size ≤ k) v r := by
  have h1 := below_alloc (Below.refl W.heap.size W) o
  refine ⟨below_step h1 hB, Kd.R_mono (Kd.R_bound (Kd.R_lower hR h1.size)) (fun k hk => hk.2.1)⟩
theorem S_okv {d : Kd (List Int)} {e : Nat} {w : World} {base : Nat} {ok : Nat → Prop} {v : Value} {xs : List (List Int)} (h : Kd.S d e w base ok v xs) : ∀ k, v.ownBlock = some k → ok k := (Kd.S_R h).1
theorem drop_rows (rows : Nat → List Int) (n m : Nat) (hm : m ≤ n) : (listOf n rows).drop m = listOf (n - m) (fun t => rows (m + t)) := by
  apply List.ext_getElem?
  intro t
  rw [List.getElem?_drop]
  by_cases ht : t < n - m
  · rw [listOf_get _ (by omega), listOf_get _ ht]
  · rw [List.getElem?_eq_none (by rw [listOf_len]; omega), List.getElem?_eq_none (by rw [listOf_len]; omega)]
theorem listOf_succ (n : Nat) (rows : Nat → List Int) : listOf n rows ++ [rows n] = listOf (n + 1) rows := by unfold listOf; rw [List.range_succ, List.map_append, List.map_singleton]
def rdc.T13 : Bool × List (List Nat × List Nat) := (true, [([], []), ([], []), ([], []), ([], []), ([], []), ([3, 4], [3, 4]), ([], []), ([], []), ([], []), ([7, 8], [7, 8]), ([6, 9], [6, 9]), ([10], [10]), ([], []), ([], []), ([12, 13], [12, 13]), ([14], [14]), ([0, 1, 0, 1, 6, 7, 8, 9, 10, 11, 15], [0, 1]), ([16, 11, 0, 1, 6, 7, 8, 9, 10, 11, 15], [11, 16]), ([2, 5, 0, 1, 2, 3, 4, 5, 6, 7, 8, 9, 10, 11, 12, 13, 14, 15, 16, 17], [2, 5]), ([18, 15, 17, 0, 1, 2, 3, 4, 5, 6, 7, 8, 9, 10, 11, 12, 13, 14, 15, 16, 17], [15, 18])])
def rdc.B13 : List Nat := [0, 0, 0, 0, 0, 24, 0, 0, 0, 384, 960, 1984, 0, 0, 12288, 28672, 65475, 131011, 262143, 524287]
theorem rdc.tab13 : rtab .any (opsOf Try.f84 13) = rdc.T13 := by kernel_rfl
theorem rdc.bits13 : waitsOk rdc.T13.2 rdc.B13 = true := by kernel_rfl
def rdc.T14 : Bool × List (List Nat × List Nat) := (true, [([], []), ([], []), ([0, 1], [0, 1]), ([2], [2]), ([], []), ([], []), ([4, 5], [4, 5]), ([6], [6]), ([], []), ([7, 8], [7, 8]), ([9], [9]), ([10], [10]), ([3, 11, 11], [3, 11])])
def rdc.B14 : List Nat := [0, 0, 3, 7, 0, 0, 48, 112, 0, 496, 1008, 2032, 4095]
theorem rdc.tab14 : rtab .any (opsOf Try.f84 14) = rdc.T14 := by kernel_rfl
theorem rdc.bits14 : waitsOk rdc.T14.2 rdc.B14 = true := by kernel_rfl
def rdc.T19 : Bool × List (List Nat × List Nat) := (true, [([], []), ([], []), ([], []), ([1, 2], [1, 2]), ([3], [3]), ([], []), ([], []), ([5, 6], [5, 6]), ([7], [7]), ([0, 4, 8], [0, 4, 8])])
def rdc.B19 : List Nat := [0, 0, 0, 6, 14, 0, 0, 96, 224, 511]
theorem rdc.tab19 : rtab .any (opsOf Try.f84 19) = rdc.T19 := by kernel_rfl
theorem rdc.bits19 : waitsOk rdc.T19.2 rdc.B19 = true := by kernel_rfl
theorem cut_row {l : List Int} (hb : Bytes l) {r c i t : Nat} (hl : l.length = r * c) (hi : i < r) (ht : t < c) : (rowL l c i)[t]? = some (un (cell l (i * c + t))) := by
  have h := rd_row hb hl hi ht
  have hlt : t < (rowL l c i).length := by rw [rowL_len hl hi]; exact ht
  unfold rd at h
  rw [Int.toNat_natCast, List.getD_eq_getElem?_getD, List.getElem?_eq_getElem hlt, Option.getD_some] at h
  rw [List.getElem?_eq_getElem hlt, h]
theorem col_len (l : List Int) {r c : Nat} (hl : l.length = r * c) (hr : r ≤ 16) (hc : c ≤ 16) : l.length ≤ 256 := by
  rw [hl]
  exact side_le hr hc
def h0_inv (l : List Int) (c r : Nat) : Rd.H := fun i j => if j < c then cell l (i * c + j) else if j - c = i then 1#8 else 0#8
def moreL_inv (i r : Nat) : List Int := line (fun j => if j = i then 1 else 0) r
theorem unit_inv (i n : Nat) (hn : n ≤ 16) (hi : i < n) : impl_unit.f (i : Int) (n : Int) = some (moreL_inv i n) := by
  unfold impl_unit.f moreL_inv
  rw [if_pos (by omega), Int.toNat_natCast, if_pos (by omega), Option.bind_some, if_pos (by omega), if_pos (by rw [List.length_replicate]; omega), Int.toNat_natCast, line_zeros]
  exact congrArg some (line_set (if_pos rfl) (fun b hb => if_neg hb))
theorem row_inv {l : List Int} (hb : Bytes l) {r c i : Nat} (hl : l.length = r * c) (hi : i < r) : rowL l c i ++ moreL_inv i r = lineB (h0_inv l c r) (c + r) i := by
  apply List.ext_getElem?
  intro t
  by_cases ht : t < c
  · have hlt : t < (rowL l c i).length := by rw [rowL_len hl hi]; exact ht
    rw [List.getElem?_append_left hlt, cut_row hb hl hi ht]
    refine Eq.trans ?_ (line_get (fun j => un (h0_inv l c r i j)) (show t < c + r by omega)).symm
    unfold h0_inv
    rw [if_pos ht]
  · rw [List.getElem?_append_right (by rw [rowL_len hl hi]; omega), rowL_len hl hi]
    by_cases ht2 : t < c + r
    · unfold moreL_inv
      rw [line_get _ (show t - c < r by omega)]
      refine Eq.trans ?_ (line_get (fun j => un (h0_inv l c r i j)) ht2).symm
      unfold h0_inv
      rw [if_neg ht]
      by_cases e : t - c = i
      · rw [if_pos e, if_pos e]
        rfl
      · rw [if_neg e, if_neg e]
        rfl
    · rw [List.getElem?_eq_none (by unfold moreL_inv; rw [line_len]; omega), List.getElem?_eq_none (by rw [lineB_len]; omega)]
set_option maxHeartbeats 8000000 in
set_option maxRecDepth 100000 in
theorem more_inv (i r gm : Nat) (hr : r ≤ 16) (hi : i < r) (w : World) (hg : w.cell? ⟨gm, 0, none⟩ = some (.int .i64 (r : Int))) :
  Calls Try.prog 126 #[.int .i64 (i : Int), .pointer (some ⟨gm, 0, none⟩)] w fun e w' => ∃ v, e = .returned v ∧ Kd.R (Kd.int .i64) 2 w' w.heap.size (fun _ => True) v (moreL_inv i r) ∧ Below w.heap.size w w' := by
 go_enter Try.func126, Try.ntmps126
 go_wp2_with (go_at_call 121; (with_reducible refine (impl_unit.calls _ _ (moreL_inv i r) _ (unit_inv i r hr hi)).mono ?_); rintro e w' ⟨v, rfl, hR, hB⟩)
 go_ret
 exact ⟨v, rfl, hR, hB⟩
set_option maxHeartbeats 64000000 in
set_option maxRecDepth 100000 in
theorem red_inv.calls (K : Nat) (hK : 1000 ≤ K) (r c D : Nat) (hDe : D = c + r) (r1 : 1 ≤ r) (r2 : r ≤ 16) (c1 : 1 ≤ c) (c2 : c ≤ 16) (A : Option Addr) (cap : Nat) (l : List Int) (hl : l.length = r * c) (hby : Bytes l) (w : World) (hr0 : Kd.C (Kd.int .i64) w A l.length l) (hcap : l.length ≤ cap) (gm : Nat) (hgm : w.cell? ⟨gm, 0, none⟩ = some (.int .i64 (r : Int))) :
  Calls Try.prog 84 #[.agg #[.int .i64 (r : Int), .int .i64 (c : Int), .slice A l.length cap], .func (.func 126) #[] #[.pointer (some ⟨gm, 0, none⟩)]] w fun e w' => ∃ v, e = .returned (.tuple #[v, .int .i64 (((red r c 0 0 (h0_inv l c r)).2 : Nat) : Int)]) ∧ (∃ gs, Rw w' w.heap.size v D r gs (lineB (red r c 0 0 (h0_inv l c r)).1 D)) ∧ Below w.heap.size w w' := by
 have hu27 := Try.underlying27
 have HR0 := Aside0.mk hr0
 have HL := Aside0.mk hl
 have HBY := Aside0.mk hby
 have HDE := Aside0.mk hDe
 have hD1 : 0 < D := by omega
 have hD2 : D ≤ 100 := by omega
 have hD3 : c ≤ D := by omega
 clear hr0 hl hby hDe
 have HB := Aside0.mk (Below.refl w.heap.size w)
 obtain ⟨i0, hi0, _, hsz, _⟩ := info_parts info2
 obtain ⟨i22, hi22, _, hsz22, _⟩ := info_parts info22r
 go_enter Try.func84, Try.ntmps84
 go_wp2_with (first | ((with_reducible refine gate_dst (N := 2) rfl ?_); refine box_event ?hg (N := 2) ?hd (cs := #[.int .i64 (r : Int), .int .i64 (c : Int), .slice A l.length cap]) (t := 27) ?hr ?_; (case hd => rfl); (case hg => rfl); (case hr => first | (go_simp; done) | (go_simp; rfl)); intro gb hg w3 hbox hb; have n1_ := Aside0.mk (below_step HB.out hb); have BK := Aside0.mk hbox; clear HB; have HB := n1_; clear n1_; have HGE := Aside0.mk (show w.heap.size ≤ gb by rw [hg]; exact Nat.le_refl _); clear hb hbox hg; have hcz_0 := (blk_cell BK.out 0).trans (show _ = some (Value.int .i64 (r : Int)) from rfl); have hcz_1 := (blk_cell BK.out 1).trans (show _ = some (Value.int .i64 (c : Int)) from rfl)))
 go_loopg [6, 15] (r + 1) (fun kq v6 v15 w' => ∃ i : Nat, v15 = .int .i64 (i : Int) ∧ Aside0 (i + kq = r + 1) ∧ Aside0 (i ≤ r) ∧ Aside0 (Kd.S (Kd.slice 2 (Kd.int .i64)) 22 w' w.heap.size (fun _ => True) v6 (listOf i (lineB (h0_inv l c r) D))) ∧ Aside0 (w'.heap[gb]? = some (.cells #[.int .i64 (r : Int), .int .i64 (c : Int), .slice A l.length cap] 27 (0, 0))) ∧ Aside0 (Below w.heap.size w w'))
 case atStart => exact ⟨0, rfl, ⟨by omega⟩, ⟨by omega⟩, ⟨Kd.S_nil _ _ _ _ _⟩, ⟨Cz.b BK.out⟩, ⟨Cz.w HB.out⟩⟩
 case round =>
  clear HB BK hcz_0 hcz_1
  obtain ⟨i, rfl, HI, HIR, HS, BK, HB⟩ := hrel
  have hcz_0 : wr.cell? ⟨gb, 0, none⟩ = some (.int .i64 (r : Int)) := (blk_cell BK.out 0).trans rfl
  have hcz_1 : wr.cell? ⟨gb, 1, none⟩ = some (.int .i64 (c : Int)) := (blk_cell BK.out 1).trans rfl
  have hcz_2 : wr.cell? ⟨gb, 2, none⟩ = some (.slice A l.length cap) := (blk_cell BK.out 2).trans rfl
  cases gk with
  | zero => exact absurd HIR.out (by have := HI.out; omega)
  | succ k1 =>
   by_cases hi : (i : Int) < (r : Int)
   ·have hi' : i < r := by omega
    have hst := step_le c hi'
    have hsm : (i + 1) * c = i * c + c := Nat.succ_mul i c
    have hll := col_len l HL.out r2 c2
    have hle : i * c + c ≤ l.length := by rw [HL.out]; exact hst
    have hlo := Aside0.mk (show wrap64 ((i : Int) * (c : Int)) = ((i * c : Nat) : Int) from w_mul i c (by omega))
    have hhi := Aside0.mk (show wrap64 (wrap64 ((i : Int) + 1) * (c : Int)) = ((i * c + c : Nat) : Int) by rw [w_succ i (by omega), w_mul (i + 1) c (by omega), hsm])
    have hcut := cut_mid (P := Try.prog) 22 2 .i64 .i64 Try.underlying22 hi0 1 hsz A l.length cap ((i * c : Nat) : Int) ((i * c + c : Nat) : Int) (by omega) (by omega) (by omega) hcap
    have hC0 := Kd.C_mid (lo := i * c) (hi := i * c + c) HR0.out (by omega) hle hcap
    rw [Int.toNat_natCast, Int.toNat_natCast, show i * c + c - i * c = (rowL l c i).length by rw [rowL_len HL.out hi']; omega] at hcut
    obtain ⟨Ac, hAc⟩ : ∃ A1, A1 = (if cap = i * c then A else A.map (·.add (i * c * 1))) := ⟨_, rfl⟩
    obtain ⟨cq, hcq⟩ : ∃ c1, c1 = cap - i * c := ⟨_, rfl⟩
    rw [← hAc, ← hcq] at hcut
    have HC := Aside0.mk (show (Kd.slice 2 (Kd.int .i64)).K wr (rowL l c i) [.slice Ac (rowL l c i).length cq] from (Kd.slice 2 (Kd.int .i64)).K_below HB.out ⟨Ac, cq, rfl, by rw [rowL_len HL.out hi', hcq]; omega, by rw [hAc]; exact hC0⟩)
    have hcat : slices_Concat_int64_int64.f K [rowL l c i, moreL_inv i r] = some (lineB (h0_inv l c r) D i) := by
     have e : rowL l c i ++ moreL_inv i r = lineB (h0_inv l c r) D i := by rw [HDE.out]; exact row_inv HBY.out HL.out hi'
     have h := concat_eq [rowL l c i, moreL_inv i r] (by simp) (by rw [List.flatten_cons, List.flatten_singleton, e, lineB_len]; omega) K (by simp; omega)
     rw [List.flatten_cons, List.flatten_singleton, e] at h
     exact h
    clear hC0 hAc hcq hst hle hll
    go_wp2_with (first | (go_at_call 125; (with_reducible refine (Mx.row_calls _ _ _ _ _ _ _ _ _ _ hlo.out hhi.out hcut).mono ?_); rintro e wq_ ⟨rfl, rfl⟩; replace HS := Aside0.mk (Kd.S_alloc HS.out (Obj.cells #[.int .i64 (r : Int), .int .i64 (c : Int), .slice A l.length cap] 27)); replace HB := Aside0.mk (below_alloc HB.out (Obj.cells #[.int .i64 (r : Int), .int .i64 (c : Int), .slice A l.length cap] 27)); replace BK := Aside0.mk (blk_alloc BK.out (Obj.cells #[.int .i64 (r : Int), .int .i64 (c : Int), .slice A l.length cap] 27)); replace HC := Aside0.mk ((Kd.slice 2 (Kd.int .i64)).K_below (below_alloc (Below.refl wr.heap.size wr) (Obj.cells #[.int .i64 (r : Int), .int .i64 (c : Int), .slice A l.length cap] 27)) HC.out); generalize wr.alloc (Obj.cells #[.int .i64 (r : Int), .int .i64 (c : Int), .slice A l.length cap] 27) = wq at HS HB BK HC ⊢) | (go_at_call 126; (with_reducible refine (more_inv i r gm r2 hi' _ ((HB.out.cell (World.block_lt_of_cell? w _ hgm)).trans hgm)).mono ?_); rintro e wm ⟨vm, rfl, hRm, hWB⟩; obtain ⟨Am, cm, em, hlm, hCm⟩ := Kd.R_reads hRm; subst em; have HM := Aside0.mk (show (Kd.slice 2 (Kd.int .i64)).K wm (moreL_inv i r) [.slice Am (moreL_inv i r).length cm] from ⟨Am, cm, rfl, hlm, hCm⟩); replace HS := Aside0.mk (Kd.S_below HS.out hWB); replace HB := Aside0.mk (below_step HB.out hWB); replace BK := Aside0.mk (blk_below BK.out hWB); replace HC := Aside0.mk ((Kd.slice 2 (Kd.int .i64)).K_below hWB HC.out); clear hRm hlm hCm hWB) | (go_at_call 127; (refine (slices_Concat_int64_int64.calls K (some ⟨wm.heap.size, 0, none⟩) 2 [rowL l c i, moreL_inv i r] (lineB (h0_inv l c r) D i) _ (two_C wm _ _ _ _ HC.out HM.out) (Nat.le_refl _) hcat).mono ?_); rintro e wc ⟨v26, rfl, hR0, hB0⟩; obtain ⟨Av, cv, ev⟩ := Kd.R_slice hR0; subst ev; have HX := Aside0.mk (cat_step hR0 hB0); clear hR0 hB0; have HBm := Aside0.mk (below_size HB.out); replace HS := Aside0.mk (Kd.S_old HS.out HX.out.1); replace HB := Aside0.mk (below_step HB.out HX.out.1); replace BK := Aside0.mk (blk_below BK.out HX.out.1)) | ((with_reducible refine gate_builtin (b := .append) (xs := #[.tmp 18, .tmp 27]) rfl ?_); at_builtin; refine Kd.S_append (Kd.slice 2 (Kd.int .i64)) (w0 := w) w.heap.size rfl (.tmp 18) (.tmp 27) 95 22 (.slice none 0 0) 24 rfl Try.underlying95 info22r rfl (by decide) (by omega) u6 (listOf i (lineB (h0_inv l c r) D)) (lineB (h0_inv l c r) D i) [.slice Av (lineB (h0_inv l c r) D i).length cv] (fun _ => True) (fun k_ => wm.heap.size ≤ k_) rfl rfl ?aP ?aK (fun _ _ => trivial) ?aO ?aB ?aS ?aL ?_; (case aP => exact ⟨_, rfl, Kd.R_lower HX.out.2 HBm.out⟩); (case aK => exact fun k_ hk => ⟨trivial, fun e_ => by have := (S_okv HS.out k_ e_.symm).2; omega⟩); (case aO => exact Kd.S_mono HS.out (fun k_ hk => ⟨trivial, by have := hk.2; omega⟩)); (case aB => exact HB.out); (case aS => exact below_size HB.out); (case aL => rw [listOf_len]; omega); intro v1 wa ho hb hg hat; rw [listOf_succ] at ho; replace BK := Aside0.mk (blk_grown BK.out hg (Kd.S_ne HS.out BK.out (by decide))); clear HS HB HX HBm; have HS := Aside0.mk ho; have HB := Aside0.mk hb; clear ho hb hg hat))
    go_roundg k1
    case measure => omega
    case rel => exact ⟨i + 1, by first | rfl | (rw [Int.natCast_add]; rfl), ⟨by have := HI.out; omega⟩, ⟨by omega⟩, ⟨HS.out⟩, ⟨BK.out⟩, ⟨HB.out⟩⟩
   ·have e : r = i := by have := HIR.out; omega
    subst e
    have hD : 0 < D := by omega
    obtain ⟨gs0, hRw0⟩ := Rw.ofS HS.out hD (fun i hi => lineB_len _ _ _)
    obtain ⟨G, cap6, cells6, ev6, hG0, hcap6, hblk6⟩ := hRw0.form (by omega)
    subst ev6
    have HRW := Aside0.mk hRw0
    have HG := Aside0.mk hG0
    clear HS hRw0 hblk6 hG0
    go_wp2
    go_loopg [8, 32] (c + 1) (fun kq v8 v32 w' => ∃ (cc rk : Nat) (gs : Nat → Nat × Nat) (h : Rd.H), v8 = .int .i64 (rk : Int) ∧ v32 = .int .i64 (cc : Int) ∧ Aside0 (cc + kq = c + 1) ∧ Aside0 (cc ≤ c) ∧ Aside0 (rk < r) ∧ Aside0 (red r (c - cc) cc rk h = red r c 0 0 (h0_inv l c r)) ∧ Aside0 (Rw w' w.heap.size (.slice (some ⟨G, 0, none⟩) r cap6) D r gs (lineB h D)) ∧ Aside0 (w'.heap[gb]? = some (.cells #[.int .i64 (r : Int), .int .i64 (c : Int), .slice A l.length cap] 27 (0, 0))) ∧ Aside0 (Below w.heap.size w w'))
    case atStart => exact ⟨0, 0, gs0, _, rfl, rfl, ⟨by omega⟩, ⟨by omega⟩, ⟨by omega⟩, ⟨rfl⟩, ⟨by (with_reducible repeat (first | exact HRW.out | apply Rw.alloc | apply Rw.drewN | apply Rw.drew))⟩, ⟨Cz.b BK.out⟩, ⟨Cz.w HB.out⟩⟩
    case round =>
     clear HB BK HRW hcz_0 hcz_1 hcz_2 HI HIR
     obtain ⟨cc, rk, gs, h, rfl, rfl, HI, HIC, HRK, HRED, HRW, BK, HB⟩ := hrel
     have hcz_0 : wr.cell? ⟨gb, 0, none⟩ = some (.int .i64 (r : Int)) := (blk_cell BK.out 0).trans rfl
     have hcz_1 : wr.cell? ⟨gb, 1, none⟩ = some (.int .i64 (c : Int)) := (blk_cell BK.out 1).trans rfl
     cases gk with
     | zero => exact absurd HIC.out (by have := HI.out; omega)
     | succ k2 =>
      by_cases hcc : (cc : Int) < (c : Int)
      ·have hrk := HRK.out
       have hcD : cc < D := by omega
       have hdc : c - cc = (c - (cc + 1)) + 1 := by omega
       have q1 : (0 : Int) ≤ (rk : Int) := Int.natCast_nonneg _
       have q2 : (rk : Int) ≤ (r : Int) := by omega
       have hcut := cut_from (P := Try.prog) 95 22 .i64 Try.underlying95 hi22 1 hsz22 (some ⟨G, 0, none⟩) r cap6 (rk : Int) q1 q2
       rw [Int.toNat_natCast, show r - rk = (listOf (r - rk) (fun t => lineB h D (rk + t))).length by rw [listOf_len]] at hcut
       obtain ⟨At, hAt⟩ : ∃ A1, A1 = (if cap6 = rk then some (⟨G, 0, none⟩ : Addr) else (some (⟨G, 0, none⟩ : Addr)).map (·.add (rk * 1))) := ⟨_, rfl⟩
       obtain ⟨ct, hct⟩ : ∃ c1, c1 = cap6 - rk := ⟨_, rfl⟩
       rw [← hAt, ← hct] at hcut
       have HTAIL := Aside0.mk (show ∀ W : World, Rw W w.heap.size (.slice (some ⟨G, 0, none⟩) r cap6) D r gs (lineB h D) → Kd.C (Kd.slice 2 (Kd.int .i64)) W At (listOf (r - rk) (fun t => lineB h D (rk + t))).length (listOf (r - rk) (fun t => lineB h D (rk + t))) from fun W hW => by
        have h1 := (Kd.R_reads' hW.toR).2.2
        have h2 := Kd.C_drop (m := rk) (c := cap6) h1 (by rw [listOf_len]; omega) (by rw [listOf_len]; exact hcap6)
        rw [drop_rows _ _ _ (by omega)] at h2
        rw [hAt]
        exact h2)
       have HCT := Aside0.mk (show (listOf (r - rk) (fun t => lineB h D (rk + t))).length ≤ ct by rw [listOf_len, hct]; omega)
       have hix := index_eq h D cc (r - rk) rk hcD (by omega) K (by omega)
       clear hAt hct
       have HLT := Aside0.mk (show ∀ i, i < r → ∀ g, wr.heap.size ≤ g → (gs i).1 ≠ g from fun i hi g hg e => by have := HRW.out.lt hi; omega)
       cases hpv : piv h cc (r - rk) rk with
       | none =>
        have HIX := Aside0.mk (show slices_IndexFunc_int64_int64.f K (listOf (r - rk) (fun t => lineB h D (rk + t))) (cc : Int) = some (-1) by rw [hix]; unfold pivI; rw [hpv])
        have HPV := Aside0.mk hpv
        clear hix hpv
        go_wp2_with (first | ((with_reducible refine gate_dst (N := 9) rfl ?_); refine box_event ?hg (N := 9) ?hd (cs := #[.int .i64 0]) (t := 2) ?hr ?_; (case hd => rfl); (case hg => rfl); (case hr => first | (go_simp; done) | (go_simp; rfl)); intro g9 hg9 w9 hbox hb9; have BK9 := Aside0.mk hbox; have HB9 := Aside0.mk hb9; have HG9 := Aside0.mk (show wr.heap.size ≤ g9 by rw [hg9]; exact Nat.le_refl _); clear hbox hb9 hg9; have hc9_0 := (blk_cell BK9.out 0).trans (show _ = some (Value.int .i64 0) from rfl); have hf9_0 := blk_frozen BK9.out 0) | ((with_reducible refine gate_store (t := 2) (p := 9) (v := .tmp 34) rfl ?_); refine store_event (t := 2) (p := 9) (v := .tmp 34) (w1 := (w9.setCell ⟨g9, 0, none⟩ (.int .i64 (cc : Int)))) ?hg ?ho ?hn ?hr ?_; (case ho => rfl); (case hg => rfl); (case hn => rfl); (case hr => first | (go_simp; done) | (go_simp; rfl)); intro w10 hw10; have HBX := Aside0.mk (show Below wr.heap.size wr w10 by rw [hw10]; exact below_set HB9.out HG9.out); clear hc9_0 hf9_0; replace BK9 := Aside0.mk (show w10.heap[g9]? = some (.cells #[.int .i64 (cc : Int)] 2 (0, 0)) by rw [hw10]; exact blk_put BK9.out 0 _ rfl); clear hw10 HB9; replace HRW := Aside0.mk (HRW.out.below HBX.out); replace BK := Aside0.mk (blk_below BK.out HBX.out); replace HB := Aside0.mk (below_step HB.out HBX.out); clear HBX) | (go_at_call 128; (with_reducible refine (slices_IndexFunc_int64_int64.calls K At ct (listOf (r - rk) (fun t => lineB h D (rk + t))) (cc : Int) _ _ (HTAIL.out _ HRW.out) HCT.out g9 ((blk_cell BK9.out 0).trans rfl) HIX.out).mono ?_); rintro e w11 ⟨rfl, ⟨nd, rfl⟩⟩; have HBX := Aside0.mk (pw_below_drewN (Below.refl w10.heap.size w10) nd); replace HRW := Aside0.mk (HRW.out.below HBX.out); replace BK := Aside0.mk (blk_below BK.out HBX.out); replace HB := Aside0.mk (below_step HB.out HBX.out); replace BK9 := Aside0.mk (blk_below BK9.out HBX.out); clear HBX; generalize w10.drewN nd = w11 at HRW BK HB BK9 ⊢))
        go_roundg k2
        case measure => omega
        case rel => exact ⟨cc + 1, rk, gs, h, rfl, by first | rfl | (rw [Int.natCast_add]; rfl), ⟨by have := HI.out; omega⟩, ⟨by omega⟩, ⟨hrk⟩, ⟨by rw [← HRED.out, hdc, red_none HPV.out]⟩, ⟨HRW.out⟩, ⟨BK.out⟩, ⟨HB.out⟩⟩
       | some p =>
        obtain ⟨hp1, hp2, hp3, _⟩ := piv_some hpv
        obtain ⟨q, hq⟩ : ∃ q, p = rk + q := ⟨p - rk, by omega⟩
        have hqr : p < r := by omega
        have HIX := Aside0.mk (show slices_IndexFunc_int64_int64.f K (listOf (r - rk) (fun t => lineB h D (rk + t))) (cc : Int) = some (q : Int) by rw [hix]; unfold pivI; rw [hpv]; show some (((p - rk : Nat)) : Int) = _; rw [hq, Nat.add_sub_cancel_left])
        have HWS := Aside0.mk (show wrap64 ((rk : Int) + (q : Int)) = (p : Int) by rw [hq, ← Int.natCast_add]; exact w_nat (rk + q) (by omega))
        clear hq
        have HPV := Aside0.mk hpv
        clear hix hpv
        have hneg : decide ((q : Int) < 0) = false := decide_eq_false (by omega)
        go_wp2_with (first | ((with_reducible refine gate_dst (N := 9) rfl ?_); refine box_event ?hg (N := 9) ?hd (cs := #[.int .i64 0]) (t := 2) ?hr ?_; (case hd => rfl); (case hg => rfl); (case hr => first | (go_simp; done) | (go_simp; rfl)); intro g9 hg9 w9 hbox hb9; have BK9 := Aside0.mk hbox; have HB9 := Aside0.mk hb9; have HG9 := Aside0.mk (show wr.heap.size ≤ g9 by rw [hg9]; exact Nat.le_refl _); clear hbox hb9 hg9; have hc9_0 := (blk_cell BK9.out 0).trans (show _ = some (Value.int .i64 0) from rfl); have hf9_0 := blk_frozen BK9.out 0) | ((with_reducible refine gate_store (t := 2) (p := 9) (v := .tmp 34) rfl ?_); refine store_event (t := 2) (p := 9) (v := .tmp 34) (w1 := (w9.setCell ⟨g9, 0, none⟩ (.int .i64 (cc : Int)))) ?hg ?ho ?hn ?hr ?_; (case ho => rfl); (case hg => rfl); (case hn => rfl); (case hr => first | (go_simp; done) | (go_simp; rfl)); intro w10 hw10; have HBX := Aside0.mk (show Below wr.heap.size wr w10 by rw [hw10]; exact below_set HB9.out HG9.out); clear hc9_0 hf9_0; replace BK9 := Aside0.mk (show w10.heap[g9]? = some (.cells #[.int .i64 (cc : Int)] 2 (0, 0)) by rw [hw10]; exact blk_put BK9.out 0 _ rfl); clear hw10 HB9; replace HRW := Aside0.mk (HRW.out.below HBX.out); replace BK := Aside0.mk (blk_below BK.out HBX.out); replace HB := Aside0.mk (below_step HB.out HBX.out); clear HBX) | (go_at_call 128; (with_reducible refine (slices_IndexFunc_int64_int64.calls K At ct (listOf (r - rk) (fun t => lineB h D (rk + t))) (cc : Int) _ _ (HTAIL.out _ HRW.out) HCT.out g9 ((blk_cell BK9.out 0).trans rfl) HIX.out).mono ?_); rintro e w11 ⟨rfl, ⟨nd, rfl⟩⟩; have HBX := Aside0.mk (pw_below_drewN (Below.refl w10.heap.size w10) nd); replace HRW := Aside0.mk (HRW.out.below HBX.out); replace BK := Aside0.mk (blk_below BK.out HBX.out); replace HB := Aside0.mk (below_step HB.out HBX.out); replace BK9 := Aside0.mk (blk_below BK9.out HBX.out); clear HBX; generalize w10.drewN nd = w11 at HRW BK HB BK9 ⊢))
        have HBX := Aside0.mk (below_drew (Below.refl w11.heap.size w11)); replace HRW := Aside0.mk (HRW.out.below HBX.out); replace BK := Aside0.mk (blk_below BK.out HBX.out); replace HB := Aside0.mk (below_step HB.out HBX.out); replace BK9 := Aside0.mk (blk_below BK9.out HBX.out); clear HBX
        have hxa := (HRW.out.at_ hqr)
        have hxb := (HRW.out.at_ hrk)
        have p1 := eq_true (show (0 : Int) ≤ ((rk : Nat) : Int) by omega)
        have p2 := eq_true (show ((rk : Nat) : Int) < (r : Int) by omega)
        have p3 := eq_true (show (0 : Int) ≤ ((p : Nat) : Int) by omega)
        have p4 := eq_true (show ((p : Nat) : Int) < (r : Int) by omega)
        obtain ⟨u2, hx2⟩ := HRW.out.at_set (r := rk) hqr (.slice (some ⟨(gs p).1, 0, none⟩) D (gs p).2)
        refine start_ (n := 20) (S := fun w' => w'.cell? ⟨G, p, none⟩ = some (.slice (some ⟨(gs p).1, 0, none⟩) D (gs p).2) ∧ w'.cell? ⟨G, rk, none⟩ = some (.slice (some ⟨(gs rk).1, 0, none⟩) D (gs rk).2)) (ds := [17, 19]) #[false, false, false, false, false, false, false, false, false, false, false, false, false, false, false, false, false, false, false, false] (by kernel_rfl) rfl rfl ⟨hxa.1, hxb.1⟩ (fun hHeld => ?_); refine with_tabW rdc.tab13 rdc.bits13 (fun HT_ HW_ => ?_)
        generalize w11.drew = w12 at HRW BK HB BK9 hxa hxb hx2 hHeld ⊢
        refine Cy.pu 0 42 HT_ ?_
        refine Cy.pu 1 43 HT_ ?_
        refine Cy.pu 2 44 HT_ ?_
        refine Cy.pu 3 45 HT_ ?_
        refine Cy.pu 4 46 HT_ ?_
        refine pure_ (i := 5) (N := some 47) (v := .int .i64 (p : Int)) (a' := ?_) #[true, true, true, true, true, true, false, false, false, false, false, false, false, false, false, false, false, false, false, false] rfl rfl (any_of HT_.out (by kernel_rfl)) (fun _ _ _ h => h) (Or.inl ⟨by rfl, ?_⟩) ?_ ?_
        ·intro w'
         go_simp
         exact (i64_w _).trans HWS.out
        rotate_left
        ·simp only [Act.put, List.setIfInBounds_toArray, List.set_cons_zero, List.set_cons_succ, i64_w, i32_w]
         rfl
        refine Cy.pu 6 48 HT_ ?_
        refine Cy.pu 7 49 HT_ ?_
        refine Cy.pu 8 50 HT_ ?_
        refine pure_ (i := 9) (N := some 51) (v := .int .i64 (p : Int)) (a' := ?_) #[true, true, true, true, true, true, true, true, true, true, false, false, false, false, false, false, false, false, false, false] rfl rfl (any_of HT_.out (by kernel_rfl)) (fun _ _ _ h => h) (Or.inl ⟨by rfl, ?_⟩) ?_ ?_
        ·intro w'
         go_simp
         exact (i64_w _).trans HWS.out
        rotate_left
        ·simp only [Act.put, List.setIfInBounds_toArray, List.set_cons_zero, List.set_cons_succ, i64_w, i32_w]
         rfl
        refine Cy.pu 10 52 HT_ ?_
        refine Cy.tk 11 53 HT_ HW_ hHeld ?_
        refine Cy.pu 12 54 HT_ ?_
        refine Cy.pu 13 55 HT_ ?_
        refine Cy.pu 14 56 HT_ ?_
        refine Cy.tk 15 57 HT_ HW_ hHeld ?_
        refine Cy.pu 16 58 HT_ ?_
        refine last_ (i := 17) (N := none) #[true, true, true, true, true, true, true, true, true, true, true, true, true, true, true, true, true, true, false, false] rfl rfl (one_of HT_.out (by kernel_rfl)) (by decide) (fun K_ hK => ?_)
        refine skip_ (w1 := ?_) (by rfl) rfl ?_ ?_
        rotate_left
        ·go_simp
         rfl
        refine hK.out _ _ ?_
        clear hK K_
        refine Cy.pu 18 59 HT_ ?_
        refine last_ (i := 19) (N := none) #[true, true, true, true, true, true, true, true, true, true, true, true, true, true, true, true, true, true, true, true] rfl rfl (one_of HT_.out (by kernel_rfl)) (by decide) (fun K_ hK => ?_)
        refine skip_ (w1 := ?_) (by rfl) rfl ?_ ?_
        rotate_left
        ·go_simp
         rfl
        refine hK.out _ _ ?_
        clear hK K_
        refine done_ (done_of HT_.out (by kernel_rfl)) ?_
        have HGG := Aside0.mk (HRW.out.form (by omega))
        have HNB := Aside0.mk (show gb ≠ G from (by obtain ⟨G', cap', cells', he', _, _, hc'⟩ := HGG.out; injection he' with he'; injection he' with he'; injection he' with he'; subst he'; exact blk_ne BK.out hc' (by decide)))
        have HN9 := Aside0.mk (show g9 ≠ G from (by obtain ⟨G', cap', cells', he', _, _, hc'⟩ := HGG.out; injection he' with he'; injection he' with he'; injection he' with he'; subst he'; exact blk_ne BK9.out hc' (by decide)))
        clear HGG hxa hxb hx2 hHeld HT_ HW_
        replace HRW := Aside0.mk (show Rw ((w12.setCell ⟨G, rk, none⟩ (.slice (some ⟨(gs p).1, 0, none⟩) D (gs p).2)).setCell ⟨G, p, none⟩ (.slice (some ⟨(gs rk).1, 0, none⟩) D (gs rk).2)) w.heap.size (.slice (some ⟨G, 0, none⟩) r cap6) D r (fun i => gs (swp rk p i)) (lineB (swpH h rk p) D) from HRW.out.swap hrk hqr)
        replace BK := Aside0.mk (blk_far (blk_far BK.out (p := ⟨G, rk, none⟩) HNB.out (.slice (some ⟨(gs p).1, 0, none⟩) D (gs p).2)) (p := ⟨G, p, none⟩) HNB.out (.slice (some ⟨(gs rk).1, 0, none⟩) D (gs rk).2))
        replace BK9 := Aside0.mk (blk_far (blk_far BK9.out (p := ⟨G, rk, none⟩) HN9.out (.slice (some ⟨(gs p).1, 0, none⟩) D (gs p).2)) (p := ⟨G, p, none⟩) HN9.out (.slice (some ⟨(gs rk).1, 0, none⟩) D (gs rk).2))
        replace HB := Aside0.mk (below_set (j := p) (v := .slice (some ⟨(gs rk).1, 0, none⟩) D (gs rk).2) (below_set (j := rk) (v := .slice (some ⟨(gs p).1, 0, none⟩) D (gs p).2) HB.out HG.out) HG.out)
        generalize (w12.setCell ⟨G, rk, none⟩ (.slice (some ⟨(gs p).1, 0, none⟩) D (gs p).2)).setCell ⟨G, p, none⟩ (.slice (some ⟨(gs rk).1, 0, none⟩) D (gs rk).2) = w13 at HRW BK BK9 HB ⊢
        have HLT9 := Aside0.mk (show ∀ i, i < r → (gs (swp rk p i)).1 ≠ g9 from fun i hi => HLT.out _ (swp_lt hrk hqr hi) g9 HG9.out)
        obtain ⟨gs1, hgs1⟩ : ∃ x : Nat → Nat × Nat, x = fun i => gs (swp rk p i) := ⟨_, rfl⟩
        obtain ⟨h1, hh1⟩ : ∃ x : Rd.H, x = swpH h rk p := ⟨_, rfl⟩
        have HH1 := Aside0.mk hh1
        rw [← hgs1, ← hh1] at HRW
        replace HLT9 := Aside0.mk (show ∀ i, i < r → (gs1 i).1 ≠ g9 by rw [hgs1]; exact HLT9.out)
        clear hgs1 hh1 HNB HN9 p3 p4
        try go_wp2
        have HBX := Aside0.mk (below_drew (Below.refl w13.heap.size w13)); replace HRW := Aside0.mk (HRW.out.below HBX.out); replace BK := Aside0.mk (blk_below BK.out HBX.out); replace HB := Aside0.mk (below_step HB.out HBX.out); replace BK9 := Aside0.mk (blk_below BK9.out HBX.out); clear HBX
        have hxr := HRW.out.at_ hrk
        have hxe := HRW.out.cell hrk hcD
        rw [rd_lineB h1 hcD] at hxe
        have hx9 := (blk_cell BK9.out 0).trans (show _ = some (Value.int .i64 (cc : Int)) from rfl)
        have p5 := eq_true (show (0 : Int) ≤ ((cc : Nat) : Int) by omega)
        have p6 := eq_true (show ((cc : Nat) : Int) < (D : Int) by omega)
        refine start_ (n := 13) (S := fun w' => w'.cell? ⟨G, rk, none⟩ = some (.slice (some ⟨(gs1 rk).1, 0, none⟩) D (gs1 rk).2) ∧ w'.cell? ⟨g9, 0, none⟩ = some (.int .i64 (cc : Int)) ∧ w'.cell? ⟨(gs1 rk).1, cc, none⟩ = some (.int .i64 (un (h1 rk cc)))) (ds := [12]) #[false, false, false, false, false, false, false, false, false, false, false, false, false] (by kernel_rfl) rfl rfl ⟨hxr.1, hx9, hxe⟩ (fun hHeld => ?_); refine with_tabW rdc.tab14 rdc.bits14 (fun HT_ HW_ => ?_)
        generalize w13.drew = w14 at HRW BK HB BK9 hxr hxe hx9 hHeld ⊢
        refine Cy.pu 0 60 HT_ ?_
        refine Cy.pu 1 61 HT_ ?_
        refine Cy.pu 2 62 HT_ ?_
        refine Cy.tk 3 63 HT_ HW_ hHeld ?_
        refine Cy.pu 4 64 HT_ ?_
        refine Cy.pu 5 65 HT_ ?_
        refine Cy.pu 6 66 HT_ ?_
        refine Cy.tk 7 67 HT_ HW_ hHeld ?_
        refine Cy.tk 8 68 HT_ HW_ hHeld ?_
        refine Cy.pu 9 69 HT_ ?_
        refine Cy.tk 10 70 HT_ HW_ hHeld ?_
        refine one_ (i := 11) (N := some 71) #[true, true, true, true, true, true, true, true, true, true, true, true, false] rfl rfl (one_of HT_.out (by kernel_rfl)) (by decide) (fun K_ hK => ?_)
        refine goes_ Try.func122 (by kernel_rfl) rfl #[.int .i64 (un (h1 rk cc))] (by rfl) rfl rfl (by (try simp only [List.map_toArray, List.map_cons, List.map_nil]); first | done | rfl) ?_
        refine (impl_inv.calls K (un (h1 rk cc)) (un (Gf.inv (h1 rk cc))) _ (impl_inv_f K (by omega) _)).mono ?_
        rintro e w' ⟨rfl, ⟨nd, rfl⟩⟩
        refine ⟨_, rfl, ?_⟩
        refine hK.out _ _ hHeld (fun hHeld => ?_)
        clear hK K_
        refine norm_ (a' := ?_) ?_ ?_
        rotate_left
        ·show Act.put _ (some 71) _ = _
         simp only [Act.put, List.setIfInBounds_toArray, List.set_cons_zero, List.set_cons_succ, i64_w, i32_w]
         rfl
        have HBX := Aside0.mk (pw_below_drewN (Below.refl w14.heap.size w14) nd); replace HRW := Aside0.mk (HRW.out.below HBX.out); replace BK := Aside0.mk (blk_below BK.out HBX.out); replace HB := Aside0.mk (below_step HB.out HBX.out); replace BK9 := Aside0.mk (blk_below BK9.out HBX.out); clear HBX hxr hxe hx9
        generalize w14.drewN nd = w15 at HRW BK HB BK9 hHeld ⊢
        refine last_ (i := 12) (N := some 72) #[true, true, true, true, true, true, true, true, true, true, true, true, true] rfl rfl (one_of HT_.out (by kernel_rfl)) (by decide) (fun K_ hK => ?_)
        refine goes_ Try.func130 (by kernel_rfl) rfl #[.slice (some ⟨(gs1 rk).1, 0, none⟩) D (gs1 rk).2, .int .i64 (un (Gf.inv (h1 rk cc)))] (by rfl) rfl rfl (by (try simp only [List.map_toArray, List.map_cons, List.map_nil]); first | done | rfl) ?_
        refine (impl_scale.calls K (fun k_ => k_ = (gs1 rk).1) _ (lineB h1 D rk) _ (line (fun j => un (Gf.mul (h1 rk j) (Gf.inv (h1 rk cc)))) D) w w15 HB.out (HRW.out.row rk hrk) (scale_eq (fun j => h1 rk j) (Gf.inv (h1 rk cc)) D (by omega) K (by omega))).mono ?_
        rintro e w16 ⟨rfl, hR, hb, hk⟩
        refine ⟨_, rfl, ?_⟩
        refine hK.out _ _ ?_
        clear hK K_
        refine norm_ (a' := ?_) ?_ ?_
        rotate_left
        ·show Act.put _ (some 72) _ = _
         simp only [Act.put, List.setIfInBounds_toArray, List.set_cons_zero, List.set_cons_succ, i64_w, i32_w]
         rfl
        refine done_ (done_of HT_.out (by kernel_rfl)) ?_
        clear HT_ HW_
        replace BK := Aside0.mk (blk_kept BK.out hk (HRW.out.nb BK.out (by decide) hrk))
        replace BK9 := Aside0.mk (blk_kept BK9.out hk (fun e => HLT9.out rk hrk e.symm))
        replace HRW := Aside0.mk ((HRW.out.put hrk _ hk hR).congr (rows' := lineB (sclH h1 rk (Gf.inv (h1 rk cc))) D) (fun i hi => by
         by_cases hir : i = rk
         ·rw [if_pos hir]
          unfold lineB sclH
          simp only [if_pos hir]
          rw [hir]
         ·rw [if_neg hir]
          unfold lineB sclH
          simp only [if_neg hir]))
        replace HB := Aside0.mk hb
        clear hk hR hb
        obtain ⟨h2, hh2⟩ : ∃ x : Rd.H, x = sclH h1 rk (Gf.inv (h1 rk cc)) := ⟨_, rfl⟩
        have HH2 := Aside0.mk hh2
        rw [← hh2] at HRW
        clear hh2
        try go_wp2
        go_loopg [75] (r + 1) (fun kq v75 w' => ∃ t : Nat, v75 = .int .i64 (t : Int) ∧ Aside0 (t + kq = r + 1) ∧ Aside0 (t ≤ r) ∧ Aside0 (Rw w' w.heap.size (.slice (some ⟨G, 0, none⟩) r cap6) D r gs1 (lineB (elmT h2 rk cc t) D)) ∧ Aside0 (w'.heap[gb]? = some (.cells #[.int .i64 (r : Int), .int .i64 (c : Int), .slice A l.length cap] 27 (0, 0))) ∧ Aside0 (w'.heap[g9]? = some (.cells #[.int .i64 (cc : Int)] 2 (0, 0))) ∧ Aside0 (Below w.heap.size w w'))
        case atStart => exact ⟨0, rfl, ⟨by omega⟩, ⟨by omega⟩, ⟨by rw [elmT_zero]; (with_reducible repeat (first | exact HRW.out | apply Rw.alloc | apply Rw.drewN | apply Rw.drew))⟩, ⟨Cz.b BK.out⟩, ⟨Cz.b BK9.out⟩, ⟨Cz.w HB.out⟩⟩
        case round =>
         clear HB BK HRW BK9 hcz_0 hcz_1
         obtain ⟨t, rfl, HJ, HJR, HRW, BK, BK9, HB⟩ := hrel
         have hcz_0 : wr.cell? ⟨gb, 0, none⟩ = some (.int .i64 (r : Int)) := (blk_cell BK.out 0).trans rfl
         cases gk with
         | zero => exact absurd HJR.out (by have := HJ.out; omega)
         | succ k3 =>
          by_cases ht : (t : Int) < (r : Int)
          ·have ht' : t < r := by omega
           have hxt1 : wr.cell? ⟨G, t, none⟩ = some (.slice (some ⟨(gs1 t).1, 0, none⟩) D (gs1 t).2) := (HRW.out.at_ ht').1
           have p7 := eq_true (show (0 : Int) ≤ ((t : Nat) : Int) by omega)
           have p8 := eq_true ht
           by_cases hne : t = rk
           ·have hbne : ((t : Int) != (rk : Int)) = false := by simp [hne]
            have HNE := Aside0.mk hne
            clear hne
            go_wp2
            go_roundg k3
            case measure => omega
            case rel => exact ⟨t + 1, by first | rfl | (rw [Int.natCast_add]; rfl), ⟨by have := HJ.out; omega⟩, ⟨by omega⟩, ⟨by rw [elmT_same h2 HNE.out]; exact HRW.out⟩, ⟨BK.out⟩, ⟨BK9.out⟩, ⟨HB.out⟩⟩
           ·have hbne : ((t : Int) != (rk : Int)) = true := by simp; omega
            go_wp2
            have HBX := Aside0.mk (below_drew (Below.refl wr.heap.size wr)); replace HRW := Aside0.mk (HRW.out.below HBX.out); replace BK := Aside0.mk (blk_below BK.out HBX.out); replace HB := Aside0.mk (below_step HB.out HBX.out); replace BK9 := Aside0.mk (blk_below BK9.out HBX.out); clear HBX
            have hxr := HRW.out.at_ hrk
            have hxe := HRW.out.cell ht' hcD
            rw [rd_lineB _ hcD] at hxe
            have hx9 := (blk_cell BK9.out 0).trans (show _ = some (Value.int .i64 (cc : Int)) from rfl)
            refine start_ (n := 10) (S := fun w' => w'.cell? ⟨G, rk, none⟩ = some (.slice (some ⟨(gs1 rk).1, 0, none⟩) D (gs1 rk).2) ∧ w'.cell? ⟨g9, 0, none⟩ = some (.int .i64 (cc : Int)) ∧ w'.cell? ⟨(gs1 t).1, cc, none⟩ = some (.int .i64 (un (elmT h2 rk cc t t cc)))) (ds := [9]) #[false, false, false, false, false, false, false, false, false, false] (by kernel_rfl) rfl rfl ⟨hxr.1, hx9, hxe⟩ (fun hHeld => ?_); refine with_tabW rdc.tab19 rdc.bits19 (fun HT_ HW_ => ?_)
            clear hxt1 hcz_0
            generalize wr.drew = w17 at HRW BK HB BK9 hxr hxe hx9 hHeld ⊢
            refine Cy.pu 0 83 HT_ ?_
            refine Cy.pu 1 84 HT_ ?_
            refine Cy.pu 2 85 HT_ ?_
            refine Cy.pu 3 86 HT_ ?_
            refine Cy.tk 4 87 HT_ HW_ hHeld ?_
            refine Cy.pu 5 88 HT_ ?_
            refine Cy.tk 6 89 HT_ HW_ hHeld ?_
            refine Cy.pu 7 90 HT_ ?_
            refine Cy.tk 8 91 HT_ HW_ hHeld ?_
            refine last_ (i := 9) (N := some 92) #[true, true, true, true, true, true, true, true, true, true] rfl rfl (one_of HT_.out (by kernel_rfl)) (by decide) (fun K_ hK => ?_)
            refine goes_ Try.func131 (by kernel_rfl) rfl #[.slice (some ⟨(gs1 t).1, 0, none⟩) D (gs1 t).2, .slice (some ⟨(gs1 rk).1, 0, none⟩) D (gs1 rk).2, .int .i64 (un (elmT h2 rk cc t t cc))] (by rfl) rfl rfl (by (try simp only [List.map_toArray, List.map_cons, List.map_nil]); first | done | rfl) ?_
            have hcall := impl_addTimes.calls K (fun k_ => k_ = (gs1 t).1) (val D (gs1 t)) (lineB (elmT h2 rk cc t) D t) (some ⟨(gs1 rk).1, 0, none⟩) (gs1 rk).2 (lineB (elmT h2 rk cc t) D rk) (un (elmT h2 rk cc t t cc)) (line (fun j => un (elmT h2 rk cc t t j ^^^ Gf.mul (elmT h2 rk cc t rk j) (elmT h2 rk cc t t cc))) D) w w17 HB.out (HRW.out.row t ht') (by rw [lineB_len]; exact Kd.C_kept_own (HRW.out.row rk hrk) (fun k e e' => hne (HRW.out.apart t rk ht' hrk (e'.symm.trans e)))) (by rw [lineB_len]; exact (Kd.R_reads' (HRW.out.row rk hrk)).2.1) (add_eq (fun j => elmT h2 rk cc t t j) (fun j => elmT h2 rk cc t rk j) (elmT h2 rk cc t t cc) D (by omega) K (by omega))
            rw [lineB_len] at hcall
            refine hcall.mono ?_
            rintro e w18 ⟨rfl, hR, hb, hk⟩
            refine ⟨_, rfl, ?_⟩
            refine hK.out _ _ ?_
            clear hK K_ hcall
            refine norm_ (a' := ?_) ?_ ?_
            rotate_left
            ·show Act.put _ (some 92) _ = _
             simp only [Act.put, List.setIfInBounds_toArray, List.set_cons_zero, List.set_cons_succ, i64_w, i32_w]
             rfl
            refine done_ (done_of HT_.out (by kernel_rfl)) ?_
            clear HT_ HW_
            replace BK := Aside0.mk (blk_kept BK.out hk (HRW.out.nb BK.out (by decide) ht'))
            replace BK9 := Aside0.mk (blk_kept BK9.out hk (fun e => HLT9.out t ht' e.symm))
            replace HRW := Aside0.mk ((HRW.out.put ht' _ hk hR).congr (rows' := lineB (elmT h2 rk cc (t + 1)) D) (fun i hi => by
             by_cases hit : i = t
             ·rw [if_pos hit, hit]
              exact line_congr fun j hj => by rw [elmT_step h2 hne]
             ·rw [if_neg hit]
              exact lineB_congr fun j hj => elmT_other h2 hit j))
            replace HB := Aside0.mk hb
            clear hk hR hb
            try go_wp2
            go_roundg k3
            case measure => omega
            case rel => exact ⟨t + 1, by first | rfl | (rw [Int.natCast_add]; rfl), ⟨by have := HJ.out; omega⟩, ⟨by omega⟩, ⟨HRW.out⟩, ⟨BK.out⟩, ⟨BK9.out⟩, ⟨HB.out⟩⟩
          ·have e : t = r := by have := HJR.out; omega
           subst e
           replace HRW := Aside0.mk (HRW.out.congr (rows' := lineB (stpH h cc rk p) D) (fun i hi => lineB_congr fun j hj => by
            rw [elmT_end h2 rk cc hi, HH2.out, HH1.out]
            unfold stpH
            have e : swpH h rk p rk cc = h p cc := by unfold swpH swp; rw [if_pos rfl]
            rw [e]))
           by_cases hrr : rk + 1 = t
           ·have hq1 : decide ((rk : Int) + 1 = (t : Int)) = true := decide_eq_true (by omega)
            have e2 : (red t c 0 0 (h0_inv l c t)) = (stpH h cc rk p, t) := by rw [← HRED.out, hdc, red_last HPV.out hrr, hrr]
            have hwr : (rk : Int) + 1 = (t : Int) := by omega
            go_wp2
            go_ret2
            exact ⟨_, rfl, ⟨gs1, HRW.out⟩, HB.out⟩
           ·have hq1 : decide ((rk : Int) + 1 = (t : Int)) = false := decide_eq_false (by omega)
            go_wp2
            go_roundg k2
            case measure => omega
            case rel => exact ⟨cc + 1, rk + 1, gs1, stpH h cc rk p, by first | rfl | (rw [Int.natCast_add]; rfl), by first | rfl | (rw [Int.natCast_add]; rfl), ⟨by have := HI.out; omega⟩, ⟨by omega⟩, ⟨by omega⟩, ⟨by rw [← HRED.out, hdc, red_some HPV.out hrr]⟩, ⟨HRW.out⟩, ⟨BK.out⟩, ⟨HB.out⟩⟩
      ·have e : c = cc := by have := HIC.out; omega
       subst e
       have HRED2 := HRED.out
       rw [Nat.sub_self] at HRED2
       have e2 : (red r c 0 0 (h0_inv l c r)) = (h, rk) := HRED2.symm
       go_wp2
       go_ret2
       exact ⟨_, rfl, ⟨gs, HRW.out⟩, HB.out⟩
theorem okM_outR {a b : Int} {l : List Int} (h : Pure.FnExactMatrixRight_.okM a b l = true) : ∃ r c : Nat, a = (r : Int) ∧ b = (c : Int) ∧ 1 ≤ r ∧ r ≤ 16 ∧ 1 ≤ c ∧ c ≤ 16 ∧ l.length = r * c ∧ Bytes l := by
 unfold Pure.FnExactMatrixRight_.okM at h
 rw [Bool.and_eq_true, decide_eq_true_iff, List.all_eq_true] at h
 obtain ⟨⟨h1, h2, h3, h4, h5⟩, h6⟩ := h
 obtain ⟨r, rfl⟩ := Int.eq_ofNat_of_zero_le (show 0 ≤ a by omega)
 obtain ⟨c, rfl⟩ := Int.eq_ofNat_of_zero_le (show 0 ≤ b by omega)
 refine ⟨r, c, rfl, rfl, by omega, by omega, by omega, by omega, ?_, fun x hx => ?_⟩
 ·rw [← Int.natCast_mul] at h5
  exact Int.ofNat_inj.1 h5
 ·have := h6 x hx
  unfold Pure.FnExactMatrixRight_.byteB at this
  rw [Bool.and_eq_true, decide_eq_true_iff, decide_eq_true_iff] at this
  exact this
theorem matrixOf_eq (ls : List (List Int)) (h0 : 0 < ls.length) (hl : ls.length ≤ 1000000) (hf : ls.flatten.length ≤ 1000000) (k : Nat) (hk : 2 * ls.length + 2 ≤ k) : impl_matrixOf.f k ls = some ((ls.length : Int), (ls[0].length : Int), ls.flatten) := by
 unfold impl_matrixOf.f impl_size_int64_144.f impl_size_int64_67.f
 rw [Option.bind_some, if_pos (by omega), Option.bind_some, concat_eq ls hl hf k hk, Option.bind_some, show (0 : Int) = ((0 : Nat) : Int) from rfl, rdL_get ls 0 h0]
/-- A row's second part, as a value. -/
def tailV (c D : Nat) (p : Nat × Nat) : Value := .slice (if p.2 = c then some ⟨p.1, 0, none⟩ else (some (⟨p.1, 0, none⟩ : Addr)).map (·.add (c * 1))) (D - c) (p.2 - c)
def mixV (c D n : Nat) (gs : Nat → Nat × Nat) (t : Nat) : List Value := (List.range n).map fun i => if i < t then tailV c D (gs i) else val D (gs i)
theorem mixV_len (c D n : Nat) (gs : Nat → Nat × Nat) (t : Nat) : (mixV c D n gs t).length = n := by unfold mixV; rw [List.length_map, List.length_range]
theorem mixV_get {c D n : Nat} (gs : Nat → Nat × Nat) {t i : Nat} (hi : i < n) : (mixV c D n gs t)[i]? = some (if i < t then tailV c D (gs i) else val D (gs i)) := by
 unfold mixV
 rw [List.getElem?_map, List.getElem?_range hi]
 rfl
theorem mixV_zero (c D n : Nat) (gs : Nat → Nat × Nat) : mixV c D n gs 0 = vals D n gs := by
 unfold mixV vals
 exact List.map_congr_left fun i _ => if_neg (by omega)
theorem mixV_set {c D n : Nat} (gs : Nat → Nat × Nat) {t : Nat} (ht : t < n) : (mixV c D n gs t).set t (tailV c D (gs t)) = mixV c D n gs (t + 1) := by
 apply List.ext_getElem?
 intro i
 by_cases hi : i < n
 ·rw [mixV_get gs hi]
  by_cases e : i = t
  ·subst e
   rw [List.getElem?_set_self (by rw [mixV_len]; exact hi), if_pos (by omega)]
  ·rw [List.getElem?_set_ne (fun h => e h.symm), mixV_get gs hi]
   by_cases h : i < t
   ·rw [if_pos h, if_pos (by omega)]
   ·rw [if_neg h, if_neg (by omega)]
 ·rw [List.getElem?_eq_none (by rw [List.length_set, mixV_len]; omega), List.getElem?_eq_none (by rw [mixV_len]; omega)]
/-- The part of the columns from c on. -/
def shH (c : Nat) (h : Rd.H) : Rd.H := fun i j => h i (c + j)
theorem line_drop (h : Rd.H) (c d i : Nat) : (lineB h (c + d) i).drop c = lineB (shH c h) d i := by
 apply List.ext_getElem?
 intro t
 rw [List.getElem?_drop]
 by_cases ht : t < d
 ·exact (line_get (fun j => un (h i j)) (show c + t < c + d by omega)).trans (line_get (fun j => un (shH c h i j)) ht).symm
 ·rw [List.getElem?_eq_none (by rw [lineB_len]; omega), List.getElem?_eq_none (by rw [lineB_len]; omega)]
theorem tails_C {W : World} {base G cap n c d : Nat} {gs : Nat → Nat × Nat} {h : Rd.H} (hn : n ≤ 100) (ho : W.ownsRow base 22 1 (.slice (some ⟨G, 0, none⟩) n cap) n (mixV c (c + d) n gs n))
  (hr : ∀ i, i < n → Kd.R (Kd.int .i64) 2 W base (fun k => k = (gs i).1) (val (c + d) (gs i)) (lineB h (c + d) i)) :
  Kd.C (Kd.slice 2 (Kd.int .i64)) W (some ⟨G, 0, none⟩) (listOf n (fun i => lineB (shH c h) d i)).length (listOf n (fun i => lineB (shH c h) d i)) := by
 refine ⟨rfl, by rw [listOf_len]; omega, fun hp => ⟨_, rfl, fun j p hj => ?_⟩⟩
 have hjn : j < n := by
  have := (List.getElem?_eq_some_iff.1 hj).1
  rwa [listOf_len] at this
 rw [listOf_get _ hjn] at hj
 injection hj with hj
 subst hj
 have h1 := hr j hjn
 unfold val at h1
 obtain ⟨e1, e2, e3⟩ := Kd.R_reads' h1
 have h2 := Kd.C_drop (m := c) (c := (gs j).2) e3 (by rw [lineB_len]; omega) (by rw [lineB_len]; exact e2)
 rw [line_drop] at h2
 refine ⟨[tailV c (c + d) (gs j)], rfl, ⟨_, (gs j).2 - c, ?_, ?_, h2⟩, fun i u hu => ?_⟩
 ·unfold tailV
  rw [lineB_len, Nat.add_sub_cancel_left]
  rfl
 ·rw [lineB_len]
  omega
 ·match i, hu with
  | 0, hu =>
   injection hu with hu
   subst hu
   rw [add_plain]
   have h3 := ho.cellAt j (by omega)
   rw [mixV_get gs hjn, if_pos hjn] at h3
   show W.cell? ⟨G, j * 1 + 0, none⟩ = _
   rw [Nat.mul_one, Nat.add_zero]
   exact h3
set_option maxHeartbeats 16000000 in
set_option maxRecDepth 100000 in
theorem inverse_calls (K : Nat) (hK : 1000 ≤ K) (n : Nat) (n1 : 1 ≤ n) (n2 : n ≤ 16) (A : Option Addr) (cap : Nat) (l : List Int) (hl : l.length = n * n) (hby : Bytes l) (w : World) (hr0 : Kd.C (Kd.int .i64) w A l.length l) (hcap : l.length ≤ cap) :
  Calls Try.prog 83 #[.agg #[.int .i64 (n : Int), .int .i64 (n : Int), .slice A l.length cap]] w fun e w' => ∃ v2, e = .returned (.tuple #[.agg #[.int .i64 (if (red n n 0 0 (h0_inv l n n)).2 < n then 0 else (n : Int)), .int .i64 (if (red n n 0 0 (h0_inv l n n)).2 < n then 0 else (n : Int)), v2], .bool (if (red n n 0 0 (h0_inv l n n)).2 < n then false else true)]) ∧ Kd.R (Kd.int .i64) 2 w' w.heap.size (fun _ => True) v2 (if (red n n 0 0 (h0_inv l n n)).2 < n then [] else grid (fun i j => un (shH n (red n n 0 0 (h0_inv l n n)).1 i j)) n (n * n)) ∧ Below w.heap.size w w' := by
 have hu27 := Try.underlying27
 have HR0 := Aside0.mk hr0
 have HL := Aside0.mk hl
 have HBY := Aside0.mk hby
 clear hr0 hl hby
 have HB := Aside0.mk (Below.refl w.heap.size w)
 obtain ⟨i0, hi0, _, hsz, _⟩ := info_parts info2
 obtain ⟨D, hD⟩ : ∃ D, D = n + n := ⟨_, rfl⟩
 have HD := Aside0.mk hD
 clear hD
 have hD1 : n ≤ D := by rw [HD.out]; omega
 obtain ⟨h', hh'⟩ : ∃ x, x = (red n n 0 0 (h0_inv l n n)).1 := ⟨_, rfl⟩
 obtain ⟨rk, hrk⟩ : ∃ x, x = (red n n 0 0 (h0_inv l n n)).2 := ⟨_, rfl⟩
 have HRED := fun (gb : Nat) (W : World) (hW : Kd.C (Kd.int .i64) W A l.length l) (hg : W.cell? ⟨gb, 0, none⟩ = some (.int .i64 (n : Int))) => red_inv.calls K hK n n D HD.out n1 n2 n1 n2 A cap l HL.out HBY.out W hW hcap gb hg
 rw [← hh', ← hrk] at HRED
 rw [← hh', ← hrk]
 clear hh' hrk
 by_cases hlt : rk < n
 ·simp only [if_pos hlt]
  have hlt1 : decide ((rk : Int) < (n : Int)) = true := decide_eq_true (by omega)
  go_enter Try.func83, Try.ntmps83
  go_wp2_with (first | ((with_reducible refine gate_dst (N := 1) rfl ?_); refine box_event ?hg (N := 1) ?hd (cs := #[.int .i64 (n : Int), .int .i64 (n : Int), .slice A l.length cap]) (t := 27) ?hr ?_; (case hd => rfl); (case hg => rfl); (case hr => first | (go_simp; done) | (go_simp; rfl)); intro gb hg w3 hbox hb; have n1_ := Aside0.mk (below_step HB.out hb); have BK := Aside0.mk hbox; clear HB; have HB := n1_; clear n1_; clear hb hbox hg) | ((with_reducible refine gate_dst (N := 2) rfl ?_); refine box_event ?hg (N := 2) ?hd (cs := #[.int .i64 0, .int .i64 0, .slice none 0 0]) (t := 27) ?hr ?_; (case hd => rfl); (case hg => rfl); (case hr => first | (go_simp; done) | (go_simp; rfl)); intro gr hg w4 hbox hb; have HNE := Aside0.mk (show gb ≠ gr by rw [hg]; exact Nat.ne_of_lt (blk_lt BK.out)); have HGR := Aside0.mk (show w.heap.size ≤ gr by rw [hg]; exact below_size HB.out); replace BK := Aside0.mk (blk_below BK.out hb); have BR := Aside0.mk hbox; replace HB := Aside0.mk (below_step HB.out hb); clear hb hbox hg; have hcz_0 := (blk_cell BK.out 0).trans (show _ = some (Value.int .i64 (n : Int)) from rfl); have hcz_1 := (blk_cell BK.out 1).trans (show _ = some (Value.int .i64 (n : Int)) from rfl); have hcz_2 := (blk_cell BK.out 2).trans (show _ = some (Value.slice A l.length cap) from rfl)) | (go_at_call 84; refine (HRED gb w4 (Kd.C_below HR0.out HB.out) hcz_0).mono ?_; rintro e w5 ⟨v5, rfl, ⟨gs, hR⟩, hB⟩; clear HRED hcz_0 hcz_1 hcz_2; obtain ⟨G, cap6, cells6, ev6, hG0, hcap6, hblk6⟩ := hR.form (by omega); subst ev6; have HG := Aside0.mk (show w.heap.size ≤ G from Nat.le_trans (below_size HB.out) hG0); have HRW := Aside0.mk (hR.lower (below_size HB.out)); replace BK := Aside0.mk (blk_below BK.out hB); replace BR := Aside0.mk (blk_below BR.out hB); replace HB := Aside0.mk (below_step HB.out hB); have HNG := Aside0.mk (show gb ≠ G from blk_ne BK.out hblk6 (by decide)); have HRG := Aside0.mk (show gr ≠ G from blk_ne BR.out hblk6 (by decide)); clear hR hB hblk6 hG0; have hcz_0 := (blk_cell BK.out 0).trans (show _ = some (Value.int .i64 (n : Int)) from rfl); have hcr_0 := (blk_cell BR.out 0).trans (show _ = some (Value.int .i64 0) from rfl); have hcr_1 := (blk_cell BR.out 1).trans (show _ = some (Value.int .i64 0) from rfl); have hcr_2 := (blk_cell BR.out 2).trans (show _ = some (Value.slice none 0 0) from rfl); have hfr_0 := blk_frozen BR.out 0; have hfr_1 := blk_frozen BR.out 1; have hfr_2 := blk_frozen BR.out 2))
  try go_wp2
  refine bodyPost_ret (results_ct rfl _ _ gr 27 #[.int .i64 0, .int .i64 0, .slice none 0 0] (0, 0) _ rfl (by (with_reducible repeat (first | refine blk_drewN ?_ _ | refine blk_drew ?_ | refine blk_alloc ?_ _)); refine blk_put (cs := #[.int .i64 0, .int .i64 0, .slice none 0 0]) ?_ 2 _ rfl; (with_reducible repeat (first | refine blk_drewN ?_ _ | refine blk_drew ?_ | refine blk_alloc ?_ _)); refine blk_put (cs := #[.int .i64 0, .int .i64 0, .slice none 0 0]) ?_ 1 _ rfl; (with_reducible repeat (first | refine blk_drewN ?_ _ | refine blk_drew ?_ | refine blk_alloc ?_ _)); refine blk_put (cs := #[.int .i64 0, .int .i64 0, .slice none 0 0]) ?_ 0 _ rfl; (with_reducible repeat (first | refine blk_drewN ?_ _ | refine blk_drew ?_ | refine blk_alloc ?_ _)); exact BR.out) Try.underlying27 rfl (by kernel_rfl)) rfl ?_
  exact ⟨_, rfl, Kd.R_nil _ _ _ _ _, (by repeat (first | (with_reducible first | exact HB.out | apply below_alloc | apply pw_below_drewN | apply below_drew1 | refine below_set ?_ HGR.out) | exact HB.out))⟩
 ·simp only [if_neg hlt]
  have hlt1 : decide ((rk : Int) < (n : Int)) = false := decide_eq_false (by omega)
  go_enter Try.func83, Try.ntmps83
  go_wp2_with (first | ((with_reducible refine gate_dst (N := 1) rfl ?_); refine box_event ?hg (N := 1) ?hd (cs := #[.int .i64 (n : Int), .int .i64 (n : Int), .slice A l.length cap]) (t := 27) ?hr ?_; (case hd => rfl); (case hg => rfl); (case hr => first | (go_simp; done) | (go_simp; rfl)); intro gb hg w3 hbox hb; have n1_ := Aside0.mk (below_step HB.out hb); have BK := Aside0.mk hbox; clear HB; have HB := n1_; clear n1_; clear hb hbox hg) | ((with_reducible refine gate_dst (N := 2) rfl ?_); refine box_event ?hg (N := 2) ?hd (cs := #[.int .i64 0, .int .i64 0, .slice none 0 0]) (t := 27) ?hr ?_; (case hd => rfl); (case hg => rfl); (case hr => first | (go_simp; done) | (go_simp; rfl)); intro gr hg w4 hbox hb; have HNE := Aside0.mk (show gb ≠ gr by rw [hg]; exact Nat.ne_of_lt (blk_lt BK.out)); have HGR := Aside0.mk (show w.heap.size ≤ gr by rw [hg]; exact below_size HB.out); replace BK := Aside0.mk (blk_below BK.out hb); have BR := Aside0.mk hbox; replace HB := Aside0.mk (below_step HB.out hb); clear hb hbox hg; have hcz_0 := (blk_cell BK.out 0).trans (show _ = some (Value.int .i64 (n : Int)) from rfl); have hcz_1 := (blk_cell BK.out 1).trans (show _ = some (Value.int .i64 (n : Int)) from rfl); have hcz_2 := (blk_cell BK.out 2).trans (show _ = some (Value.slice A l.length cap) from rfl)) | (go_at_call 84; refine (HRED gb w4 (Kd.C_below HR0.out HB.out) hcz_0).mono ?_; rintro e w5 ⟨v5, rfl, ⟨gs, hR⟩, hB⟩; clear HRED hcz_0 hcz_1 hcz_2; obtain ⟨G, cap6, cells6, ev6, hG0, hcap6, hblk6⟩ := hR.form (by omega); subst ev6; have HG := Aside0.mk (show w.heap.size ≤ G from Nat.le_trans (below_size HB.out) hG0); have HRW := Aside0.mk (hR.lower (below_size HB.out)); replace BK := Aside0.mk (blk_below BK.out hB); replace BR := Aside0.mk (blk_below BR.out hB); replace HB := Aside0.mk (below_step HB.out hB); have HNG := Aside0.mk (show gb ≠ G from blk_ne BK.out hblk6 (by decide)); have HRG := Aside0.mk (show gr ≠ G from blk_ne BR.out hblk6 (by decide)); clear hR hB hblk6 hG0; have hcz_0 := (blk_cell BK.out 0).trans (show _ = some (Value.int .i64 (n : Int)) from rfl); have hcr_0 := (blk_cell BR.out 0).trans (show _ = some (Value.int .i64 0) from rfl); have hcr_1 := (blk_cell BR.out 1).trans (show _ = some (Value.int .i64 0) from rfl); have hcr_2 := (blk_cell BR.out 2).trans (show _ = some (Value.slice none 0 0) from rfl); have hfr_0 := blk_frozen BR.out 0; have hfr_1 := blk_frozen BR.out 1; have hfr_2 := blk_frozen BR.out 2))
  have HVAL := Aside0.mk (show ∀ i, i < n → ∀ W : World, (Instr.slice 22 (.slice (some ⟨(gs i).1, 0, none⟩) D (gs i).2) (some (.int .i64 (n : Int))) none none).run Try.prog W = .ok (tailV n D (gs i)) W from fun i hi W => by
   have h := cut_from (P := Try.prog) 22 2 .i64 Try.underlying22 hi0 1 hsz (some ⟨(gs i).1, 0, none⟩) D (gs i).2 (n : Int) (Int.natCast_nonneg _) (by omega) W
   rw [Int.toNat_natCast] at h
   exact h)
  have HO := Aside0.mk (show w5.ownsRow w.heap.size 22 1 (.slice (some ⟨G, 0, none⟩) n cap6) n (mixV n D n gs 0) by rw [mixV_zero]; exact HRW.out.outer)
  have HRS := Aside0.mk HRW.out.row
  clear HRW hcr_0 hcr_1 hcr_2 hfr_0 hfr_1 hfr_2
  try go_wp2
  go_loopg [21] (n + 1) (fun kq v21 w' => ∃ t : Nat, v21 = .int .i64 (t : Int) ∧ Aside0 (t + kq = n + 1) ∧ Aside0 (t ≤ n) ∧ Aside0 (w'.ownsRow w.heap.size 22 1 (.slice (some ⟨G, 0, none⟩) n cap6) n (mixV n D n gs t)) ∧ Aside0 (∀ i, i < n → Kd.R (Kd.int .i64) 2 w' w.heap.size (fun k => k = (gs i).1) (val D (gs i)) (lineB h' D i)) ∧ Aside0 (w'.heap[gb]? = some (.cells #[.int .i64 (n : Int), .int .i64 (n : Int), .slice A l.length cap] 27 (0, 0))) ∧ Aside0 (w'.heap[gr]? = some (.cells #[.int .i64 0, .int .i64 0, .slice none 0 0] 27 (0, 0))) ∧ Aside0 (Below w.heap.size w w'))
  case atStart => exact ⟨0, rfl, ⟨by omega⟩, ⟨by omega⟩, ⟨HO.out⟩, ⟨HRS.out⟩, ⟨BK.out⟩, ⟨BR.out⟩, ⟨HB.out⟩⟩
  case round =>
   clear HB BK BR HO HRS hcz_0
   obtain ⟨t, rfl, HI, HIR, HO, HRS, BK, BR, HB⟩ := hrel
   cases gk with
   | zero => exact absurd HIR.out (by have := HI.out; omega)
   | succ k1 =>
    by_cases ht : (t : Int) < (n : Int)
    ·have ht' : t < n := by omega
     have hcz_1 := (blk_cell BK.out 1).trans (show _ = some (Value.int .i64 (n : Int)) from rfl)
     have hx : wr.cell? ⟨G, t, none⟩ = some (.slice (some ⟨(gs t).1, 0, none⟩) D (gs t).2) := (HO.out.cellAt t (by omega)).trans ((mixV_get gs ht').trans (by rw [if_neg (Nat.lt_irrefl t)]; rfl))
     have hfx := HO.out.frozenAt t
     have hcut := HVAL.out t ht'
     have p1 := eq_true (show (0 : Int) ≤ ((t : Nat) : Int) by omega)
     have p2 := eq_true ht
     have HTV := Aside0.mk (show tailV n D (gs t) = .slice (if (gs t).2 = n then some ⟨(gs t).1, 0, none⟩ else (some (⟨(gs t).1, 0, none⟩ : Addr)).map (·.add (n * 1))) (D - n) ((gs t).2 - n) from rfl)
     obtain ⟨At, hAt⟩ : ∃ x, x = (if (gs t).2 = n then some ⟨(gs t).1, 0, none⟩ else (some (⟨(gs t).1, 0, none⟩ : Addr)).map (·.add (n * 1))) := ⟨_, rfl⟩
     rw [← hAt] at HTV
     rw [HTV.out] at hcut
     clear hAt
     have HX := Aside0.mk (HO.out.stored t (tailV n D (gs t)))
     rw [mixV_set gs ht', HTV.out] at HX
     go_wp2
     go_roundg k1
     case measure => omega
     case rel => exact ⟨t + 1, by first | rfl | (rw [Int.natCast_add]; rfl), ⟨by have := HI.out; omega⟩, ⟨by omega⟩, ⟨HX.out.1⟩, ⟨fun i hi => Kd.R_far (HRS.out i hi) (fun k e => by obtain ⟨inner, ho⟩ := Kd.R_own (HRS.out i hi); obtain ⟨cs, hc⟩ := own_typed ho _ rfl; obtain ⟨G', _, _, he', _, hc', _⟩ := HO.out.2.resolve_left (fun h => by omega); injection he' with he'; injection he' with he'; injection he' with he'; subst he'; subst e; exact blk_ne hc hc' (by decide)) _⟩, ⟨blk_far BK.out (p := ⟨G, t, none⟩) HNG.out _⟩, ⟨blk_far BR.out (p := ⟨G, t, none⟩) HRG.out _⟩, ⟨below_set HB.out HG.out⟩⟩
    ·have e : n = t := by have := HIR.out; omega
     subst e
     have HC := Aside0.mk (tails_C (n := n) (d := n) (show n ≤ 100 by omega) (by rw [← HD.out]; exact HO.out) (by rw [← HD.out]; exact HRS.out))
     have hls : (listOf n (fun i => lineB (shH n h') n i)).length = n := listOf_len _ _
     have hrows : listOf n (fun i => lineB (shH n h') n i) = rowsH (fun i j => un (shH n h' i j)) n n := rfl
     have hnn := side_le n2 n2
     have hmo : impl_matrixOf.f K (listOf n (fun i => lineB (shH n h') n i)) = some ((n : Int), (n : Int), grid (fun i j => un (shH n h' i j)) n (n * n)) := by
      have h := matrixOf_eq (listOf n (fun i => lineB (shH n h') n i)) (by rw [hls]; omega) (by rw [hls]; omega) (by rw [hrows, rowsH_flat, grid_len]; omega) K (by rw [hls]; omega)
      have e0 := (List.getElem?_eq_some_iff.1 (listOf_get (n := n) (fun i => lineB (shH n h') n i) (show 0 < n by omega))).2
      rw [e0, lineB_len, hrows, rowsH_flat, rowsH_len] at h
      exact h
     have HCALL := impl_matrixOf.calls K (some ⟨G, 0, none⟩) cap6 (listOf n (fun i => lineB (shH n h') n i)) _ _ _ wr HC.out (by rw [hls]; exact hcap6) hmo
     rw [hls] at HCALL
     clear hls hrows hnn hmo
     have hcr_0 := (blk_cell BR.out 0).trans (show _ = some (Value.int .i64 0) from rfl)
     have hcr_1 := (blk_cell BR.out 1).trans (show _ = some (Value.int .i64 0) from rfl)
     have hcr_2 := (blk_cell BR.out 2).trans (show _ = some (Value.slice none 0 0) from rfl)
     have hfr_0 := blk_frozen BR.out 0
     have hfr_1 := blk_frozen BR.out 1
     have hfr_2 := blk_frozen BR.out 2
     go_wp2_with (go_at_call 123; refine HCALL.mono ?_; rintro e w8 ⟨v2, rfl, hR8, hB8⟩; obtain ⟨A2, c2, e2⟩ := Kd.R_slice hR8; subst e2; clear hcr_0 hcr_1 hcr_2 hfr_0 hfr_1 hfr_2; replace BR := Aside0.mk (blk_below BR.out hB8); have HB8 := Aside0.mk (below_size HB.out); replace HB := Aside0.mk (below_step HB.out hB8); have HR8 := Aside0.mk (Kd.R_lower hR8 HB8.out); clear hR8 hB8 HB8; have hcr_0 := (blk_cell BR.out 0).trans (show _ = some (Value.int .i64 0) from rfl); have hcr_1 := (blk_cell BR.out 1).trans (show _ = some (Value.int .i64 0) from rfl); have hcr_2 := (blk_cell BR.out 2).trans (show _ = some (Value.slice none 0 0) from rfl); have hfr_0 := blk_frozen BR.out 0; have hfr_1 := blk_frozen BR.out 1; have hfr_2 := blk_frozen BR.out 2)
     have HR9 := Aside0.mk (Kd.R_types HR8.out BR.out (by decide))
     refine bodyPost_ret (results_ct rfl _ _ gr 27 #[.int .i64 (n : Int), .int .i64 (n : Int), .slice A2 (grid (fun i j => un (shH n h' i j)) n (n * n)).length c2] (0, 0) _ rfl (by (with_reducible repeat (first | refine blk_drewN ?_ _ | refine blk_drew ?_ | refine blk_alloc ?_ _)); refine blk_put (cs := #[.int .i64 (n : Int), .int .i64 (n : Int), .slice none 0 0]) ?_ 2 _ rfl; (with_reducible repeat (first | refine blk_drewN ?_ _ | refine blk_drew ?_ | refine blk_alloc ?_ _)); refine blk_put (cs := #[.int .i64 (n : Int), .int .i64 0, .slice none 0 0]) ?_ 1 _ rfl; (with_reducible repeat (first | refine blk_drewN ?_ _ | refine blk_drew ?_ | refine blk_alloc ?_ _)); refine blk_put (cs := #[.int .i64 0, .int .i64 0, .slice none 0 0]) ?_ 0 _ rfl; (with_reducible repeat (first | refine blk_drewN ?_ _ | refine blk_drew ?_ | refine blk_alloc ?_ _)); exact BR.out) Try.underlying27 rfl (by kernel_rfl)) rfl ?_
     exact ⟨_, rfl, Kd.R_mono (Kd.R_far (p := ⟨gr, 2, none⟩) (Kd.R_far (p := ⟨gr, 1, none⟩) (Kd.R_far (p := ⟨gr, 0, none⟩) HR9.out (fun _ hk => hk.2) _) (fun _ hk => hk.2) _) (fun _ hk => hk.2) _) (fun _ _ => trivial), (by repeat (first | (with_reducible first | exact HB.out | apply below_alloc | apply pw_below_drewN | apply below_drew1 | refine below_set ?_ HGR.out) | exact HB.out))⟩
def impl_Matrix_inverse.f (a0_0 : Int) (a0_1 : Int) (l0_2 : List Int) : Option (Int × Int × List Int × Bool) := if Pure.FnExactMatrixRight_.okM a0_0 a0_1 l0_2 = true ∧ a0_0 = a0_1 then some (if (red a0_0.toNat a0_0.toNat 0 0 (h0_inv l0_2 a0_0.toNat a0_0.toNat)).2 < a0_0.toNat then (0, 0, [], false) else (a0_0, a0_0, grid (fun i j => un (shH a0_0.toNat (red a0_0.toNat a0_0.toNat 0 0 (h0_inv l0_2 a0_0.toNat a0_0.toNat)).1 i j)) a0_0.toNat (a0_0.toNat * a0_0.toNat), true)) else none
theorem impl_Matrix_inverse.calls (a0_0 : Int) (a0_1 : Int) (A0_2 : Option Addr) (c0_2 : Nat) (l0_2 : List Int) (r1 : Int) (r2 : Int) (r3 : List Int) (r4 : Bool) (w : World) (hr0_2 : Kd.C (Kd.int .i64) w A0_2 l0_2.length l0_2) (hc0_2 : l0_2.length ≤ c0_2) (h : impl_Matrix_inverse.f a0_0 a0_1 l0_2 = some (r1, r2, r3, r4)) :
  Calls Try.prog 83 #[.agg #[.int .i64 a0_0, .int .i64 a0_1, .slice A0_2 l0_2.length c0_2]] w fun e w' => ∃ v2_ : Value, e = .returned (.tuple #[.agg #[.int .i64 r1, .int .i64 r2, v2_], .bool r4]) ∧ Kd.R (Kd.int .i64) 2 w' w.heap.size (fun _ => True) v2_ r3 ∧ Below w.heap.size w w' := by
 unfold impl_Matrix_inverse.f at h
 by_cases hok : Pure.FnExactMatrixRight_.okM a0_0 a0_1 l0_2 = true ∧ a0_0 = a0_1
 ·rw [if_pos hok] at h
  obtain ⟨hok, rfl⟩ := hok
  obtain ⟨n, n', hn, hn', r1', r2', c1', c2', hl, hb⟩ := okM_outR hok
  obtain rfl : n = n' := by omega
  subst hn
  have hI := inverse_calls 1000 (Nat.le_refl _) n r1' r2' A0_2 c0_2 l0_2 hl hb w hr0_2 hc0_2
  rw [Int.toNat_natCast] at h
  revert h hI
  split
  ·intro h hI
   simp only [Option.some.injEq, Prod.mk.injEq] at h
   obtain ⟨rfl, rfl, rfl, rfl⟩ := h
   exact hI
  ·intro h hI
   simp only [Option.some.injEq, Prod.mk.injEq] at h
   obtain ⟨rfl, rfl, rfl, rfl⟩ := h
   exact hI
 ·rw [if_neg hok] at h
  cases h
end
end Go.Proofs.Ytlololbhlnapkaa.XFnExactDecode

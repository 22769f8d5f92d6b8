/-
  The law FnExactPieces, over plain values: program and reference cut every text into the same pieces, by every cutting; the answer is new memory. No conditions.
-/
import Derived.Test.YteidgaeonffilaaFieldAid
import Derived.Test.YteidgaeonffilaaFg
import Derived.Test.YteidgaeonffilaaQFnExactPiecesx3
namespace Go.Proofs.Yteidgaeonffilaa.Pure
open Go.RowKit Go.Proofs.Yteidgaeonffilaa.PFnExactPieces Go.Proofs.YteidgaeonffilaaW.PrintWords Go.Proofs.YteidgaeonffilaaW.PrintLast Go.Proofs.YteidgaeonffilaaW.PrintMore Go.Proofs.Yteidgaeonffilaa.FieldAid
set_option linter.unusedVariables false
set_option linter.unusedSimpArgs false

theorem impl_more_l0 (n : Nat) : ∀ (k f b : Nat), n ≤ 8 → n + 1 ≤ k → f < 2147483648 → b < 256 → impl_more.l0 k (f : Int) (b : Int) ((n : Int) - 1) = some ((Fg.bitsGo n f b : Nat) : Int) := by
  induction n with
  | zero =>
    intro k f b _ hk hf hb
    obtain ⟨k, rfl⟩ : ∃ m, k = m + 1 := ⟨k - 1, by omega⟩
    rw [impl_more.l0, if_neg (by omega)]
    rfl
  | succ n ih =>
    intro k f b hn hk hf hb
    obtain ⟨k, rfl⟩ : ∃ m, k = m + 1 := ⟨k - 1, by omega⟩
    have hs : shr .i64 (b : Int) (n : Int) = ((b / 2 ^ n : Nat) : Int) := by
      unfold shr
      rw [show min (n : Int).toNat IntKind.i64.bits = n by rw [show IntKind.i64.bits = 64 from rfl]; omega]
      rw [Int.natCast_ediv, Int.natCast_pow]
      rfl
    have hlt : b / 2 ^ n < 256 := Nat.lt_of_le_of_lt (Nat.div_le_self _ _) hb
    have ho : Go.bits .or .i64 (wrap64 ((f : Int) * 2)) (Go.bits .and .i64 (shr .i64 (b : Int) (n : Int)) 1) = ((2 * f + b / 2 ^ n % 2 : Nat) : Int) := by
      rw [hs, odd_and _ (by omega), show wrap64 ((f : Int) * 2) = ((2 * f : Nat) : Int) by unfold wrap64; omega]
      rw [i64_or _ _ (by omega) (by omega), nat_join 1 (2 * f) _ (by omega) (by omega)]
    rw [impl_more.l0, if_pos (by omega), if_pos (by omega), show ((n + 1 : Nat) : Int) - 1 = (n : Int) by omega, ho]
    rw [show wrap64 ((n : Int) - 1) = (n : Int) - 1 by unfold wrap64; omega]
    have hstep := Fg.step_lt f (b / 2 ^ n % 2) hf (by omega)
    have e := ih k (Fg.step f (b / 2 ^ n % 2)) b (by omega) (by omega) hstep hb
    rw [Fg.bitsGo, ← e]
    unfold Fg.step Fg.red
    by_cases h : (2 * f + b / 2 ^ n % 2) / 2147483648 = 1
    · rw [if_pos (by omega), if_pos h, show (2147483657 : Int) = ((2147483657 : Nat) : Int) from rfl, i64_xor _ _ (by omega) (by omega)]
    · rw [if_neg (by omega), if_neg h]
theorem impl_more_f (k f b : Nat) (hk : 9 ≤ k) (hf : f < 2147483648) (hb : b < 256) : impl_more.f k (f : Int) (b : Int) = some ((Fg.more f b : Nat) : Int) := impl_more_l0 8 k f b (by omega) (by omega) hf hb

theorem spec_l06Shift_l0 (n : Nat) : ∀ (k x : Nat), n ≤ 8 → n + 1 ≤ k → x < 549755813888 → spec_l06Shift.l0 k (x : Int) ((n : Int) + 30) = some ((Fg.downGo n x : Nat) : Int) := by
  induction n with
  | zero =>
    intro k x _ hk hx
    obtain ⟨k, rfl⟩ : ∃ m, k = m + 1 := ⟨k - 1, by omega⟩
    rw [spec_l06Shift.l0, if_neg (by omega)]
    rfl
  | succ n ih =>
    intro k x hn hk hx
    obtain ⟨k, rfl⟩ : ∃ m, k = m + 1 := ⟨k - 1, by omega⟩
    have hw : IntKind.u64.wrap (((n + 1 : Nat) : Int) + 30) = ((31 + n : Nat) : Int) := by rw [IntKind.wrap_u64]; omega
    have hw2 : IntKind.u64.wrap (wrap64 (((n + 1 : Nat) : Int) + 30 - 31)) = (n : Int) := by unfold wrap64; rw [IntKind.wrap_u64]; omega
    have hs : shr .i64 (x : Int) ((31 + n : Nat) : Int) = ((x / 2 ^ (31 + n) : Nat) : Int) := by
      unfold shr
      rw [show min ((31 + n : Nat) : Int).toNat IntKind.i64.bits = 31 + n by rw [show IntKind.i64.bits = 64 from rfl]; omega]
      rw [Int.natCast_ediv, Int.natCast_pow]
      rfl
    have hlt : x / 2 ^ (31 + n) < 549755813888 := Nat.lt_of_le_of_lt (Nat.div_le_self _ _) hx
    have hp : 2 ^ n ≤ 2 ^ 7 := Nat.pow_le_pow_right (by decide) (by omega)
    have hl : shl .i64 2147483657 (n : Int) = ((2147483657 * 2 ^ n : Nat) : Int) := by
      unfold shl
      rw [show min (n : Int).toNat IntKind.i64.bits = n by rw [show IntKind.i64.bits = 64 from rfl]; omega]
      rw [show (2147483657 : Int) * 2 ^ n = ((2147483657 * 2 ^ n : Nat) : Int) by rw [Int.natCast_mul, Int.natCast_pow]; rfl]
      exact i64_fits _ (by omega) (by omega)
    rw [spec_l06Shift.l0, if_pos (by omega), hw, if_pos (by omega), hs, odd_and _ (by omega), hw2, hl, i64_xor _ _ (by omega) (by omega)]
    rw [show wrap64 (((n + 1 : Nat) : Int) + 30 - 1) = (n : Int) + 30 by unfold wrap64; omega, Fg.downGo]
    by_cases h : x / 2 ^ (31 + n) % 2 = 1
    · rw [if_pos (by omega), if_pos (by omega), if_pos h]
      refine ih k _ (by omega) (by omega) ?_
      have := Nat.xor_lt_two_pow (x := x) (y := 2147483657 * 2 ^ n) (n := 39) (by omega) (by omega)
      omega
    · rw [if_neg (by omega), if_neg h]
      exact ih k _ (by omega) (by omega) hx
theorem spec_l06Shift_f (k f b : Nat) (hk : 9 ≤ k) (hf : f < 2147483648) (hb : b < 256) : spec_l06Shift.f k (f : Int) (b : Int) = some ((Fg.more f b : Nat) : Int) := by
  unfold spec_l06Shift.f
  rw [show wrap64 ((f : Int) * 256) = ((f * 256 : Nat) : Int) by unfold wrap64; omega, i64_xor _ _ (by omega) (by omega), ← Fg.down_more f b hf hb]
  have := Nat.xor_lt_two_pow (x := f * 256) (y := b) (n := 39) (by omega) (by omega)
  exact spec_l06Shift_l0 8 k _ (by omega) (by omega) (by omega)

def bts (s : ByteArray) (i : Nat) (d : Nat) : List Nat := match d with
  | 0 => []
  | d + 1 => (bt s (i : Int)).toNat :: bts s (i + 1) d
theorem bt_nat (s : ByteArray) (i : Int) : ((bt s i).toNat : Int) = bt s i ∧ (bt s i).toNat < 256 := by
  have := bt_range s i
  omega
theorem w_bt (s : ByteArray) (i : Int) : wrap64 (bt s i) = ((bt s i).toNat : Int) := by
  have := bt_range s i
  unfold wrap64
  omega

theorem impl_finger_l0 (s : ByteArray) (hs : s.size ≤ 140737488351232) (d : Nat) : ∀ (k i f : Nat), i + d = s.size → d + 10 ≤ k → f < 2147483648 → impl_finger.l0 k s (f : Int) (s.size : Int) (i : Int) = some ((Fg.over f (bts s i d) : Nat) : Int) := by
  induction d with
  | zero =>
    intro k i f hi hk hf
    obtain ⟨k, rfl⟩ : ∃ m, k = m + 1 := ⟨k - 1, by omega⟩
    rw [impl_finger.l0, if_neg (by omega)]
    rfl
  | succ d ih =>
    intro k i f hi hk hf
    obtain ⟨k, rfl⟩ : ∃ m, k = m + 1 := ⟨k - 1, by omega⟩
    rw [impl_finger.l0, if_pos (by omega), if_pos (by omega), if_pos (by omega), w_bt, impl_more_f k f _ (by omega) hf (bt_nat s i).2]
    simp only [Option.bind_some]
    rw [show wrap64 ((i : Int) + 1) = ((i + 1 : Nat) : Int) by unfold wrap64; omega]
    exact ih k (i + 1) _ (by omega) (by omega) (Fg.more_lt _ _ hf)
theorem impl_finger_f (s : ByteArray) (hs : s.size ≤ 140737488351232) (k : Nat) (hk : s.size + 10 ≤ k) : impl_finger.f k s = some ((Fg.over 0 (bts s 0 s.size) : Nat) : Int) := impl_finger_l0 s hs s.size k 0 0 (by omega) hk (by omega)

theorem spec_l06Of_l0 (s : ByteArray) (hs : s.size ≤ 140737488351232) (d : Nat) : ∀ (k i f : Nat), i + d = s.size → d + 10 ≤ k → f < 2147483648 → spec_l06Of.l0 k s (f : Int) (i : Int) = some ((Fg.over f (bts s i d) : Nat) : Int) := by
  induction d with
  | zero =>
    intro k i f hi hk hf
    obtain ⟨k, rfl⟩ : ∃ m, k = m + 1 := ⟨k - 1, by omega⟩
    rw [spec_l06Of.l0, if_neg (by omega)]
    rfl
  | succ d ih =>
    intro k i f hi hk hf
    obtain ⟨k, rfl⟩ : ∃ m, k = m + 1 := ⟨k - 1, by omega⟩
    rw [spec_l06Of.l0, if_pos (by omega), if_pos (by omega), w_bt, spec_l06Shift_f k f _ (by omega) hf (bt_nat s i).2]
    simp only [Option.bind_some]
    rw [show wrap64 ((i : Int) + 1) = ((i + 1 : Nat) : Int) by unfold wrap64; omega]
    exact ih k (i + 1) _ (by omega) (by omega) (Fg.more_lt _ _ hf)
theorem spec_l06Of_f (s : ByteArray) (hs : s.size ≤ 140737488351232) (k : Nat) (hk : s.size + 10 ≤ k) : spec_l06Of.f k s = some ((Fg.over 0 (bts s 0 s.size) : Nat) : Int) := spec_l06Of_l0 s hs s.size k 0 0 (by omega) hk (by omega)

theorem spec_l06Out_l0 (n : Nat) : ∀ (k f : Nat), n ≤ 15 → n + 10 ≤ k → f < 2147483648 → spec_l06Out.l0 k (f : Int) (16 - (n : Int)) = some ((Fg.shifts n f : Nat) : Int) := by
  induction n with
  | zero =>
    intro k f _ hk hf
    obtain ⟨k, rfl⟩ : ∃ m, k = m + 1 := ⟨k - 1, by omega⟩
    rw [spec_l06Out.l0, if_neg (by omega)]
    rfl
  | succ n ih =>
    intro k f hn hk hf
    obtain ⟨k, rfl⟩ : ∃ m, k = m + 1 := ⟨k - 1, by omega⟩
    rw [spec_l06Out.l0, if_pos (by omega), show (0 : Int) = ((0 : Nat) : Int) from rfl, spec_l06Shift_f k f 0 (by omega) hf (by omega)]
    simp only [Option.bind_some]
    rw [show wrap64 (16 - ((n + 1 : Nat) : Int) + 1) = 16 - (n : Int) by unfold wrap64; omega]
    exact ih k _ (by omega) (by omega) (Fg.more_lt _ _ hf)
theorem spec_l06Out_f (k b : Nat) (hk : 25 ≤ k) (hb : b < 256) : spec_l06Out.f k (b : Int) = some ((Fg.shifts 15 b : Nat) : Int) := spec_l06Out_l0 15 k b (by omega) (by omega) (by omega)

theorem bts_length (s : ByteArray) (d : Nat) : ∀ i, (bts s i d).length = d := by
  induction d with
  | zero => intro i; rfl
  | succ d ih => intro i; simp [bts, ih]
theorem bts_snoc (s : ByteArray) (d : Nat) : ∀ i, bts s i (d + 1) = bts s i d ++ [(bt s ((i + d : Nat) : Int)).toNat] := by
  induction d with
  | zero => intro i; rfl
  | succ d ih =>
    intro i
    rw [bts, ih, bts, List.cons_append, show i + 1 + d = i + (d + 1) by omega]
theorem bt_extract (s : ByteArray) (a b i : Nat) (hb : b ≤ s.size) (hi : i < b - a) : bt (s.extract a b) (i : Int) = bt s ((a + i : Nat) : Int) := by
  unfold bt
  have h1 : (i : Int).toNat < (s.extract a b).size := by rw [ByteArray.size_extract]; omega
  have h2 : ((a + i : Nat) : Int).toNat < s.size := by omega
  rw [dif_pos h1, dif_pos h2, ByteArray.getElem_extract]
  rfl
theorem bts_extract (s : ByteArray) (a b : Nat) (hb : b ≤ s.size) (d : Nat) : ∀ i, i + d ≤ b - a → bts (s.extract a b) i d = bts s (a + i) d := by
  induction d with
  | zero => intro i _; rfl
  | succ d ih =>
    intro i h
    rw [bts, bts, bt_extract s a b i hb (by omega), ih (i + 1) (by omega)]
    rfl
def win (s : ByteArray) (n : Nat) : Nat := Fg.over 0 (bts s (n - 16) 16)
theorem win_lt (s : ByteArray) (n : Nat) : win s n < 2147483648 := Fg.over_lt _ _ (by omega)
theorem win_next (s : ByteArray) (n : Nat) (h : 16 ≤ n) : Fg.more (win s n ^^^ Fg.shifts 15 (bt s ((n - 16 : Nat) : Int)).toNat) (bt s (n : Int)).toNat = win s (n + 1) := by
  have e := Fg.roll (bt s ((n - 16 : Nat) : Int)).toNat (bt s (n : Int)).toNat (bts s (n - 16 + 1) 15) (bt_nat s _).2
  rw [bts_length] at e
  unfold win
  rw [show bts s (n - 16) 16 = (bt s ((n - 16 : Nat) : Int)).toNat :: bts s (n - 16 + 1) 15 from rfl, e]
  rw [show n + 1 - 16 = n - 16 + 1 by omega, bts_snoc s 15, show n - 16 + 1 + 15 = n by omega]
theorem finger_win (s : ByteArray) (hs : s.size ≤ 20000) (n k : Nat) (h : 16 ≤ n) (h2 : n ≤ s.size) (hk : 30 ≤ k) : impl_finger.f k (s.extract (n - 16) n) = some ((win s n : Nat) : Int) := by
  have hz : (s.extract (n - 16) n).size = 16 := by rw [ByteArray.size_extract]; omega
  rw [impl_finger_f _ (by omega) k (by omega), hz, bts_extract s (n - 16) n h2 16 0 (by omega)]
  rfl
/-- Both loops find the same place. -/
theorem cut_loop (s : ByteArray) (hs : s.size ≤ 20000) (most : Nat) (hm : most ≤ s.size) (mask : Int) (d : Nat) : ∀ (k n : Nat), n + d = most → 16 ≤ n → d + 60 ≤ k →
    ∃ r : Nat, n ≤ r ∧ r ≤ most ∧ impl_cutAt.l0 k s mask (most : Int) (n : Int) = some (r : Int) ∧ spec_l06Cut.l0 k s (most : Int) mask ((win s n : Nat) : Int) (n : Int) = some (r : Int) := by
  induction d with
  | zero =>
    intro k n hn h16 hk
    obtain ⟨k, rfl⟩ : ∃ m, k = m + 1 := ⟨k - 1, by omega⟩
    obtain rfl : n = most := by omega
    refine ⟨n, by omega, by omega, ?_, ?_⟩
    · have hw : wrap64 ((n : Int) - 16) = ((n - 16 : Nat) : Int) := by unfold wrap64; omega
      rw [impl_cutAt.l0, if_pos (by omega), hw, if_pos (by omega), if_pos (by omega), if_pos (by omega)]
      rw [Int.toNat_natCast, Int.toNat_natCast, finger_win s hs n k h16 hm (by omega)]
      simp only [Option.bind_some]
      by_cases h : Go.bits .and .i64 ((win s n : Nat) : Int) mask = mask
      · rw [if_pos h]
      · rw [if_neg h]
        obtain ⟨k, rfl⟩ : ∃ m, k = m + 1 := ⟨k - 1, by omega⟩
        rw [impl_cutAt.l0, if_neg (by unfold wrap64; omega)]
    · rw [spec_l06Cut.l0, if_neg (by omega)]
  | succ d ih =>
    intro k n hn h16 hk
    obtain ⟨k, rfl⟩ : ∃ m, k = m + 1 := ⟨k - 1, by omega⟩
    have hw : wrap64 ((n : Int) - 16) = ((n - 16 : Nat) : Int) := by unfold wrap64; omega
    have hw1 : wrap64 ((n : Int) + 1) = ((n + 1 : Nat) : Int) := by unfold wrap64; omega
    obtain ⟨r, h1, h2, e1, e2⟩ := ih k (n + 1) (by omega) (by omega) (by omega)
    rw [impl_cutAt.l0, spec_l06Cut.l0, if_pos (show (n : Int) ≤ (most : Int) by omega), if_pos (show (n : Int) < (most : Int) by omega), hw]
    rw [if_pos (show 0 ≤ ((n - 16 : Nat) : Int) by omega), if_pos (show ((n - 16 : Nat) : Int) ≤ (n : Int) by omega), if_pos (show (n : Int) ≤ (s.size : Int) by omega)]
    rw [Int.toNat_natCast, Int.toNat_natCast, finger_win s hs n k h16 (by omega) (by omega), hw1]
    simp only [Option.bind_some]
    by_cases h : Go.bits .and .i64 ((win s n : Nat) : Int) mask = mask
    · refine ⟨n, by omega, by omega, ?_, ?_⟩
      · rw [if_pos h]
      · rw [if_pos h]
    · refine ⟨r, by omega, h2, ?_, ?_⟩
      · rw [if_neg h]
        exact e1
      · rw [if_neg h, if_pos (show 0 ≤ ((n - 16 : Nat) : Int) by omega), if_pos (show ((n - 16 : Nat) : Int) < (s.size : Int) by omega), w_bt, spec_l06Out_f k _ (by omega) (bt_nat s _).2]
        simp only [Option.bind_some]
        rw [if_pos (show 0 ≤ (n : Int) by omega), if_pos (show (n : Int) < (s.size : Int) by omega), w_bt]
        have hsh := Fg.shifts_lt 15 (bt s ((n - 16 : Nat) : Int)).toNat (by have := (bt_nat s ((n - 16 : Nat) : Int)).2; omega)
        have hx : win s n ^^^ Fg.shifts 15 (bt s ((n - 16 : Nat) : Int)).toNat < 2147483648 := Nat.xor_lt_two_pow (n := 31) (win_lt s n) hsh
        have hwl := win_lt s n
        rw [i64_xor _ _ (by omega) (by omega), spec_l06Shift_f k _ _ (by omega) hx (bt_nat s _).2, win_next s n h16]
        exact e2
theorem cut_same (s : ByteArray) (hs : s.size ≤ 20000) (a b c : Int) (h1 : 16 ≤ a) (h2 : a ≤ 1000) (h3 : 0 ≤ b) (h4 : b ≤ 12) (h5 : a ≤ c) (h6 : c ≤ 2000) (k : Nat) (hk : 2100 ≤ k) :
    ∃ r : Nat, r ≤ s.size ∧ (0 < s.size → 0 < r) ∧ spec_l06Cut.f k a b c s = some (r : Int) ∧ impl_cutAt.f k a b c s = some (r : Int) := by
  obtain ⟨a, rfl⟩ := Int.eq_ofNat_of_zero_le (show 0 ≤ a by omega)
  obtain ⟨most, hmost, hmd⟩ : ∃ m : Nat, mn c (s.size : Int) = (m : Int) ∧ ((m : Int) = c ∧ c ≤ s.size ∨ m = s.size ∧ (s.size : Int) ≤ c) := by
    unfold mn
    by_cases h : c ≤ (s.size : Int)
    · exact ⟨c.toNat, by omega, by omega⟩
    · exact ⟨s.size, by omega, by omega⟩
  have hmin : spec_l01Min.f c (s.size : Int) = some (most : Int) := by
    unfold spec_l01Min.f
    by_cases h : c < (s.size : Int)
    · rw [if_pos h]
      congr 1
      omega
    · rw [if_neg h]
      congr 1
      omega
  unfold spec_l06Cut.f impl_cutAt.f impl_long.f
  rw [hmin, if_pos h3]
  simp only [Option.bind_some]
  rw [hmost]
  have hub : IntKind.u64.wrap b = b := by rw [IntKind.wrap_u64]; omega
  rw [hub]
  by_cases hlt : (most : Int) < (a : Int)
  · refine ⟨most, by omega, by omega, ?_, ?_⟩
    · rw [if_pos hlt]
    · obtain ⟨k, rfl⟩ : ∃ m, k = m + 1 := ⟨k - 1, by omega⟩
      rw [impl_cutAt.l0, if_neg (by omega)]
  · obtain ⟨r, r1, r2, e1, e2⟩ := cut_loop s hs most (by omega) (wrap64 ((shl .i64 1 b) - 1)) (most - a) k a (by omega) (by omega) (by omega)
    refine ⟨r, by omega, by omega, ?_, e1⟩
    have hw : wrap64 ((a : Int) - 16) = ((a - 16 : Nat) : Int) := by unfold wrap64; omega
    rw [if_neg hlt, if_pos h3, hw, if_pos (by omega), if_pos (by omega), if_pos (by omega), Int.toNat_natCast, Int.toNat_natCast]
    have hz : (s.extract (a - 16) a).size = 16 := by rw [ByteArray.size_extract]; omega
    rw [spec_l06Of_f _ (by omega) k (by omega), hz, bts_extract s (a - 16) a (by omega) 16 0 (by omega)]
    simp only [Option.bind_some]
    exact e2
theorem right_same (a b c : Int) : impl_CuttingRight.f a b c = spec_CuttingRight.f a b c ∧ (spec_CuttingRight.f a b c = some false ∨ (spec_CuttingRight.f a b c = some true ∧ 16 ≤ a ∧ a ≤ 1000 ∧ 0 ≤ b ∧ b ≤ 12 ∧ a ≤ c ∧ c ≤ 2000)) := by
  unfold spec_CuttingRight.f impl_CuttingRight.f impl_within.f
  by_cases h1 : a ≥ 16 <;> by_cases h2 : a ≤ 1000 <;> by_cases h3 : b ≥ 0 <;> by_cases h4 : b ≤ 12 <;> by_cases h5 : c ≥ a <;> by_cases h6 : c ≤ 2000 <;> simp [h1, h2, h3, h4, h5, h6]

theorem markText_l0 (n : Nat) : ∀ (x : Int) (acc : ByteArray), 0 ≤ x → x < 10 ^ n → x ≤ 9223372036854775807 → acc.size + n ≤ 1000 → ∃ t : ByteArray, ∀ k, n + 1 ≤ k → laws_markText.l0 k x acc = some t := by
  induction n with
  | zero =>
    intro x acc h0 h1 hl ha
    obtain rfl : x = 0 := by simp at h1; omega
    refine ⟨(⟨#[109]⟩ : ByteArray) ++ acc, fun k hk => ?_⟩
    obtain ⟨k, rfl⟩ : ∃ m, k = m + 1 := ⟨k - 1, by omega⟩
    rw [laws_markText.l0, if_neg (by omega), if_pos (by omega)]
  | succ n ih =>
    intro x acc h0 h1 hl ha
    by_cases hx : x > 0
    · have hz : (strOfNums [(wrap64 (48 + (Int.tmod x 10))) % 256]).size = 1 := by simp [strOfNums, ByteArray.size]
      have hq : wrap64 (Int.tdiv x 10) = x / 10 := by
        rw [Int.tdiv_eq_ediv_of_nonneg h0]
        unfold wrap64
        omega
      have hp : x / 10 < 10 ^ n := by
        rw [Int.pow_succ] at h1
        exact Int.ediv_lt_of_lt_mul (by omega) h1
      obtain ⟨t, ht⟩ := ih (x / 10) (strOfNums [(wrap64 (48 + (Int.tmod x 10))) % 256] ++ acc) (by omega) hp (by omega) (by rw [ByteArray.size_append, hz]; omega)
      refine ⟨t, fun k hk => ?_⟩
      obtain ⟨k, rfl⟩ : ∃ m, k = m + 1 := ⟨k - 1, by omega⟩
      rw [laws_markText.l0, if_pos hx]
      simp only [Option.bind_some]
      rw [if_pos (by omega), hq]
      exact ht k (by omega)
    · obtain rfl : x = 0 := by omega
      refine ⟨(⟨#[109]⟩ : ByteArray) ++ acc, fun k hk => ?_⟩
      obtain ⟨k, rfl⟩ : ∃ m, k = m + 1 := ⟨k - 1, by omega⟩
      rw [laws_markText.l0, if_neg (by omega), if_pos (by omega)]
theorem markText_all : ∃ M : Int → ByteArray, ∀ x : Int, 0 < x → x ≤ 9223372036854775807 → ∀ k, 25 ≤ k → laws_markText.f k x = some (M x) := by
  have h : ∀ x : Int, ∃ t : ByteArray, 0 < x → x ≤ 9223372036854775807 → ∀ k, 25 ≤ k → laws_markText.f k x = some t := by
    intro x
    by_cases h0 : 0 < x ∧ x ≤ 9223372036854775807
    · obtain ⟨t, ht⟩ := markText_l0 20 x ⟨#[]⟩ (by omega) (by omega) h0.2 (by decide)
      refine ⟨t, fun _ _ k hk => ?_⟩
      unfold laws_markText.f
      rw [if_neg (by omega)]
      exact ht k (by omega)
    · exact ⟨⟨#[]⟩, fun a b => absurd ⟨a, b⟩ h0⟩
  exact ⟨fun x => Classical.choose (h x), fun x => Classical.choose_spec (h x)⟩

theorem markStrs_l0 (M : Int → ByteArray) (hM : ∀ x : Int, 0 < x → x ≤ 9223372036854775807 → ∀ k, 25 ≤ k → laws_markText.f k x = some (M x)) (s : Int) (hs : 0 < s) (d : Nat) :
    ∀ (k i : Nat) (l : List ByteArray), i + d = l.length → s + l.length ≤ 1000000000 → d + 30 ≤ k → (∀ j, j < i → l[j]? = some (M (s + j))) →
    ∃ l' : List ByteArray, laws_markStringS.l0 k l (s + i) i = some (s + l.length, l') ∧ l'.length = l.length ∧ ∀ j, j < l.length → l'[j]? = some (M (s + j)) := by
  induction d with
  | zero =>
    intro k i l hi hl hk h
    obtain ⟨k, rfl⟩ : ∃ m, k = m + 1 := ⟨k - 1, by omega⟩
    refine ⟨l, ?_, rfl, fun j hj => h j (by omega)⟩
    rw [laws_markStringS.l0, if_neg (by omega)]
    congr 2
    omega
  | succ d ih =>
    intro k i l hi hl hk h
    obtain ⟨k, rfl⟩ : ∃ m, k = m + 1 := ⟨k - 1, by omega⟩
    have hset : (l.set i (M (s + i))).length = l.length := List.length_set ..
    obtain ⟨l', e, h1, h2⟩ := ih k (i + 1) (l.set i (M (s + i))) (by omega) (by omega) (by omega) (by
      intro j hj
      by_cases hji : j = i
      · subst hji
        rw [List.getElem?_set_self (by omega)]
      · rw [List.getElem?_set_ne (by omega)]
        exact h j (by omega))
    rw [hset] at e h1 h2
    refine ⟨l', ?_, h1, h2⟩
    rw [laws_markStringS.l0, if_pos (by omega), hM _ (by omega) (by omega) k (by omega)]
    simp only [Option.bind_some]
    rw [if_pos (by omega), Int.toNat_natCast, show wrap64 (s + (i : Int) + 1) = s + ((i + 1 : Nat) : Int) by unfold wrap64; omega, show wrap64 ((i : Int) + 1) = ((i + 1 : Nat) : Int) by unfold wrap64; omega]
    exact e
theorem heldStrs_l0 (M : Int → ByteArray) (hM : ∀ x : Int, 0 < x → x ≤ 9223372036854775807 → ∀ k, 25 ≤ k → laws_markText.f k x = some (M x)) (s : Int) (hs : 0 < s) (l : List ByteArray) (hl : s + l.length ≤ 1000000000) (h : ∀ j, j < l.length → l[j]? = some (M (s + j))) (d : Nat) :
    ∀ (k i : Nat), i + d = l.length → d + 30 ≤ k → laws_heldStringS.l0 k l (s + i) i = some (s + l.length) := by
  induction d with
  | zero =>
    intro k i hi hk
    obtain ⟨k, rfl⟩ : ∃ m, k = m + 1 := ⟨k - 1, by omega⟩
    rw [laws_heldStringS.l0, if_neg (by omega)]
    congr 1
    omega
  | succ d ih =>
    intro k i hi hk
    obtain ⟨k, rfl⟩ : ∃ m, k = m + 1 := ⟨k - 1, by omega⟩
    have hr : rdOf ByteArray.empty l (i : Int) = M (s + i) := by
      unfold rdOf
      rw [Int.toNat_natCast, List.getD_eq_getElem?_getD, h i (by omega), Option.getD_some]
    rw [laws_heldStringS.l0, if_pos (by omega), if_pos (by omega), hM _ (by omega) (by omega) k (by omega)]
    simp only [Option.bind_some]
    rw [hr, if_pos rfl, show wrap64 (s + (i : Int) + 1) = s + ((i + 1 : Nat) : Int) by unfold wrap64; omega, show wrap64 ((i : Int) + 1) = ((i + 1 : Nat) : Int) by unfold wrap64; omega]
    exact ih k (i + 1) (by omega) (by omega)
/-- marked, and held: what is marked is found so again. -/
theorem marks_strs (l : List ByteArray) (s : Int) (hs : 0 < s) (hl : s + l.length ≤ 1000000000) (k : Nat) (hk : l.length + 30 ≤ k) :
    ∃ l', laws_markStringS.f k l s = some (s + l.length, l') ∧ l'.length = l.length ∧ laws_heldStringS.f k l' s = some (s + l.length) := by
  obtain ⟨M, hM⟩ := markText_all
  obtain ⟨l', e, h1, h2⟩ := markStrs_l0 M hM s hs l.length k 0 l (by omega) hl hk (fun j hj => absurd hj (by omega))
  have z : s + ((0 : Nat) : Int) = s := by omega
  refine ⟨l', ?_, h1, ?_⟩
  · rw [z] at e
    exact e
  · have e2 := heldStrs_l0 M hM s hs l' (by omega) (fun j hj => h2 j (by omega)) l'.length k 0 (by omega) (by omega)
    rw [h1, z] at e2
    exact e2
theorem eqStrs_l0 (l : List ByteArray) (d : Nat) : ∀ (k i : Nat), i + d = l.length → l.length ≤ 1000000000 → d + 1 ≤ k → laws_eqStringS.l0 k l l i = some true := by
  induction d with
  | zero =>
    intro k i hi hl hk
    obtain ⟨k, rfl⟩ : ∃ m, k = m + 1 := ⟨k - 1, by omega⟩
    rw [laws_eqStringS.l0, if_neg (by omega)]
  | succ d ih =>
    intro k i hi hl hk
    obtain ⟨k, rfl⟩ : ∃ m, k = m + 1 := ⟨k - 1, by omega⟩
    rw [laws_eqStringS.l0, if_pos (by omega), if_pos (by omega), if_pos (by omega), if_pos rfl, show wrap64 ((i : Int) + 1) = ((i + 1 : Nat) : Int) by unfold wrap64; omega]
    exact ih k (i + 1) (by omega) hl (by omega)
theorem eqStrs (l : List ByteArray) (hl : l.length ≤ 1000000000) (k : Nat) (hk : l.length + 1 ≤ k) : laws_eqStringS.f k l l = some true := by
  unfold laws_eqStringS.f
  rw [if_pos rfl]
  exact eqStrs_l0 l l.length k 0 (by omega) hl hk

theorem pieces_loop (a b c : Int) (h1 : 16 ≤ a) (h2 : a ≤ 1000) (h3 : 0 ≤ b) (h4 : b ≤ 12) (h5 : a ≤ c) (h6 : c ≤ 2000) (n : Nat) : ∀ (k : Nat) (s : ByteArray) (acc : List ByteArray), s.size ≤ n → s.size ≤ 20000 → acc.length + s.size ≤ 20000 → n + 2101 ≤ k →
    ∃ l, spec_l06Pieces.l0 k s acc a b c = some l ∧ impl_pieces.l0 k s acc a b c = some l ∧ l.length ≤ 20000 := by
  induction n with
  | zero =>
    intro k s acc hn hs ha hk
    obtain ⟨k, rfl⟩ : ∃ m, k = m + 1 := ⟨k - 1, by omega⟩
    have hz : s.size = 0 := by omega
    have he : s.toList = ([] : List UInt8) := by
      have : s.toList.length = s.size := by rw [ByteArray.toList_eq, data_length]
      exact List.eq_nil_of_length_eq_zero (by omega)
    refine ⟨acc, ?_, ?_, by omega⟩
    · rw [spec_l06Pieces.l0, if_neg (by omega)]
    · rw [impl_pieces.l0, if_pos he]
  | succ n ih =>
    intro k s acc hn hs ha hk
    obtain ⟨k, rfl⟩ : ∃ m, k = m + 1 := ⟨k - 1, by omega⟩
    by_cases hz : s.size = 0
    · have he : s.toList = ([] : List UInt8) := by
        have : s.toList.length = s.size := by rw [ByteArray.toList_eq, data_length]
        exact List.eq_nil_of_length_eq_zero (by omega)
      refine ⟨acc, ?_, ?_, by omega⟩
      · rw [spec_l06Pieces.l0, if_neg (by omega)]
      · rw [impl_pieces.l0, if_pos he]
    · have he : ¬ s.toList = ([] : List UInt8) := by
        intro e
        have : s.toList.length = s.size := by rw [ByteArray.toList_eq, data_length]
        rw [e] at this
        exact hz this.symm
      obtain ⟨r, r1, r2, e1, e2⟩ := cut_same s hs a b c h1 h2 h3 h4 h5 h6 k (by omega)
      have hr := r2 (by omega)
      have hsz : (s.extract r s.size).size = s.size - r := by rw [ByteArray.size_extract]; omega
      obtain ⟨l, f1, f2, f3⟩ := ih k (s.extract r s.size) (acc ++ [s.extract 0 r]) (by omega) (by omega) (by simp; omega) (by omega)
      refine ⟨l, ?_, ?_, f3⟩
      · rw [spec_l06Pieces.l0, if_pos (by omega), e1]
        simp only [Option.bind_some]
        rw [if_pos (by omega), if_pos (by omega), if_pos (by omega), Int.toNat_natCast]
        exact f1
      · rw [impl_pieces.l0, if_neg he, e2]
        simp only [Option.bind_some]
        rw [if_pos (by omega), if_pos (by omega), if_pos (by omega), Int.toNat_natCast]
        exact f2
theorem pieces_same (a b c : Int) (s : ByteArray) (k : Nat) (hk : 22200 ≤ k) : ∃ l : List ByteArray, spec_Pieces.f k a b c s = some l ∧ impl_Pieces.f k a b c s = some l ∧ l.length ≤ 20000 := by
  unfold spec_Pieces.f impl_Pieces.f impl_isLong.f
  simp only [Option.bind_some]
  by_cases h1 : (s.size : Int) > 20000
  · exact ⟨[], by rw [if_pos h1], by rw [decide_eq_true h1]; rfl, by simp⟩
  · rw [if_neg h1, decide_eq_false h1]
    obtain ⟨e, hr⟩ := right_same a b c
    rw [e]
    rcases hr with hr | ⟨hr, g1, g2, g3, g4, g5, g6⟩
    · rw [hr]
      exact ⟨[], rfl, rfl, by simp⟩
    · rw [hr]
      obtain ⟨l, f1, f2, f3⟩ := pieces_loop a b c g1 g2 g3 g4 g5 g6 s.size k s [] (Nat.le_refl _) (by omega) (by simp; omega) (by omega)
      refine ⟨l, ?_, ?_, f3⟩
      · simp only [Option.bind_some, if_true]
        unfold spec_l06Pieces.f
        rw [f1]
        rfl
      · simp only [Option.bind_some, if_true, Bool.false_eq_true, if_false]
        unfold impl_pieces.f
        rw [f2]
        rfl

theorem FnExactPieces (a b c : Int) (s : ByteArray) (_ : (Lit.int .i64 a).wf = true) (_ : (Lit.int .i64 b).wf = true) (_ : (Lit.int .i64 c).wf = true) (_ : s.size ≤ 140737488351232) : ∃ k, laws_FnExactPieces.f k a b c s = some true := by
  suffices main : ∀ K : Nat, 22200 ≤ K → laws_FnExactPieces.f K a b c s = some true from ⟨_, main 22200 (by omega)⟩
  intro K hK
  unfold laws_FnExactPieces.f laws_toCutting.f
  by_cases h0 : (s.size : Int) > 1048576
  · rw [if_pos h0]
  · rw [if_neg h0]
    obtain ⟨l, e1, e2, hl⟩ := pieces_same a b c s K hK
    obtain ⟨l', m1, m2, m3⟩ := marks_strs l 1 (by omega) (by omega) K (by omega)
    have hneg : ¬ (1 + (l.length : Int) < 0) := by omega
    simp only [Option.bind_some, e1, e2, eqStrs l (by omega) K (by omega), if_true, m1, m3, hneg, if_false]

end Go.Proofs.Yteidgaeonffilaa.Pure

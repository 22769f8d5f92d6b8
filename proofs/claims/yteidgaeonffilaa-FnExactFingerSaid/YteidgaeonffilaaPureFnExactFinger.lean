/-
  The law FnExactFinger, over plain values: program and reference give the same finger of every text. No conditions.
-/
import Derived.Test.YteidgaeonffilaaFieldAid
import Derived.Test.YteidgaeonffilaaFg
import Derived.Test.YteidgaeonffilaaPFnExactFingerx1
namespace Go.Proofs.Yteidgaeonffilaa.Pure
open Go.RowKit Go.Proofs.Yteidgaeonffilaa.PFnExactFinger Go.Proofs.YteidgaeonffilaaW.PrintWords Go.Proofs.YteidgaeonffilaaW.PrintLast
open Go.Proofs.Yteidgaeonffilaa.FieldAid
set_option linter.unusedVariables false
set_option linter.unusedSimpArgs false


theorem impl_more_l0 (n : Nat) : ∀ (k f b : Nat), n ≤ 8 → n + 1 ≤ k → f < 2147483648 → b < 256 → impl_more.l0 k (f : Int) (b : Int) ((n : Int) - 1) = some ((Fg.bitsGo n f b : Nat) : Int) := by
  induction n with
  | zero =>
    intro k f b _ hk hf hb
    obtain ⟨k, rfl⟩ : ∃ m, k = m + 1 := ⟨k - 1, by omega⟩
    rw [impl_more.l0, if_neg (by omega)]
    rfl
  | succ n ih =>
    intro k f b hn hk hf hb
    obtain ⟨k, rfl⟩ : ∃ m, k = m + 1 := ⟨k - 1, by omega⟩
    have hs : shr .i64 (b : Int) (n : Int) = ((b / 2 ^ n : Nat) : Int) := by
      unfold shr
      rw [show min (n : Int).toNat IntKind.i64.bits = n by rw [show IntKind.i64.bits = 64 from rfl]; omega]
      rw [Int.natCast_ediv, Int.natCast_pow]
      rfl
    have hlt : b / 2 ^ n < 256 := Nat.lt_of_le_of_lt (Nat.div_le_self _ _) hb
    have ho : Go.bits .or .i64 (wrap64 ((f : Int) * 2)) (Go.bits .and .i64 (shr .i64 (b : Int) (n : Int)) 1) = ((2 * f + b / 2 ^ n % 2 : Nat) : Int) := by
      rw [hs, odd_and _ (by omega), show wrap64 ((f : Int) * 2) = ((2 * f : Nat) : Int) by unfold wrap64; omega]
      rw [i64_or _ _ (by omega) (by omega), nat_join 1 (2 * f) _ (by omega) (by omega)]
    rw [impl_more.l0, if_pos (by omega), if_pos (by omega), show ((n + 1 : Nat) : Int) - 1 = (n : Int) by omega, ho]
    rw [show wrap64 ((n : Int) - 1) = (n : Int) - 1 by unfold wrap64; omega]
    have hstep := Fg.step_lt f (b / 2 ^ n % 2) hf (by omega)
    have e := ih k (Fg.step f (b / 2 ^ n % 2)) b (by omega) (by omega) hstep hb
    rw [Fg.bitsGo, ← e]
    unfold Fg.step Fg.red
    by_cases h : (2 * f + b / 2 ^ n % 2) / 2147483648 = 1
    · rw [if_pos (by omega), if_pos h, show (2147483657 : Int) = ((2147483657 : Nat) : Int) from rfl, i64_xor _ _ (by omega) (by omega)]
    · rw [if_neg (by omega), if_neg h]
theorem impl_more_f (k f b : Nat) (hk : 9 ≤ k) (hf : f < 2147483648) (hb : b < 256) : impl_more.f k (f : Int) (b : Int) = some ((Fg.more f b : Nat) : Int) := impl_more_l0 8 k f b (by omega) (by omega) hf hb

theorem spec_l06Shift_l0 (n : Nat) : ∀ (k x : Nat), n ≤ 8 → n + 1 ≤ k → x < 549755813888 → spec_l06Shift.l0 k (x : Int) ((n : Int) + 30) = some ((Fg.downGo n x : Nat) : Int) := by
  induction n with
  | zero =>
    intro k x _ hk hx
    obtain ⟨k, rfl⟩ : ∃ m, k = m + 1 := ⟨k - 1, by omega⟩
    rw [spec_l06Shift.l0, if_neg (by omega)]
    rfl
  | succ n ih =>
    intro k x hn hk hx
    obtain ⟨k, rfl⟩ : ∃ m, k = m + 1 := ⟨k - 1, by omega⟩
    have hw : IntKind.u64.wrap (((n + 1 : Nat) : Int) + 30) = ((31 + n : Nat) : Int) := by rw [IntKind.wrap_u64]; omega
    have hw2 : IntKind.u64.wrap (wrap64 (((n + 1 : Nat) : Int) + 30 - 31)) = (n : Int) := by unfold wrap64; rw [IntKind.wrap_u64]; omega
    have hs : shr .i64 (x : Int) ((31 + n : Nat) : Int) = ((x / 2 ^ (31 + n) : Nat) : Int) := by
      unfold shr
      rw [show min ((31 + n : Nat) : Int).toNat IntKind.i64.bits = 31 + n by rw [show IntKind.i64.bits = 64 from rfl]; omega]
      rw [Int.natCast_ediv, Int.natCast_pow]
      rfl
    have hlt : x / 2 ^ (31 + n) < 549755813888 := Nat.lt_of_le_of_lt (Nat.div_le_self _ _) hx
    have hp : 2 ^ n ≤ 2 ^ 7 := Nat.pow_le_pow_right (by decide) (by omega)
    have hl : shl .i64 2147483657 (n : Int) = ((2147483657 * 2 ^ n : Nat) : Int) := by
      unfold shl
      rw [show min (n : Int).toNat IntKind.i64.bits = n by rw [show IntKind.i64.bits = 64 from rfl]; omega]
      rw [show (2147483657 : Int) * 2 ^ n = ((2147483657 * 2 ^ n : Nat) : Int) by rw [Int.natCast_mul, Int.natCast_pow]; rfl]
      exact i64_fits _ (by omega) (by omega)
    rw [spec_l06Shift.l0, if_pos (by omega), hw, if_pos (by omega), hs, odd_and _ (by omega), hw2, hl, i64_xor _ _ (by omega) (by omega)]
    rw [show wrap64 (((n + 1 : Nat) : Int) + 30 - 1) = (n : Int) + 30 by unfold wrap64; omega, Fg.downGo]
    by_cases h : x / 2 ^ (31 + n) % 2 = 1
    · rw [if_pos (by omega), if_pos (by omega), if_pos h]
      refine ih k _ (by omega) (by omega) ?_
      have := Nat.xor_lt_two_pow (x := x) (y := 2147483657 * 2 ^ n) (n := 39) (by omega) (by omega)
      omega
    · rw [if_neg (by omega), if_neg h]
      exact ih k _ (by omega) (by omega) hx
theorem spec_l06Shift_f (k f b : Nat) (hk : 9 ≤ k) (hf : f < 2147483648) (hb : b < 256) : spec_l06Shift.f k (f : Int) (b : Int) = some ((Fg.more f b : Nat) : Int) := by
  unfold spec_l06Shift.f
  rw [show wrap64 ((f : Int) * 256) = ((f * 256 : Nat) : Int) by unfold wrap64; omega, i64_xor _ _ (by omega) (by omega), ← Fg.down_more f b hf hb]
  have := Nat.xor_lt_two_pow (x := f * 256) (y := b) (n := 39) (by omega) (by omega)
  exact spec_l06Shift_l0 8 k _ (by omega) (by omega) (by omega)

def bts (s : ByteArray) (i : Nat) (d : Nat) : List Nat := match d with
  | 0 => []
  | d + 1 => (bt s (i : Int)).toNat :: bts s (i + 1) d
theorem bt_nat (s : ByteArray) (i : Int) : ((bt s i).toNat : Int) = bt s i ∧ (bt s i).toNat < 256 := by
  have := bt_range s i
  omega
theorem w_bt (s : ByteArray) (i : Int) : wrap64 (bt s i) = ((bt s i).toNat : Int) := by
  have := bt_range s i
  unfold wrap64
  omega

theorem impl_finger_l0 (s : ByteArray) (hs : s.size ≤ 140737488351232) (d : Nat) : ∀ (k i f : Nat), i + d = s.size → d + 10 ≤ k → f < 2147483648 → impl_finger.l0 k s (f : Int) (s.size : Int) (i : Int) = some ((Fg.over f (bts s i d) : Nat) : Int) := by
  induction d with
  | zero =>
    intro k i f hi hk hf
    obtain ⟨k, rfl⟩ : ∃ m, k = m + 1 := ⟨k - 1, by omega⟩
    rw [impl_finger.l0, if_neg (by omega)]
    rfl
  | succ d ih =>
    intro k i f hi hk hf
    obtain ⟨k, rfl⟩ : ∃ m, k = m + 1 := ⟨k - 1, by omega⟩
    rw [impl_finger.l0, if_pos (by omega), if_pos (by omega), if_pos (by omega), w_bt, impl_more_f k f _ (by omega) hf (bt_nat s i).2]
    simp only [Option.bind_some]
    rw [show wrap64 ((i : Int) + 1) = ((i + 1 : Nat) : Int) by unfold wrap64; omega]
    exact ih k (i + 1) _ (by omega) (by omega) (Fg.more_lt _ _ hf)
theorem impl_finger_f (s : ByteArray) (hs : s.size ≤ 140737488351232) (k : Nat) (hk : s.size + 10 ≤ k) : impl_finger.f k s = some ((Fg.over 0 (bts s 0 s.size) : Nat) : Int) := impl_finger_l0 s hs s.size k 0 0 (by omega) hk (by omega)

theorem spec_l06Of_l0 (s : ByteArray) (hs : s.size ≤ 140737488351232) (d : Nat) : ∀ (k i f : Nat), i + d = s.size → d + 10 ≤ k → f < 2147483648 → spec_l06Of.l0 k s (f : Int) (i : Int) = some ((Fg.over f (bts s i d) : Nat) : Int) := by
  induction d with
  | zero =>
    intro k i f hi hk hf
    obtain ⟨k, rfl⟩ : ∃ m, k = m + 1 := ⟨k - 1, by omega⟩
    rw [spec_l06Of.l0, if_neg (by omega)]
    rfl
  | succ d ih =>
    intro k i f hi hk hf
    obtain ⟨k, rfl⟩ : ∃ m, k = m + 1 := ⟨k - 1, by omega⟩
    rw [spec_l06Of.l0, if_pos (by omega), if_pos (by omega), w_bt, spec_l06Shift_f k f _ (by omega) hf (bt_nat s i).2]
    simp only [Option.bind_some]
    rw [show wrap64 ((i : Int) + 1) = ((i + 1 : Nat) : Int) by unfold wrap64; omega]
    exact ih k (i + 1) _ (by omega) (by omega) (Fg.more_lt _ _ hf)
theorem spec_l06Of_f (s : ByteArray) (hs : s.size ≤ 140737488351232) (k : Nat) (hk : s.size + 10 ≤ k) : spec_l06Of.f k s = some ((Fg.over 0 (bts s 0 s.size) : Nat) : Int) := spec_l06Of_l0 s hs s.size k 0 0 (by omega) hk (by omega)

theorem FnExactFinger : laws_FnExactFinger.Pure := by
  intro s hs
  refine ⟨s.size + 10, ?_⟩
  unfold laws_FnExactFinger.f spec_Finger.f impl_Finger.f impl_isLong.f
  by_cases h1 : (s.size : Int) > 1048576
  · rw [if_pos h1]
  · rw [if_neg h1, impl_finger_f s hs _ (Nat.le_refl _), spec_l06Of_f s hs _ (Nat.le_refl _)]
    by_cases h2 : (s.size : Int) > 20000
    · simp [h2]
    · simp [h2]

end Go.Proofs.Yteidgaeonffilaa.Pure

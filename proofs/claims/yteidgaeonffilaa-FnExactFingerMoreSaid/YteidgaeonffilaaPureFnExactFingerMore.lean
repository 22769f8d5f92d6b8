/-
  The law FnExactFingerMore, over plain values: program and reference give the same finger for every two numbers. No conditions.
-/
import Derived.Test.YteidgaeonffilaaFieldAid
import Derived.Test.YteidgaeonffilaaFg
import Derived.Test.YteidgaeonffilaaPFnExactFingerMorex1
namespace Go.Proofs.Yteidgaeonffilaa.Pure
open Go.RowKit Go.Proofs.Yteidgaeonffilaa.PFnExactFingerMore Go.Proofs.YteidgaeonffilaaW.PrintWords Go.Proofs.YteidgaeonffilaaW.PrintLast
open Go.Proofs.Yteidgaeonffilaa.FieldAid
set_option linter.unusedVariables false
set_option linter.unusedSimpArgs false


theorem impl_more_l0 (n : Nat) : ∀ (k f b : Nat), n ≤ 8 → n + 1 ≤ k → f < 2147483648 → b < 256 → impl_more.l0 k (f : Int) (b : Int) ((n : Int) - 1) = some ((Fg.bitsGo n f b : Nat) : Int) := by
  induction n with
  | zero =>
    intro k f b _ hk hf hb
    obtain ⟨k, rfl⟩ : ∃ m, k = m + 1 := ⟨k - 1, by omega⟩
    rw [impl_more.l0, if_neg (by omega)]
    rfl
  | succ n ih =>
    intro k f b hn hk hf hb
    obtain ⟨k, rfl⟩ : ∃ m, k = m + 1 := ⟨k - 1, by omega⟩
    have hs : shr .i64 (b : Int) (n : Int) = ((b / 2 ^ n : Nat) : Int) := by
      unfold shr
      rw [show min (n : Int).toNat IntKind.i64.bits = n by rw [show IntKind.i64.bits = 64 from rfl]; omega]
      rw [Int.natCast_ediv, Int.natCast_pow]
      rfl
    have hlt : b / 2 ^ n < 256 := Nat.lt_of_le_of_lt (Nat.div_le_self _ _) hb
    have ho : Go.bits .or .i64 (wrap64 ((f : Int) * 2)) (Go.bits .and .i64 (shr .i64 (b : Int) (n : Int)) 1) = ((2 * f + b / 2 ^ n % 2 : Nat) : Int) := by
      rw [hs, odd_and _ (by omega), show wrap64 ((f : Int) * 2) = ((2 * f : Nat) : Int) by unfold wrap64; omega]
      rw [i64_or _ _ (by omega) (by omega), nat_join 1 (2 * f) _ (by omega) (by omega)]
    rw [impl_more.l0, if_pos (by omega), if_pos (by omega), show ((n + 1 : Nat) : Int) - 1 = (n : Int) by omega, ho]
    rw [show wrap64 ((n : Int) - 1) = (n : Int) - 1 by unfold wrap64; omega]
    have hstep := Fg.step_lt f (b / 2 ^ n % 2) hf (by omega)
    have e := ih k (Fg.step f (b / 2 ^ n % 2)) b (by omega) (by omega) hstep hb
    rw [Fg.bitsGo, ← e]
    unfold Fg.step Fg.red
    by_cases h : (2 * f + b / 2 ^ n % 2) / 2147483648 = 1
    · rw [if_pos (by omega), if_pos h, show (2147483657 : Int) = ((2147483657 : Nat) : Int) from rfl, i64_xor _ _ (by omega) (by omega)]
    · rw [if_neg (by omega), if_neg h]
theorem impl_more_f (k f b : Nat) (hk : 9 ≤ k) (hf : f < 2147483648) (hb : b < 256) : impl_more.f k (f : Int) (b : Int) = some ((Fg.more f b : Nat) : Int) := impl_more_l0 8 k f b (by omega) (by omega) hf hb

theorem spec_l06Shift_l0 (n : Nat) : ∀ (k x : Nat), n ≤ 8 → n + 1 ≤ k → x < 549755813888 → spec_l06Shift.l0 k (x : Int) ((n : Int) + 30) = some ((Fg.downGo n x : Nat) : Int) := by
  induction n with
  | zero =>
    intro k x _ hk hx
    obtain ⟨k, rfl⟩ : ∃ m, k = m + 1 := ⟨k - 1, by omega⟩
    rw [spec_l06Shift.l0, if_neg (by omega)]
    rfl
  | succ n ih =>
    intro k x hn hk hx
    obtain ⟨k, rfl⟩ : ∃ m, k = m + 1 := ⟨k - 1, by omega⟩
    have hw : IntKind.u64.wrap (((n + 1 : Nat) : Int) + 30) = ((31 + n : Nat) : Int) := by rw [IntKind.wrap_u64]; omega
    have hw2 : IntKind.u64.wrap (wrap64 (((n + 1 : Nat) : Int) + 30 - 31)) = (n : Int) := by unfold wrap64; rw [IntKind.wrap_u64]; omega
    have hs : shr .i64 (x : Int) ((31 + n : Nat) : Int) = ((x / 2 ^ (31 + n) : Nat) : Int) := by
      unfold shr
      rw [show min ((31 + n : Nat) : Int).toNat IntKind.i64.bits = 31 + n by rw [show IntKind.i64.bits = 64 from rfl]; omega]
      rw [Int.natCast_ediv, Int.natCast_pow]
      rfl
    have hlt : x / 2 ^ (31 + n) < 549755813888 := Nat.lt_of_le_of_lt (Nat.div_le_self _ _) hx
    have hp : 2 ^ n ≤ 2 ^ 7 := Nat.pow_le_pow_right (by decide) (by omega)
    have hl : shl .i64 2147483657 (n : Int) = ((2147483657 * 2 ^ n : Nat) : Int) := by
      unfold shl
      rw [show min (n : Int).toNat IntKind.i64.bits = n by rw [show IntKind.i64.bits = 64 from rfl]; omega]
      rw [show (2147483657 : Int) * 2 ^ n = ((2147483657 * 2 ^ n : Nat) : Int) by rw [Int.natCast_mul, Int.natCast_pow]; rfl]
      exact i64_fits _ (by omega) (by omega)
    rw [spec_l06Shift.l0, if_pos (by omega), hw, if_pos (by omega), hs, odd_and _ (by omega), hw2, hl, i64_xor _ _ (by omega) (by omega)]
    rw [show wrap64 (((n + 1 : Nat) : Int) + 30 - 1) = (n : Int) + 30 by unfold wrap64; omega, Fg.downGo]
    by_cases h : x / 2 ^ (31 + n) % 2 = 1
    · rw [if_pos (by omega), if_pos (by omega), if_pos h]
      refine ih k _ (by omega) (by omega) ?_
      have := Nat.xor_lt_two_pow (x := x) (y := 2147483657 * 2 ^ n) (n := 39) (by omega) (by omega)
      omega
    · rw [if_neg (by omega), if_neg h]
      exact ih k _ (by omega) (by omega) hx
theorem spec_l06Shift_f (k f b : Nat) (hk : 9 ≤ k) (hf : f < 2147483648) (hb : b < 256) : spec_l06Shift.f k (f : Int) (b : Int) = some ((Fg.more f b : Nat) : Int) := by
  unfold spec_l06Shift.f
  rw [show wrap64 ((f : Int) * 256) = ((f * 256 : Nat) : Int) by unfold wrap64; omega, i64_xor _ _ (by omega) (by omega), ← Fg.down_more f b hf hb]
  have := Nat.xor_lt_two_pow (x := f * 256) (y := b) (n := 39) (by omega) (by omega)
  exact spec_l06Shift_l0 8 k _ (by omega) (by omega) (by omega)

theorem FnExactFingerMore : laws_FnExactFingerMore.Pure := by
  intro f b _ _
  refine ⟨9, ?_⟩
  unfold laws_FnExactFingerMore.f spec_FingerMore.f impl_FingerMore.f spec_l06Finger.f impl_isFinger.f spec_l02Byte.f impl_isByte.f impl_within.f
  by_cases h1 : f ≥ 0
  · by_cases h2 : f < 2147483648
    · have h2' : f ≤ 2147483647 := by omega
      obtain ⟨f, rfl⟩ := Int.eq_ofNat_of_zero_le h1
      by_cases h3 : b ≥ 0
      · by_cases h4 : b ≤ 255
        · obtain ⟨b, rfl⟩ := Int.eq_ofNat_of_zero_le h3
          have e1 := impl_more_f 9 f b (by omega) (by omega) (by omega)
          have e2 := spec_l06Shift_f 9 f b (by omega) (by omega) (by omega)
          simp only [if_pos h1, if_pos h3, decide_eq_true h2, decide_eq_true h2', decide_eq_true h4, Option.bind_some, if_true, e1, e2]
        · simp [h1, h2, h2', h3, h4]
      · simp [h1, h2, h2', h3]
    · have h2' : ¬ f ≤ 2147483647 := by omega
      simp [h1, h2, h2']
  · simp [h1]

end Go.Proofs.Yteidgaeonffilaa.Pure

/-
  The law FnExactFingerRoll, over plain values: program and reference give the same finger for every three numbers. No conditions.
-/
import Derived.Test.YteidgaeonffilaaFieldAid
import Derived.Test.YteidgaeonffilaaFg
import Derived.Test.YteidgaeonffilaaPFnExactFingerRollx1
namespace Go.Proofs.Yteidgaeonffilaa.Pure
open Go.RowKit Go.Proofs.Yteidgaeonffilaa.PFnExactFingerRoll Go.Proofs.YteidgaeonffilaaW.PrintWords Go.Proofs.YteidgaeonffilaaW.PrintLast
open Go.Proofs.Yteidgaeonffilaa.FieldAid
set_option linter.unusedVariables false
set_option linter.unusedSimpArgs false


theorem impl_more_l0 (n : Nat) : ∀ (k f b : Nat), n ≤ 8 → n + 1 ≤ k → f < 2147483648 → b < 256 → impl_more.l0 k (f : Int) (b : Int) ((n : Int) - 1) = some ((Fg.bitsGo n f b : Nat) : Int) := by
  induction n with
  | zero =>
    intro k f b _ hk hf hb
    obtain ⟨k, rfl⟩ : ∃ m, k = m + 1 := ⟨k - 1, by omega⟩
    rw [impl_more.l0, if_neg (by omega)]
    rfl
  | succ n ih =>
    intro k f b hn hk hf hb
    obtain ⟨k, rfl⟩ : ∃ m, k = m + 1 := ⟨k - 1, by omega⟩
    have hs : shr .i64 (b : Int) (n : Int) = ((b / 2 ^ n : Nat) : Int) := by
      unfold shr
      rw [show min (n : Int).toNat IntKind.i64.bits = n by rw [show IntKind.i64.bits = 64 from rfl]; omega]
      rw [Int.natCast_ediv, Int.natCast_pow]
      rfl
    have hlt : b / 2 ^ n < 256 := Nat.lt_of_le_of_lt (Nat.div_le_self _ _) hb
    have ho : Go.bits .or .i64 (wrap64 ((f : Int) * 2)) (Go.bits .and .i64 (shr .i64 (b : Int) (n : Int)) 1) = ((2 * f + b / 2 ^ n % 2 : Nat) : Int) := by
      rw [hs, odd_and _ (by omega), show wrap64 ((f : Int) * 2) = ((2 * f : Nat) : Int) by unfold wrap64; omega]
      rw [i64_or _ _ (by omega) (by omega), nat_join 1 (2 * f) _ (by omega) (by omega)]
    rw [impl_more.l0, if_pos (by omega), if_pos (by omega), show ((n + 1 : Nat) : Int) - 1 = (n : Int) by omega, ho]
    rw [show wrap64 ((n : Int) - 1) = (n : Int) - 1 by unfold wrap64; omega]
    have hstep := Fg.step_lt f (b / 2 ^ n % 2) hf (by omega)
    have e := ih k (Fg.step f (b / 2 ^ n % 2)) b (by omega) (by omega) hstep hb
    rw [Fg.bitsGo, ← e]
    unfold Fg.step Fg.red
    by_cases h : (2 * f + b / 2 ^ n % 2) / 2147483648 = 1
    · rw [if_pos (by omega), if_pos h, show (2147483657 : Int) = ((2147483657 : Nat) : Int) from rfl, i64_xor _ _ (by omega) (by omega)]
    · rw [if_neg (by omega), if_neg h]
theorem impl_more_f (k f b : Nat) (hk : 9 ≤ k) (hf : f < 2147483648) (hb : b < 256) : impl_more.f k (f : Int) (b : Int) = some ((Fg.more f b : Nat) : Int) := impl_more_l0 8 k f b (by omega) (by omega) hf hb

theorem spec_l06Shift_l0 (n : Nat) : ∀ (k x : Nat), n ≤ 8 → n + 1 ≤ k → x < 549755813888 → spec_l06Shift.l0 k (x : Int) ((n : Int) + 30) = some ((Fg.downGo n x : Nat) : Int) := by
  induction n with
  | zero =>
    intro k x _ hk hx
    obtain ⟨k, rfl⟩ : ∃ m, k = m + 1 := ⟨k - 1, by omega⟩
    rw [spec_l06Shift.l0, if_neg (by omega)]
    rfl
  | succ n ih =>
    intro k x hn hk hx
    obtain ⟨k, rfl⟩ : ∃ m, k = m + 1 := ⟨k - 1, by omega⟩
    have hw : IntKind.u64.wrap (((n + 1 : Nat) : Int) + 30) = ((31 + n : Nat) : Int) := by rw [IntKind.wrap_u64]; omega
    have hw2 : IntKind.u64.wrap (wrap64 (((n + 1 : Nat) : Int) + 30 - 31)) = (n : Int) := by unfold wrap64; rw [IntKind.wrap_u64]; omega
    have hs : shr .i64 (x : Int) ((31 + n : Nat) : Int) = ((x / 2 ^ (31 + n) : Nat) : Int) := by
      unfold shr
      rw [show min ((31 + n : Nat) : Int).toNat IntKind.i64.bits = 31 + n by rw [show IntKind.i64.bits = 64 from rfl]; omega]
      rw [Int.natCast_ediv, Int.natCast_pow]
      rfl
    have hlt : x / 2 ^ (31 + n) < 549755813888 := Nat.lt_of_le_of_lt (Nat.div_le_self _ _) hx
    have hp : 2 ^ n ≤ 2 ^ 7 := Nat.pow_le_pow_right (by decide) (by omega)
    have hl : shl .i64 2147483657 (n : Int) = ((2147483657 * 2 ^ n : Nat) : Int) := by
      unfold shl
      rw [show min (n : Int).toNat IntKind.i64.bits = n by rw [show IntKind.i64.bits = 64 from rfl]; omega]
      rw [show (2147483657 : Int) * 2 ^ n = ((2147483657 * 2 ^ n : Nat) : Int) by rw [Int.natCast_mul, Int.natCast_pow]; rfl]
      exact i64_fits _ (by omega) (by omega)
    rw [spec_l06Shift.l0, if_pos (by omega), hw, if_pos (by omega), hs, odd_and _ (by omega), hw2, hl, i64_xor _ _ (by omega) (by omega)]
    rw [show wrap64 (((n + 1 : Nat) : Int) + 30 - 1) = (n : Int) + 30 by unfold wrap64; omega, Fg.downGo]
    by_cases h : x / 2 ^ (31 + n) % 2 = 1
    · rw [if_pos (by omega), if_pos (by omega), if_pos h]
      refine ih k _ (by omega) (by omega) ?_
      have := Nat.xor_lt_two_pow (x := x) (y := 2147483657 * 2 ^ n) (n := 39) (by omega) (by omega)
      omega
    · rw [if_neg (by omega), if_neg h]
      exact ih k _ (by omega) (by omega) hx
theorem spec_l06Shift_f (k f b : Nat) (hk : 9 ≤ k) (hf : f < 2147483648) (hb : b < 256) : spec_l06Shift.f k (f : Int) (b : Int) = some ((Fg.more f b : Nat) : Int) := by
  unfold spec_l06Shift.f
  rw [show wrap64 ((f : Int) * 256) = ((f * 256 : Nat) : Int) by unfold wrap64; omega, i64_xor _ _ (by omega) (by omega), ← Fg.down_more f b hf hb]
  have := Nat.xor_lt_two_pow (x := f * 256) (y := b) (n := 39) (by omega) (by omega)
  exact spec_l06Shift_l0 8 k _ (by omega) (by omega) (by omega)

theorem spec_l06Out_l0 (n : Nat) : ∀ (k f : Nat), n ≤ 15 → n + 10 ≤ k → f < 2147483648 → spec_l06Out.l0 k (f : Int) (16 - (n : Int)) = some ((Fg.shifts n f : Nat) : Int) := by
  induction n with
  | zero =>
    intro k f _ hk hf
    obtain ⟨k, rfl⟩ : ∃ m, k = m + 1 := ⟨k - 1, by omega⟩
    rw [spec_l06Out.l0, if_neg (by omega)]
    rfl
  | succ n ih =>
    intro k f hn hk hf
    obtain ⟨k, rfl⟩ : ∃ m, k = m + 1 := ⟨k - 1, by omega⟩
    rw [spec_l06Out.l0, if_pos (by omega), show (0 : Int) = ((0 : Nat) : Int) from rfl, spec_l06Shift_f k f 0 (by omega) hf (by omega)]
    simp only [Option.bind_some]
    rw [show wrap64 (16 - ((n + 1 : Nat) : Int) + 1) = 16 - (n : Int) by unfold wrap64; omega]
    exact ih k _ (by omega) (by omega) (Fg.more_lt _ _ hf)
theorem spec_l06Out_f (k b : Nat) (hk : 25 ≤ k) (hb : b < 256) : spec_l06Out.f k (b : Int) = some ((Fg.shifts 15 b : Nat) : Int) := spec_l06Out_l0 15 k b (by omega) (by omega) (by omega)

theorem impl_roll_l0 (f c : Nat) (hf : f < 2147483648) (hc : c < 256) (n : Nat) : ∀ (k g : Nat), n ≤ 15 → n + 10 ≤ k → g < 2147483648 → impl_FingerRoll.l0 k (f : Int) (c : Int) (g : Int) (15 - (n : Int)) = some ((Fg.more (f ^^^ Fg.shifts n g) c : Nat) : Int) := by
  induction n with
  | zero =>
    intro k g _ hk hg
    obtain ⟨k, rfl⟩ : ∃ m, k = m + 1 := ⟨k - 1, by omega⟩
    have hx : f ^^^ g < 2147483648 := Nat.xor_lt_two_pow (n := 31) hf hg
    rw [impl_FingerRoll.l0, if_neg (by omega), i64_xor _ _ (by omega) (by omega), impl_more_f k _ c (by omega) hx hc]
    rfl
  | succ n ih =>
    intro k g hn hk hg
    obtain ⟨k, rfl⟩ : ∃ m, k = m + 1 := ⟨k - 1, by omega⟩
    have e := impl_more_f k g 0 (by omega) hg (by omega)
    rw [show ((0 : Nat) : Int) = 0 from rfl] at e
    rw [impl_FingerRoll.l0, if_pos (by omega), e]
    simp only [Option.bind_some]
    rw [show wrap64 (15 - ((n + 1 : Nat) : Int) + 1) = 15 - (n : Int) by unfold wrap64; omega]
    exact ih k _ (by omega) (by omega) (Fg.more_lt _ _ hg)

theorem FnExactFingerRoll : laws_FnExactFingerRoll.Pure := by
  intro f o c _ _ _
  suffices main : ∀ Q : Nat, 39 ≤ Q → laws_FnExactFingerRoll.f (Q + 1) f o c = some true from ⟨_, main 39 (by omega)⟩
  intro Q hQ
  have key : ∀ x : Int, impl_isByte.f x = spec_l02Byte.f x := by
    intro x
    unfold impl_isByte.f impl_within.f spec_l02Byte.f
    by_cases h : x ≥ 0 <;> by_cases h2 : x ≤ 255 <;> simp [h, h2]
  have keyf : ∀ x : Int, impl_isFinger.f x = spec_l06Finger.f x := by
    intro x
    unfold impl_isFinger.f impl_within.f spec_l06Finger.f
    by_cases h : x ≥ 0
    · by_cases h2 : x < 2147483648
      · have h3 : x ≤ 2147483647 := by omega
        simp [h, h2, h3]
      · have h3 : ¬ x ≤ 2147483647 := by omega
        simp [h, h2, h3]
    · simp [h]
  have byteE : ∀ x : Int, (∃ n : Nat, x = n ∧ n < 256 ∧ spec_l02Byte.f x = some true) ∨ spec_l02Byte.f x = some false := by
    intro x
    unfold spec_l02Byte.f
    by_cases h : x ≥ 0
    · by_cases h2 : x ≤ 255
      · left
        exact ⟨x.toNat, by omega, by omega, by simp [h, h2]⟩
      · right
        simp [h, h2]
    · right
      simp [h]
  have fingE : ∀ x : Int, (∃ n : Nat, x = n ∧ n < 2147483648 ∧ spec_l06Finger.f x = some true) ∨ spec_l06Finger.f x = some false := by
    intro x
    unfold spec_l06Finger.f
    by_cases h : x ≥ 0
    · by_cases h2 : x < 2147483648
      · left
        exact ⟨x.toNat, by omega, by omega, by simp [h, h2]⟩
      · right
        simp [h, h2]
    · right
      simp [h]
  unfold laws_FnExactFingerRoll.f spec_FingerRoll.f impl_FingerRoll.f
  simp only [key, keyf, spec_FingerRoll.j0, impl_FingerRoll.j0]
  rcases fingE f with ⟨f, rfl, hf, ef⟩ | ef
  · rcases byteE o with ⟨o, rfl, ho, eo⟩ | eo
    · rcases byteE c with ⟨c, rfl, hc, ec⟩ | ec
      · have e1 := impl_more_f Q 0 o (by omega) (by omega) ho
        rw [Fg.more_zero o ho, show ((0 : Nat) : Int) = 0 from rfl] at e1
        have e2 := impl_roll_l0 f c hf hc 15 Q o (by omega) (by omega) (by omega)
        rw [show (15 : Int) - ((15 : Nat) : Int) = 0 from rfl] at e2
        have e3 := spec_l06Out_f Q o (by omega) ho
        have hx : f ^^^ Fg.shifts 15 o < 2147483648 := Nat.xor_lt_two_pow (n := 31) hf (Fg.shifts_lt 15 o (by omega))
        have hs := Fg.shifts_lt 15 o (by omega)
        have e4 := spec_l06Shift_f Q (f ^^^ Fg.shifts 15 o) c (by omega) hx hc
        rw [← i64_xor _ _ (by omega) (by omega)] at e4
        simp only [ef, eo, ec, e1, e2, e3, e4, Option.bind_some, if_true, Bool.not_true, Bool.false_eq_true, if_false]
      · simp [ef, eo, ec]
    · simp [ef, eo]
  · simp [ef]

end Go.Proofs.Yteidgaeonffilaa.Pure

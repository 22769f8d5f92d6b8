/-
  The law FnExactHexRead, over plain values: program and reference read the same of every text. No conditions.
-/
import Derived.Test.YtinkkjmngnblmaaAid
import Derived.Test.YtinkkjmngnblmaaXFnExactHexReadx1
namespace Go.Proofs.Ytinkkjmngnblmaa.Pure
open Go.RowKit Go.Proofs.Ytinkkjmngnblmaa.XFnExactHexRead Go.Proofs.YtinkkjmngnblmaaW.PrintWords Go.Proofs.YtinkkjmngnblmaaW.PrintLast
set_option linter.unusedVariables false
set_option linter.unusedSimpArgs false


def dig (b : Int) : Int := Lib.indexByte [48, 49, 50, 51, 52, 53, 54, 55, 56, 57, 97, 98, 99, 100, 101, 102] b.toNat.toUInt8
theorem dig_all : ∀ n : Nat, n < 256 → spec_l01Digit.f 1 (n : Int) = some (dig (n : Int)) ∧ -1 ≤ dig (n : Int) ∧ dig (n : Int) ≤ 15 := by decide +kernel
theorem dig_spec (k : Nat) (b : Int) (h0 : 0 ≤ b) (h1 : b ≤ 255) : spec_l01Digit.f (k + 1) b = some (dig b) ∧ -1 ≤ dig b ∧ dig b ≤ 15 := by
  obtain ⟨n, rfl⟩ := Int.eq_ofNat_of_zero_le h0
  have h := dig_all n (by omega)
  refine ⟨?_, h.2⟩
  rw [← h.1]
  unfold spec_l01Digit.f
  by_cases c : (n : Int) ≥ 48
  · rw [if_pos c, if_pos c, spec_l01Digit.j0, spec_l01Digit.j0]
  · rw [if_neg c, if_neg c, spec_l01Digit.j0, spec_l01Digit.j0]
theorem dig_impl (b : Int) : strings_IndexByte.f (⟨#[48, 49, 50, 51, 52, 53, 54, 55, 56, 57, 97, 98, 99, 100, 101, 102]⟩ : ByteArray) b = some (dig b) := rfl
theorem read_loop (s : ByteArray) (hs : s.size ≤ 20000) (d : Nat) : ∀ (k i : Nat) (xs : List Int), s.size ≤ i + 2 * d → i ≤ s.size → xs.length + d ≤ 100000 → d + 2 ≤ k →
    ∃ r, spec_HexRead.l0 k s xs (i : Int) = some r ∧ impl_HexRead.l0 k s xs (i : Int) = some r := by
  have fin : ∀ (k i : Nat) (xs : List Int), s.size ≤ i + 1 → i ≤ s.size → ∃ r, spec_HexRead.l0 (k + 1) s xs (i : Int) = some r ∧ impl_HexRead.l0 (k + 1) s xs (i : Int) = some r := by
    intro k i xs h hi
    have hw : wrap64 ((i : Int) + 1) = ((i + 1 : Nat) : Int) := by unfold wrap64; omega
    have c1 : ¬ (((i + 1 : Nat) : Int) < (s.size : Int)) := by omega
    rw [spec_HexRead.l0, impl_HexRead.l0, hw]
    simp only [if_neg c1]
    by_cases c : (s.size : Int) % 2 = 1
    · have c2 : ¬ ((s.size : Int) % 2 = 0) := by omega
      exact ⟨_, if_pos c, if_neg c2⟩
    · have c2 : (s.size : Int) % 2 = 0 := by omega
      exact ⟨_, if_neg c, if_pos c2⟩
  induction d with
  | zero =>
    intro k i xs h hi hx hk
    obtain ⟨k, rfl⟩ : ∃ m, k = m + 1 := ⟨k - 1, by omega⟩
    exact fin k i xs (by omega) hi
  | succ d ih =>
    intro k i xs h hi hx hk
    obtain ⟨k, rfl⟩ : ∃ m, k = m + 1 := ⟨k - 1, by omega⟩
    by_cases he : s.size ≤ i + 1
    · exact fin k i xs he hi
    · obtain ⟨k, rfl⟩ : ∃ m, k = m + 1 := ⟨k - 1, by omega⟩
      have hw : wrap64 ((i : Int) + 1) = ((i + 1 : Nat) : Int) := by unfold wrap64; omega
      have hw2 : wrap64 ((i : Int) + 2) = ((i + 2 : Nat) : Int) := by unfold wrap64; omega
      obtain ⟨a, ha, a0, a1⟩ : ∃ b : Int, bt s (i : Int) = b ∧ 0 ≤ b ∧ b ≤ 255 := ⟨_, rfl, (bt_range s _).1, (bt_range s _).2⟩
      obtain ⟨b, hb, b0, b1⟩ : ∃ b : Int, bt s ((i + 1 : Nat) : Int) = b ∧ 0 ≤ b ∧ b ≤ 255 := ⟨_, rfl, (bt_range s _).1, (bt_range s _).2⟩
      obtain ⟨ea, _, _⟩ := dig_spec k a a0 a1
      obtain ⟨eb, _, _⟩ := dig_spec k b b0 b1
      have c1 : ((i + 1 : Nat) : Int) < (s.size : Int) := by omega
      have c2 : 0 ≤ (i : Int) := by omega
      have c3 : (i : Int) < (s.size : Int) := by omega
      have c4 : 0 ≤ ((i + 1 : Nat) : Int) := by omega
      have c5 : xs.length < 140737488355328 := by omega
      rw [spec_HexRead.l0, impl_HexRead.l0, hw, hw2, ha, hb]
      simp only [if_pos c1, if_pos c2, if_pos c3, if_pos c4, if_pos c5, dig_impl, ea, eb, Option.bind_some]
      by_cases g1 : dig a < 0
      · exact ⟨_, if_pos g1, if_pos g1⟩
      · by_cases g2 : dig b < 0
        · exact ⟨_, by rw [if_neg g1, if_pos g2], by rw [if_neg g1, if_pos g2]⟩
        · obtain ⟨r, r1, r2⟩ := ih (k + 1) (i + 2) (xs ++ [(wrap64 ((wrap64 (16 * dig a)) + dig b)) % 256]) (by omega) (by omega) (by simp; omega) (by omega)
          exact ⟨r, by rw [if_neg g1, if_neg g2]; exact r1, by rw [if_neg g1, if_neg g2]; exact r2⟩

theorem FnExactHexRead : laws_FnExactHexRead.Pure := by
  intro s hs
  suffices main : ∀ K : Nat, 20010 ≤ K → laws_FnExactHexRead.f K s = some true from ⟨_, main 20010 (by omega)⟩
  intro K hK
  unfold laws_FnExactHexRead.f
  by_cases h0 : (s.size : Int) > 1048576
  · rw [if_pos h0]
  · rw [if_neg h0]
    unfold spec_HexRead.f impl_HexRead.f impl_isLong.f
    by_cases h1 : (s.size : Int) > 20000
    · rw [if_pos h1, decide_eq_true h1]
      simp [laws_eqTextOut.f]
    · obtain ⟨r, e1, e2⟩ := read_loop s (by omega) s.size K 0 [] (by omega) (by omega) (by simp; omega) (by omega)
      have e1' : spec_HexRead.l0 K s [] 0 = some r := e1
      have e2' : impl_HexRead.l0 K s [] 0 = some r := e2
      rw [if_neg h1, e1', decide_eq_false h1]
      simp [e2', laws_eqTextOut.f]

end Go.Proofs.Ytinkkjmngnblmaa.Pure

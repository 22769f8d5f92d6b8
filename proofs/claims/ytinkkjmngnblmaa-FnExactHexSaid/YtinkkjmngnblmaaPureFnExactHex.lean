/-
  The law FnExactHex, over plain values: program and reference give the same digits of every text. No conditions.
-/
import Derived.Test.YtinkkjmngnblmaaAid
import Derived.Test.YtinkkjmngnblmaaXFnExactHexx1
namespace Go.Proofs.Ytinkkjmngnblmaa.Pure
open Go.RowKit Go.Proofs.Ytinkkjmngnblmaa.XFnExactHex Go.Proofs.YtinkkjmngnblmaaW.PrintWords Go.Proofs.YtinkkjmngnblmaaW.PrintLast
set_option linter.unusedVariables false
set_option linter.unusedSimpArgs false


theorem hex_loop (s : ByteArray) (hs : s.size ≤ 20000) (d : Nat) : ∀ (k i : Nat) (xs : List Int), i + d = s.size → xs.length + 2 * d ≤ 100000 → d + 1 ≤ k →
    ∃ ys : List Int, spec_Hex.l0 k s xs (i : Int) = some (strOfNums ys) ∧ impl_hex.l0 k s xs (s.size : Int) (i : Int) = some (strOfNums ys) ∧ ys.length = xs.length + 2 * d := by
  induction d with
  | zero =>
    intro k i xs hi hx hk
    obtain ⟨k, rfl⟩ : ∃ m, k = m + 1 := ⟨k - 1, by omega⟩
    refine ⟨xs, ?_, ?_, by omega⟩
    · rw [spec_Hex.l0, if_neg (by omega)]
    · rw [impl_hex.l0, if_neg (by omega)]
  | succ d ih =>
    intro k i xs hi hx hk
    obtain ⟨k, rfl⟩ : ∃ m, k = m + 1 := ⟨k - 1, by omega⟩
    have hw : wrap64 ((i : Int) + 1) = ((i + 1 : Nat) : Int) := by unfold wrap64; omega
    rw [spec_Hex.l0, impl_hex.l0, hw]
    obtain ⟨b, hb, b0, b1⟩ : ∃ b : Int, bt s (i : Int) = b ∧ 0 ≤ b ∧ b ≤ 255 := ⟨_, rfl, (bt_range s _).1, (bt_range s _).2⟩
    rw [hb]
    have e1 : Int.tdiv b 16 % 256 = b / 16 := by rw [Int.tdiv_eq_ediv_of_nonneg b0]; omega
    have e2 : Int.tmod b 16 = b % 16 := Int.tmod_eq_emod_of_nonneg b0
    rw [e1, e2]
    have c1 : (i : Int) < (s.size : Int) := by omega
    have c2 : 0 ≤ (i : Int) := by omega
    have c3 : 0 ≤ b / 16 := by omega
    have c4 : b / 16 < 16 := by omega
    have c5 : 0 ≤ b % 16 := by omega
    have c6 : b % 16 < 16 := by omega
    simp only [if_pos c1, if_pos c2, if_pos c3, if_pos c4, if_pos c5, if_pos c6, Option.bind_some]
    generalize bt (⟨#[48, 49, 50, 51, 52, 53, 54, 55, 56, 57, 97, 98, 99, 100, 101, 102]⟩ : ByteArray) (b / 16) = p
    generalize bt (⟨#[48, 49, 50, 51, 52, 53, 54, 55, 56, 57, 97, 98, 99, 100, 101, 102]⟩ : ByteArray) (b % 16) = q
    have hl : xs.length + [p, q].length < 140737488355328 := by
      show xs.length + 2 < 140737488355328
      omega
    simp only [if_pos hl]
    obtain ⟨ys, f1, f2, f3⟩ := ih k (i + 1) (xs ++ [p, q]) (by omega) (by simp; omega) (by omega)
    exact ⟨ys, f1, f2, by simp at f3; omega⟩
theorem hex_same (s : ByteArray) (hs : s.size ≤ 20000) (k : Nat) (hk : s.size + 1 ≤ k) : ∃ ys : List Int, spec_Hex.f k s = some (strOfNums ys) ∧ impl_hex.f k s = some (strOfNums ys) ∧ ys.length = 2 * s.size := by
  obtain ⟨ys, f1, f2, f3⟩ := hex_loop s hs s.size k 0 [] (by omega) (by simp; omega) hk
  refine ⟨ys, ?_, ?_, by simpa using f3⟩
  · unfold spec_Hex.f
    rw [if_neg (by omega)]
    exact f1
  · unfold impl_hex.f
    rw [if_pos (by omega)]
    exact f2

theorem FnExactHex : laws_FnExactHex.Pure := by
  intro s hs
  suffices main : ∀ K : Nat, 20001 ≤ K → laws_FnExactHex.f K s = some true from ⟨_, main 20001 (by omega)⟩
  intro K hK
  unfold laws_FnExactHex.f
  by_cases h0 : (s.size : Int) > 1048576
  · rw [if_pos h0]
  · rw [if_neg h0]
    unfold impl_Hex.f impl_isLong.f
    by_cases h1 : (s.size : Int) > 20000
    · unfold spec_Hex.f
      rw [if_pos h1, decide_eq_true h1]
      simp
    · obtain ⟨ys, e1, e2, _⟩ := hex_same s (by omega) K (by omega)
      rw [e1, e2, decide_eq_false h1]
      simp

end Go.Proofs.Ytinkkjmngnblmaa.Pure

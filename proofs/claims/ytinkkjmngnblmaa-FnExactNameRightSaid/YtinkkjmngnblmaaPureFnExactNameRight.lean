/-
  The law FnExactNameRight, over plain values: program and reference give the same answer for every text. No conditions.
-/
import Derived.Test.YtinkkjmngnblmaaPFnExactNameRightx1
namespace Go.Proofs.Ytinkkjmngnblmaa.Pure
open Go.RowKit Go.Proofs.Ytinkkjmngnblmaa.PFnExactNameRight Go.Proofs.YtinkkjmngnblmaaW.PrintWords Go.Proofs.YtinkkjmngnblmaaW.PrintLast

theorem FnExactNameRight : laws_FnExactNameRight.Pure := by
  intro s hn
  have hb := fun i => bt_range s i
  have key : ∀ (d k : Nat) (i : Int), 0 ≤ i → i ≤ s.size → (s.size : Int) - i = d → d < k →
      ∃ b, spec_NameRight.l0 k s i = some b ∧ impl_isName.l0 k s 80 s.size i = some (b && decide (1 ≤ (s.size : Int) ∧ (s.size : Int) ≤ 80)) := by
    intro d
    induction d with
    | zero =>
      intro k i h0 h1 hd hk
      obtain ⟨k, rfl⟩ : ∃ m, k = m + 1 := ⟨k - 1, by omega⟩
      refine ⟨true, ?_, ?_⟩
      · simp only [spec_NameRight.l0]; rw [if_neg (by omega)]
      · simp only [impl_isName.l0]; rw [if_neg (by omega)]
        simp only [impl_long.f, impl_within.f, Option.bind_some]
        by_cases g1 : (s.size : Int) ≥ 1 <;> by_cases g2 : (s.size : Int) ≤ 80 <;> simp [g1, g2]
    | succ d ih =>
      intro k i h0 h1 hd hk
      obtain ⟨k, rfl⟩ : ∃ m, k = m + 1 := ⟨k - 1, by omega⟩
      have hlt : i < (s.size : Int) := by omega
      have hw : wrap64 (i + 1) = i + 1 := by unfold wrap64; omega
      obtain ⟨b, e1, e2⟩ := ih k (i + 1) (by omega) (by omega) (by omega) (by omega)
      simp only [spec_NameRight.l0, impl_isName.l0, hw, e1, e2, if_pos hlt, if_pos h0]
      generalize bt s i = c
      by_cases c6 : c = 45
      · subst c6
        by_cases c3 : i = 0 <;> simp [c3]
      · by_cases c1 : c ≥ 97 <;> by_cases c2 : c ≤ 122 <;> by_cases c3 : i = 0 <;> by_cases c4 : c ≥ 48 <;> by_cases c5 : c ≤ 57 <;> simp [c1, c2, c3, c4, c5, c6]
  obtain ⟨b, e1, e2⟩ := key s.size (s.size + 1) 0 (by omega) (by omega) (by omega) (by omega)
  refine ⟨s.size + 2, ?_⟩
  have e1' : spec_NameRight.l0 (s.size + 1) s 0 = some b := e1
  have e2' : impl_isName.l0 (s.size + 2) s 80 s.size 0 = some (b && decide (1 ≤ (s.size : Int) ∧ (s.size : Int) ≤ 80)) := impl_isName.mono_l _ _ _ _ _ _ e2
  unfold laws_FnExactNameRight.f spec_NameRight.f impl_NameRight.f impl_isName.f
  rw [e2']
  simp only [spec_NameRight.j0, e1']
  by_cases g1 : (s.size : Int) > 1048576
  · rw [if_pos g1]
  · rw [if_neg g1]
    by_cases g2 : (s.size : Int) < 1
    · have d : decide (1 ≤ (s.size : Int) ∧ (s.size : Int) ≤ 80) = false := by simp; omega
      rw [if_pos g2, d]
      simp
    · rw [if_neg g2]
      by_cases g3 : (s.size : Int) > 80
      · have d : decide (1 ≤ (s.size : Int) ∧ (s.size : Int) ≤ 80) = false := by simp; omega
        rw [d]
        simp [g3]
      · have d : decide (1 ≤ (s.size : Int) ∧ (s.size : Int) ≤ 80) = true := by simp; omega
        rw [d]
        simp [g3]

end Go.Proofs.Ytinkkjmngnblmaa.Pure

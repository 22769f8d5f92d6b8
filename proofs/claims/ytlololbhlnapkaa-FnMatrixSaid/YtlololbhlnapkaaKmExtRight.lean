/-
  The contract of impl.MatrixRight in one plain word. No conditions beyond each lemma's own.
-/
import Derived.Test.YtlololbhlnapkaaKmPureFnExactMatrixRight
namespace Go.Proofs.Ytlololbhlnapkaa.ExtRight
open Go Go.RowKit Go.Proofs.YtlololbhlnapkaaW.PrintWords
/-- a matrix that is right: its cells are not too many to be told -/
def mright (a b : Int) (l : List Int) : Option Bool := if l.length ≤ 1000000000 then some (Pure.FnExactMatrixRight_.okM a b l) else none
theorem mright_calls (a0_0 : Int) (a0_1 : Int) (A0_2 : Option Addr) (c0_2 : Nat) (l0_2 : List Int) (r : Bool) (w : World) (hr0_2 : Kd.C (Kd.int .i64) w A0_2 l0_2.length l0_2) (hc0_2 : l0_2.length ≤ c0_2) (h : mright a0_0 a0_1 l0_2 = some r) :
    Calls Try.prog 18 #[.agg #[.int .i64 a0_0, .int .i64 a0_1, .slice A0_2 l0_2.length c0_2]] w fun e w' => e = .returned (.bool r) ∧ Below w.heap.size w w' := by
  unfold mright at h
  by_cases hl : l0_2.length ≤ 1000000000
  · rw [if_pos hl] at h
    have e := Pure.FnExactMatrixRight_.impl_right a0_0 a0_1 l0_2 hl (l0_2.length + 2) (Nat.le_refl _)
    rw [h] at e
    exact XFnExactMatrixRight.impl_MatrixRight.calls _ a0_0 a0_1 A0_2 c0_2 l0_2 r w hr0_2 hc0_2 e
  · rw [if_neg hl] at h
    cases h
end Go.Proofs.Ytlololbhlnapkaa.ExtRight

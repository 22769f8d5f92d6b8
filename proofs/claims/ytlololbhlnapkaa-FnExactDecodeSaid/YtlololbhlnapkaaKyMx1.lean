/-
  What Matrix.row of the program answers: a cut of the matrix's cells; the walk of its code. Conditions: the cut's bounds, told by the cut's own law.
-/
import Derived.Test.YtlololbhlnapkaaKyExtRight
import Derived.Test.YtlololbhlnapkaaKyCz
import Derived.Outline
import Derived.WalkKit
import Derived.WalkSpells
import Derived.WalkLawsBesides
import Derived.Deep.LoopGhost
namespace Go.Proofs.Ytlololbhlnapkaa.Mx
open Go Go.RowKit Go.Proofs.YtlololbhlnapkaaW.PrintWords Go.Proofs.YtlololbhlnapkaaW.PrintLast Go.Proofs.YtlololbhlnapkaaW.PrintMore
set_option linter.unusedVariables false
set_option linter.unusedSimpArgs false
theorem mid_len (xs : List Int) (a b : Int) (hm : b ≤ xs.length) : ((xs.take b.toNat).drop a.toNat).length = b.toNat - a.toNat := by
  rw [List.length_drop, List.length_take]
  omega
set_option maxHeartbeats 4000000 in
set_option maxRecDepth 100000 in
theorem row_calls (a0 a1 : Int) (A : Option Addr) (n cap : Nat) (i lo hi : Int) (V : Value) (w : World) (hlo : wrap64 (i * a1) = lo) (hhi : wrap64 (wrap64 (i + 1) * a1) = hi)
    (hcut : ∀ W : World, (Instr.slice 22 (.slice A n cap) (some (.int .i64 lo)) (some (.int .i64 hi)) none).run Try.prog W = .ok V W) :
    Calls Try.prog 125 #[.agg #[.int .i64 a0, .int .i64 a1, .slice A n cap], .int .i64 i] w fun e w' => e = .returned V ∧ w' = w.alloc (Obj.cells #[.int .i64 a0, .int .i64 a1, .slice A n cap] 27) := by
  subst hlo
  subst hhi
  go_enter Try.func125, Try.ntmps125
  go_wp2
  go_ret
  exact ⟨rfl, rfl⟩
end Go.Proofs.Ytlololbhlnapkaa.Mx

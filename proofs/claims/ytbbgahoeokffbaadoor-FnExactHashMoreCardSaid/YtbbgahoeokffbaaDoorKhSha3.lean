/-
  What impl.digest and impl.HashBegin of the program answer: the walks of their code. Conditions: the package's tables hold what the text lays; digest: a text of at most 2^40 bytes, strings.Repeat's contract.
-/
import Derived.Test.YtbbgahoeokffbaaDoorKhSha2
namespace Go.Proofs.YtbbgahoeokffbaaDoor.Sha
open Go Go.RowKit Go.Proofs.YtbbgahoeokffbaaDoorW.PrintWords Go.Proofs.YtbbgahoeokffbaaDoorW.PrintLast Go.Proofs.YtbbgahoeokffbaaDoorW.PrintMore Go.Proofs.YtbbgahoeokffbaaDoor.Xright
set_option linter.unusedVariables false
set_option linter.unusedSimpArgs false
set_option maxHeartbeats 4000000 in
set_option maxRecDepth 100000 in
theorem long_still (s : ByteArray) (w : World) : Calls Tryd.prog 54 #[.string s] w fun e w' => e = .returned (.int .i64 (s.size : Int)) ∧ w' = w := by
  go_enter Tryd.func54, Tryd.ntmps54
  go_wp2
  go_ret
  exact ⟨rfl, rfl⟩
theorem R_row {α : Type} {d : Kd α} {e base : Nat} {ok : Nat → Prop} {w : World} {v : Value} {xs : List α} (h : d.R e w base ok v xs) {g : Nat} (hok : ∀ k, ok k → k ≠ g) (cs : Array Value) : d.R e (w.setRow g cs) base ok v xs := by
  refine Kd.R_step h (fun k ho _ => ?_)
  simp [World.setRow, Array.getElem?_modify]
  intro hh
  exact absurd hh.symm (hok k ho)
theorem Roots_below {w w' : World} (h : Roots w) (hb : Below w.heap.size w w') : Roots w' := roots_below h hb
end Go.Proofs.YtbbgahoeokffbaaDoor.Sha

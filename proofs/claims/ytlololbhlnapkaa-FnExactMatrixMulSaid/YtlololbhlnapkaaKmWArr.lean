/- Lemmas and walks that fnExactMatrixMul_holds stands on, written by programs (the print, and this session's own), kept to what is reached. No conditions beyond each lemma's own. -/
import Derived.Test.YtlololbhlnapkaaKmWWords
namespace Go.Proofs.YtlololbhlnapkaaW.PrintWords
open Go.RowKit
namespace Kd
section
variable {α : Type} {n : Nat} {d : Kd α} {hs : 0 < d.sz} {w : World} {base : Nat} {ok : Nat → Prop} {xs : List α} {cs : List Value}
end
section
variable {α : Type} {n : Nat} {enc : α → Value} {h1 : ∀ x, (enc x).oneCell' = true} {hs : 0 < (scalar enc h1).sz} {w : World} {base : Nat} {ok : Nat → Prop} {xs : List α} {cs : List Value}
end
end Kd
end Go.Proofs.YtlololbhlnapkaaW.PrintWords

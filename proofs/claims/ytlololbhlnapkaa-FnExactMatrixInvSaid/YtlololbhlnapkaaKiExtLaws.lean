/-
  Laws of the walk that this seat's functions want beside the print's words: a make with a capacity of its own. No conditions beyond each lemma's own.
-/
import Derived.Test.YtlololbhlnapkaaKiWWords
import Derived.Test.YtlololbhlnapkaaKiWLast
import Derived.Test.YtlololbhlnapkaaKiWMore
import Derived.Laws.MakeOwn
import Derived.ProofKit
import Derived.OpenShut
namespace Go.Proofs.Ytlololbhlnapkaa.Ext
open Go Go.RowKit Go.Proofs.YtlololbhlnapkaaW.PrintWords
set_option linter.unusedVariables false
section
variable {P : Program} {ops : Array Oper} {rest : List Oper} {o : Oper} {a : Act} {Q : Exit → Act → World → Prop} {α : Type}
end
end Go.Proofs.Ytlololbhlnapkaa.Ext
namespace Go.Proofs.Ytlololbhlnapkaa.Ext
open Go Go.RowKit Go.Proofs.YtlololbhlnapkaaW.PrintWords Go.ChangeShapes
section
variable {H : Type} {enc : TypeId × Value → H} {P : Program} {w : World}
/-- A slice of whole numbers that came in, nil or not: what its reading gives. -/
theorem open_ints_C {t e : TypeId} {k : IntKind} {fuel : Nat} {v : Value} {x : DataW H × List MemPlace} (ht : P.underlying t = some (.slice e)) (he : P.underlying e = some (.int k)) (hc : P.cellsOf e = 1)
    (h : DataW.trod enc P w 0 (fun _ => true) true fuel t [v] = some x) :
    ∃ (A : Option Addr) (c : Nat) (l : List Int), v = .slice A l.length c ∧ (Kd.int k).C w A l.length l ∧ l.length ≤ c ∧ l.length ≤ maxLen ∧ (∀ n ∈ l, (Lit.int k n).wf = true) := by
  rcases Go.ChangeShapes.open_ints ht he hc h with ⟨hcs, _⟩ | ⟨a, len, cap, zs, hcs, _, hl, hm, hz, _, hcell, hwz⟩
  · obtain rfl : v = .slice none 0 0 := by simpa using hcs
    obtain ⟨l, hl0, hr, hm, hw, hc⟩ := ReadsInt.ofRowC (k := k) (w := w) (a := none) (len := 0) (cap := 0) (zs := []) (.inl ⟨rfl, rfl, rfl, rfl⟩)
    exact ⟨none, 0, l, by rw [← hl0], Kd.C_of_reads (d := (0 : Int)) (h1 := fun _ => rfl) hr, hc, hm, hw⟩
  · obtain rfl : v = .slice (some a) len cap := by simpa using hcs
    obtain ⟨l, rfl, hr, hm', hw, hc⟩ := ReadsInt.ofRowC (k := k) (w := w) (a := some a) (len := len) (cap := cap) (zs := zs) (.inr ⟨_, rfl, hl, hm, by simpa using hz, hcell, hwz⟩)
    exact ⟨some a, cap, l, rfl, Kd.C_of_reads (d := (0 : Int)) (h1 := fun _ => rfl) hr, hc, hm', hw⟩
end
end Go.Proofs.Ytlololbhlnapkaa.Ext

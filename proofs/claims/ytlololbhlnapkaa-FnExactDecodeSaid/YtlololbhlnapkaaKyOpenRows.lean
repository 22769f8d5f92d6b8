/-
  A slice of structs that came in, nil or not: what its reading gives. No conditions beyond each lemma's own.
-/
import Derived.Test.YtlololbhlnapkaaKyWWords
import Derived.Test.YtlololbhlnapkaaKyWLast
import Derived.Deep.Slices
import Derived.OpenShut
import Derived.ProofKit
namespace Go.Proofs.Ytlololbhlnapkaa.Ext
open Go Go.RowKit Go.Proofs.YtlololbhlnapkaaW.PrintWords Go.ChangeShapes
set_option linter.unusedVariables false
section
variable {H : Type} {enc : TypeId × Value → H} {P : Program} {w : World}
theorem open_rows_C {t e : TypeId} {α : Type} [Inhabited α] (d : Kd α) (good : α → Prop) {fuel : Nat} {v : Value} {x : DataW H × List MemPlace} (ht : P.underlying t = some (.slice e)) (hC : P.cellsOf e = d.sz)
    (hel : ∀ (n : Nat) (cs : List Value) (y : DataW H × List MemPlace), DataW.trod enc P w 0 (fun _ => true) true n e cs = some y → ∃ a, d.K w a cs ∧ good a)
    (h : DataW.trod enc P w 0 (fun _ => true) true fuel t [v] = some x) :
    ∃ (A : Option Addr) (c : Nat) (l : List α), v = .slice A l.length c ∧ d.C w A l.length l ∧ l.length ≤ c ∧ l.length ≤ maxLen ∧ (∀ a ∈ l, good a) := by
  rcases Go.Deep.open_slice ht h with ⟨hcs, _⟩ | ⟨a, len, cap, m, n, D, Pl, hcs, _, hl, hm, hmm, _, hi⟩
  · obtain rfl : v = .slice none 0 0 := by simpa using hcs
    exact ⟨none, 0, [], rfl, Kd.C_nil d w, Nat.le_refl _, by simp, by simp⟩
  · obtain rfl : v = .slice (some a) len cap := by simpa using hcs
    have hmc : m = cap := by simpa using hmm
    obtain ⟨V, hV⟩ := Go.Deep.choose_lt (α := α) (n := len) (p := fun i p => good p ∧ ∃ c, c.length = d.sz ∧ d.K w p c ∧ ∀ j u, c[j]? = some u → w.cell? (a.add (i * d.sz + j)) = some u) (fun i hil => by
      obtain ⟨cs', h1, h2⟩ := hi i (by omega)
      obtain ⟨p, hp, hg⟩ := hel n cs' _ h2
      rw [hC] at h1
      obtain ⟨_, hlen, hcell⟩ := World.cells?_some h1
      refine ⟨p, hg, cs', hlen, hp, fun j u hu => ?_⟩
      have hj : j < cs'.length := (List.getElem?_eq_some_iff.1 hu).1
      rw [← Go.Deep.add_add, hcell j (by omega)]
      exact hu)
    have hlen : ((List.range len).map V).length = len := by rw [List.length_map, List.length_range]
    refine ⟨some a, cap, (List.range len).map V, by rw [hlen], ⟨rfl, by rw [hlen]; unfold maxLen at hm; omega, fun _ => ⟨a, rfl, fun j p hj => ?_⟩⟩, by rw [hlen]; exact hl, by rw [hlen]; omega, fun p hp => ?_⟩
    · have hjl : j < len := by
        have := (List.getElem?_eq_some_iff.1 hj).1
        omega
      rw [List.getElem?_map, List.getElem?_range hjl] at hj
      obtain rfl : V j = p := by simpa using hj
      exact (hV j hjl).2
    · obtain ⟨j, hj, rfl⟩ := List.mem_map.1 hp
      exact (hV j (List.mem_range.1 hj)).1
end
end Go.Proofs.Ytlololbhlnapkaa.Ext

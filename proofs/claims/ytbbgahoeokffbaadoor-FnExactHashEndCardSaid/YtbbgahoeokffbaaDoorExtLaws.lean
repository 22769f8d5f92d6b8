/-
  Laws of the walk that this seat's functions want beside the print's words: a make with a capacity of its own. No conditions beyond each lemma's own.
-/
import Derived.Test.YtbbgahoeokffbaaDoorWWords
import Derived.Test.YtbbgahoeokffbaaDoorWLast
import Derived.Test.YtbbgahoeokffbaaDoorWMore
import Derived.Laws.MakeOwn
import Derived.ProofKit
import Derived.OpenShut
namespace Go.Proofs.YtbbgahoeokffbaaDoor.Ext
open Go Go.RowKit Go.Proofs.YtbbgahoeokffbaaDoorW.PrintWords
set_option linter.unusedVariables false
section
variable {P : Program} {ops : Array Oper} {rest : List Oper} {o : Oper} {a : Act} {Q : Exit → Act → World → Prop} {α : Type}
/-- 'make([]T, 0, c)': a row of nothing, with room. -/
theorem R_cap (d : Kd α) {w0 W : World} (base e : Nat) (hgd : o.guard = none) {N : Tmp} (_hd : o.dst = some N) (c : Nat) (cs : Array Value) {ok : Nat → Prop}
    (hrun : (execOp a.eval o).run P W = .ok (.value (.slice (some ⟨W.heap.size, 0, none⟩) 0 c)) (W.alloc (.cells cs e)))
    (hcs : cs.size = c * d.sz) (hc : c ≤ maxLen) (hfresh : ok W.heap.size) (HB : Below base w0 W) (hbase : base ≤ W.heap.size)
    (h : ∀ v1 w1, d.R e w1 base ok v1 [] → Below base w0 w1 → W.grownBy w1 none → (∃ b, v1.ownBlock = some b ∧ W.heap.size ≤ b) → wpList P ops Q rest (a.put o.dst v1) w1) : wpList P ops Q (o :: rest) a W := by
  refine Kd.event_run hgd hrun (h _ _ ⟨fun k hk => ?_, [], ?_, ?_⟩ (HB.alloc hbase _) (World.grownBy_alloc W _ none) ⟨W.heap.size, by simp [Value.ownBlock], Nat.le_refl _⟩)
  · have : W.heap.size = k := by simpa [Value.ownBlock] using hk
    subst this
    exact hfresh
  · refine ⟨by simp, .inr ⟨W.heap.size, c, cs, rfl, hbase, heap_alloc_new W _, Nat.zero_le _, hc, hcs, by simp⟩⟩
  · exact Reps.none _ _
end
theorem run_cap {P : Program} (w : World) (t e : TypeId) (i : TypeInfo) (z : Value) (ht : P.underlying t = some (.slice e)) (hi : P.info? e = some i) (hz : i.zero = some z) (hb : i.bytes = 1) (hs : i.size = 1) (c : Nat) (hc : c ≤ 281474976710656) :
    (Instr.makeSlice t (.int .i64 0) (.int .i64 (c : Int))).run P w = .ok (.slice (some ⟨w.heap.size, 0, none⟩) 0 c) (w.alloc (.cells (madeCells z.cells c) e)) := by
  have := run_make (P := P) w t e i z ht hi hz .i64 .i64 0 (c : Int) (by omega) (by omega) (by rw [hb]; omega) (by omega)
  simpa [hs] using this
end Go.Proofs.YtbbgahoeokffbaaDoor.Ext
namespace Go.Proofs.YtbbgahoeokffbaaDoor.Ext
open Go Go.RowKit Go.Proofs.YtbbgahoeokffbaaDoorW.PrintWords Go.ChangeShapes
section
variable {H : Type} {enc : TypeId × Value → H} {P : Program} {w : World}
/-- A slice of whole numbers that came in, nil or not: what its reading gives. -/
theorem open_ints_C {t e : TypeId} {k : IntKind} {fuel : Nat} {v : Value} {x : DataW H × List MemPlace} (ht : P.underlying t = some (.slice e)) (he : P.underlying e = some (.int k)) (hc : P.cellsOf e = 1)
    (h : DataW.trod enc P w 0 (fun _ => true) true fuel t [v] = some x) :
    ∃ (A : Option Addr) (c : Nat) (l : List Int), v = .slice A l.length c ∧ (Kd.int k).C w A l.length l ∧ l.length ≤ c ∧ l.length ≤ maxLen ∧ (∀ n ∈ l, (Lit.int k n).wf = true) := by
  rcases Go.ChangeShapes.open_ints ht he hc h with ⟨hcs, _⟩ | ⟨a, len, cap, zs, hcs, _, hl, hm, hz, _, hcell, hwz⟩
  · obtain rfl : v = .slice none 0 0 := by simpa using hcs
    obtain ⟨l, hl0, hr, hm, hw, hc⟩ := ReadsInt.ofRowC (k := k) (w := w) (a := none) (len := 0) (cap := 0) (zs := []) (.inl ⟨rfl, rfl, rfl, rfl⟩)
    exact ⟨none, 0, l, by rw [← hl0], Kd.C_of_reads (d := (0 : Int)) (h1 := fun _ => rfl) hr, hc, hm, hw⟩
  · obtain rfl : v = .slice (some a) len cap := by simpa using hcs
    obtain ⟨l, rfl, hr, hm', hw, hc⟩ := ReadsInt.ofRowC (k := k) (w := w) (a := some a) (len := len) (cap := cap) (zs := zs) (.inr ⟨_, rfl, hl, hm, by simpa using hz, hcell, hwz⟩)
    exact ⟨some a, cap, l, rfl, Kd.C_of_reads (d := (0 : Int)) (h1 := fun _ => rfl) hr, hc, hm', hw⟩
end
end Go.Proofs.YtbbgahoeokffbaaDoor.Ext

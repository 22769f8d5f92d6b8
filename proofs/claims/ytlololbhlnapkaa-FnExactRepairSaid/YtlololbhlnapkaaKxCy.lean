/-
  Short words for the steps of a printed region that draws: an operation that yields in every world, or in the worlds that hold what the region needs. No conditions beyond each lemma's own.
-/
import Derived.Test.YtlololbhlnapkaaKxCz
import Derived.Test.YtlololbhlnapkaaKxWTab
namespace Go.Proofs.Ytlololbhlnapkaa.Cy
open Go Go.RowKit Go.Proofs.YtlololbhlnapkaaW.PrintWords Go.Proofs.YtlololbhlnapkaaW.PrintLast
set_option linter.unusedVariables false
section
variable {P : Program} {ops : Array Oper} {Q : Exit → Act → World → Prop} {md : Region.Mode} {S : World → Prop} {ds : List Nat}
theorem pu (i N : Nat) {oi : Oper} {v : Value} {fuel : Nat} {l l' : Array Bool} {a a' : Act} {w : World} {T : Bool × List (List Nat × List Nat)} (HT : Aside0 (rtab md ops = T))
    (h : wpAnyLast P md ops Q S ds fuel l' a' w) (hi : ops[i]? = some oi := by exact rfl) (hl : l.setIfInBounds i true = l' := by first | (simp only [List.setIfInBounds_toArray, List.set_cons_zero, List.set_cons_succ]; rfl) | rfl)
    (hN : oi.dst = some N := by exact rfl) (hc : anyT T l.toList l'.toList i = true := by kernel_rfl) (hQ : ∀ c a w, Q (.panic c) (a.put oi.dst v) w → Q (.panic c) a w := by exact (fun _ _ _ h => h))
    (hw : Region.wanted oi (yielded ops a.tmps) = true := by exact rfl) (hy : ∀ w', (execOp a.eval oi).run P w' = .ok (.value v) w' := by intro w'; go_simp; with_reducible rfl)
    (ha : a.put (some N) v = a' := by simp only [Act.put, List.setIfInBounds_toArray, List.set_cons_zero, List.set_cons_succ, i64_w, i32_w]; rfl) : wpAnyLast P md ops Q S ds (fuel + 1) l a w :=
  pure_ (i := i) (N := some N) (v := v) l' hi hN (any_of HT.out hc) hQ (Or.inl ⟨hw, hy⟩) ha h
theorem tk (i N : Nat) {oi : Oper} {v : Value} {fuel : Nat} {l l' : Array Bool} {a a' : Act} {w : World} {T : Bool × List (List Nat × List Nat)} {B : List Nat} (HT : Aside0 (rtab md ops = T)) (HW : Aside0 (waitsOk T.2 B = true)) (hS : S w)
    (h : wpAnyLast P md ops Q S ds fuel l' a' w) (hi : ops[i]? = some oi := by exact rfl) (hl : l.setIfInBounds i true = l' := by first | (simp only [List.setIfInBounds_toArray, List.set_cons_zero, List.set_cons_succ]; rfl) | rfl)
    (hN : oi.dst = some N := by exact rfl) (hc : takeW T B ds l.toList l'.toList i = true := by kernel_rfl) (hQ : ∀ c a w, Q (.panic c) (a.put oi.dst v) w → Q (.panic c) a w := by exact (fun _ _ _ h => h))
    (hw : Region.wanted oi (yielded ops a.tmps) = true := by exact rfl) (hy : ∀ w', S w' → (execOp a.eval oi).run P w' = .ok (.value v) w' := by intro w'; (repeat (with_reducible refine and_imp.2 (fun _ => ?_))); intro s_; go_simp; with_reducible rfl)
    (ha : a.put (some N) v = a' := by simp only [Act.put, List.setIfInBounds_toArray, List.set_cons_zero, List.set_cons_succ, i64_w, i32_w]; rfl) : wpAnyLast P md ops Q S ds (fuel + 1) l a w :=
  take_ (i := i) (N := some N) (v := v) l' hi hN (take_ofW HT.out HW.out hc) hQ (Or.inl ⟨hw, hy⟩) hS ha h
end
theorem gw {gb : Nat} {w W1 W : World} (hg : gb = W.heap.size) (q : Below w.heap.size w W1) (h : Below w.heap.size w W1 → Below w.heap.size w W := by intro q_; repeat (first | (with_reducible first | exact q_ | apply below_alloc | apply pw_below_drewN | apply below_drew1 | refine below_set ?_ (Aside0.out (by assumption))) | exact q_)) : w.heap.size ≤ gb := by rw [hg]; exact below_size (h q)
theorem z2 {w : World} {g : Nat} {t : TypeId} {v0 v1 : Value} (h : w.heap[g]? = some (.cells #[v0, v1] t (0, 0))) : w.cell? ⟨g, 0, none⟩ = some v0 ∧ w.cell? ⟨g, 1, none⟩ = some v1 ∧ w.frozen? ⟨g, 0, none⟩ = false ∧ w.frozen? ⟨g, 1, none⟩ = false := ⟨(blk_cell h 0).trans rfl, (blk_cell h 1).trans rfl, blk_frozen h 0, blk_frozen h 1⟩
theorem z3 {w : World} {g : Nat} {t : TypeId} {v0 v1 v2 : Value} (h : w.heap[g]? = some (.cells #[v0, v1, v2] t (0, 0))) : w.cell? ⟨g, 0, none⟩ = some v0 ∧ w.cell? ⟨g, 1, none⟩ = some v1 ∧ w.cell? ⟨g, 2, none⟩ = some v2 ∧ w.frozen? ⟨g, 0, none⟩ = false ∧ w.frozen? ⟨g, 1, none⟩ = false ∧ w.frozen? ⟨g, 2, none⟩ = false := ⟨(blk_cell h 0).trans rfl, (blk_cell h 1).trans rfl, (blk_cell h 2).trans rfl, blk_frozen h 0, blk_frozen h 1, blk_frozen h 2⟩
theorem z4 {w : World} {g : Nat} {t : TypeId} {v0 v1 v2 v3 : Value} (h : w.heap[g]? = some (.cells #[v0, v1, v2, v3] t (0, 0))) : w.cell? ⟨g, 0, none⟩ = some v0 ∧ w.cell? ⟨g, 1, none⟩ = some v1 ∧ w.cell? ⟨g, 2, none⟩ = some v2 ∧ w.cell? ⟨g, 3, none⟩ = some v3 ∧ w.frozen? ⟨g, 0, none⟩ = false ∧ w.frozen? ⟨g, 1, none⟩ = false ∧ w.frozen? ⟨g, 2, none⟩ = false ∧ w.frozen? ⟨g, 3, none⟩ = false := ⟨(blk_cell h 0).trans rfl, (blk_cell h 1).trans rfl, (blk_cell h 2).trans rfl, (blk_cell h 3).trans rfl, blk_frozen h 0, blk_frozen h 1, blk_frozen h 2, blk_frozen h 3⟩
theorem a2 {p0 p1 : Prop} (h0 : p0) (h1 : p1) : Aside0 p0 ∧ Aside0 p1 := ⟨⟨h0⟩, ⟨h1⟩⟩
theorem a3 {p0 p1 p2 : Prop} (h0 : p0) (h1 : p1) (h2 : p2) : Aside0 p0 ∧ Aside0 p1 ∧ Aside0 p2 := ⟨⟨h0⟩, ⟨h1⟩, ⟨h2⟩⟩
theorem a4 {p0 p1 p2 p3 : Prop} (h0 : p0) (h1 : p1) (h2 : p2) (h3 : p3) : Aside0 p0 ∧ Aside0 p1 ∧ Aside0 p2 ∧ Aside0 p3 := ⟨⟨h0⟩, ⟨h1⟩, ⟨h2⟩, ⟨h3⟩⟩
theorem a5 {p0 p1 p2 p3 p4 : Prop} (h0 : p0) (h1 : p1) (h2 : p2) (h3 : p3) (h4 : p4) : Aside0 p0 ∧ Aside0 p1 ∧ Aside0 p2 ∧ Aside0 p3 ∧ Aside0 p4 := ⟨⟨h0⟩, ⟨h1⟩, ⟨h2⟩, ⟨h3⟩, ⟨h4⟩⟩
theorem a6 {p0 p1 p2 p3 p4 p5 : Prop} (h0 : p0) (h1 : p1) (h2 : p2) (h3 : p3) (h4 : p4) (h5 : p5) : Aside0 p0 ∧ Aside0 p1 ∧ Aside0 p2 ∧ Aside0 p3 ∧ Aside0 p4 ∧ Aside0 p5 := ⟨⟨h0⟩, ⟨h1⟩, ⟨h2⟩, ⟨h3⟩, ⟨h4⟩, ⟨h5⟩⟩
theorem a7 {p0 p1 p2 p3 p4 p5 p6 : Prop} (h0 : p0) (h1 : p1) (h2 : p2) (h3 : p3) (h4 : p4) (h5 : p5) (h6 : p6) : Aside0 p0 ∧ Aside0 p1 ∧ Aside0 p2 ∧ Aside0 p3 ∧ Aside0 p4 ∧ Aside0 p5 ∧ Aside0 p6 := ⟨⟨h0⟩, ⟨h1⟩, ⟨h2⟩, ⟨h3⟩, ⟨h4⟩, ⟨h5⟩, ⟨h6⟩⟩
theorem a8 {p0 p1 p2 p3 p4 p5 p6 p7 : Prop} (h0 : p0) (h1 : p1) (h2 : p2) (h3 : p3) (h4 : p4) (h5 : p5) (h6 : p6) (h7 : p7) : Aside0 p0 ∧ Aside0 p1 ∧ Aside0 p2 ∧ Aside0 p3 ∧ Aside0 p4 ∧ Aside0 p5 ∧ Aside0 p6 ∧ Aside0 p7 := ⟨⟨h0⟩, ⟨h1⟩, ⟨h2⟩, ⟨h3⟩, ⟨h4⟩, ⟨h5⟩, ⟨h6⟩, ⟨h7⟩⟩
theorem a9 {p0 p1 p2 p3 p4 p5 p6 p7 p8 : Prop} (h0 : p0) (h1 : p1) (h2 : p2) (h3 : p3) (h4 : p4) (h5 : p5) (h6 : p6) (h7 : p7) (h8 : p8) : Aside0 p0 ∧ Aside0 p1 ∧ Aside0 p2 ∧ Aside0 p3 ∧ Aside0 p4 ∧ Aside0 p5 ∧ Aside0 p6 ∧ Aside0 p7 ∧ Aside0 p8 := ⟨⟨h0⟩, ⟨h1⟩, ⟨h2⟩, ⟨h3⟩, ⟨h4⟩, ⟨h5⟩, ⟨h6⟩, ⟨h7⟩, ⟨h8⟩⟩
theorem a10 {p0 p1 p2 p3 p4 p5 p6 p7 p8 p9 : Prop} (h0 : p0) (h1 : p1) (h2 : p2) (h3 : p3) (h4 : p4) (h5 : p5) (h6 : p6) (h7 : p7) (h8 : p8) (h9 : p9) : Aside0 p0 ∧ Aside0 p1 ∧ Aside0 p2 ∧ Aside0 p3 ∧ Aside0 p4 ∧ Aside0 p5 ∧ Aside0 p6 ∧ Aside0 p7 ∧ Aside0 p8 ∧ Aside0 p9 := ⟨⟨h0⟩, ⟨h1⟩, ⟨h2⟩, ⟨h3⟩, ⟨h4⟩, ⟨h5⟩, ⟨h6⟩, ⟨h7⟩, ⟨h8⟩, ⟨h9⟩⟩
theorem a11 {p0 p1 p2 p3 p4 p5 p6 p7 p8 p9 p10 : Prop} (h0 : p0) (h1 : p1) (h2 : p2) (h3 : p3) (h4 : p4) (h5 : p5) (h6 : p6) (h7 : p7) (h8 : p8) (h9 : p9) (h10 : p10) : Aside0 p0 ∧ Aside0 p1 ∧ Aside0 p2 ∧ Aside0 p3 ∧ Aside0 p4 ∧ Aside0 p5 ∧ Aside0 p6 ∧ Aside0 p7 ∧ Aside0 p8 ∧ Aside0 p9 ∧ Aside0 p10 := ⟨⟨h0⟩, ⟨h1⟩, ⟨h2⟩, ⟨h3⟩, ⟨h4⟩, ⟨h5⟩, ⟨h6⟩, ⟨h7⟩, ⟨h8⟩, ⟨h9⟩, ⟨h10⟩⟩
theorem a12 {p0 p1 p2 p3 p4 p5 p6 p7 p8 p9 p10 p11 : Prop} (h0 : p0) (h1 : p1) (h2 : p2) (h3 : p3) (h4 : p4) (h5 : p5) (h6 : p6) (h7 : p7) (h8 : p8) (h9 : p9) (h10 : p10) (h11 : p11) : Aside0 p0 ∧ Aside0 p1 ∧ Aside0 p2 ∧ Aside0 p3 ∧ Aside0 p4 ∧ Aside0 p5 ∧ Aside0 p6 ∧ Aside0 p7 ∧ Aside0 p8 ∧ Aside0 p9 ∧ Aside0 p10 ∧ Aside0 p11 := ⟨⟨h0⟩, ⟨h1⟩, ⟨h2⟩, ⟨h3⟩, ⟨h4⟩, ⟨h5⟩, ⟨h6⟩, ⟨h7⟩, ⟨h8⟩, ⟨h9⟩, ⟨h10⟩, ⟨h11⟩⟩
theorem a14 {p0 p1 p2 p3 p4 p5 p6 p7 p8 p9 p10 p11 p12 p13 : Prop} (h0 : p0) (h1 : p1) (h2 : p2) (h3 : p3) (h4 : p4) (h5 : p5) (h6 : p6) (h7 : p7) (h8 : p8) (h9 : p9) (h10 : p10) (h11 : p11) (h12 : p12) (h13 : p13) : Aside0 p0 ∧ Aside0 p1 ∧ Aside0 p2 ∧ Aside0 p3 ∧ Aside0 p4 ∧ Aside0 p5 ∧ Aside0 p6 ∧ Aside0 p7 ∧ Aside0 p8 ∧ Aside0 p9 ∧ Aside0 p10 ∧ Aside0 p11 ∧ Aside0 p12 ∧ Aside0 p13 := ⟨⟨h0⟩, ⟨h1⟩, ⟨h2⟩, ⟨h3⟩, ⟨h4⟩, ⟨h5⟩, ⟨h6⟩, ⟨h7⟩, ⟨h8⟩, ⟨h9⟩, ⟨h10⟩, ⟨h11⟩, ⟨h12⟩, ⟨h13⟩⟩
end Go.Proofs.Ytlololbhlnapkaa.Cy

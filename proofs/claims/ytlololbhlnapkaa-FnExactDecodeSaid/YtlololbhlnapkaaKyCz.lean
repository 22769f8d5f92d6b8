/-
  Short words for long steps of a printed walk: what a block, a row of the call's own and the memory below hold after quiet steps. No conditions beyond each lemma's own.
-/
import Derived.Test.YtlololbhlnapkaaKyWWords
namespace Go.Proofs.Ytlololbhlnapkaa.Cz
open Go Go.RowKit Go.Proofs.YtlololbhlnapkaaW.PrintWords
set_option linter.unusedVariables false
theorem b {Q P : Prop} (q : Q) (h : Q → P := by intro q_; (with_reducible repeat (first | refine blk_drewN ?_ _ | refine blk_drew ?_ | refine blk_alloc ?_ _)); exact q_) : P := h q
theorem f {Q R P : Prop} (q : Q) (r : R) (h : Q → R → P := by intro q_ r_; repeat (first | (with_reducible exact q_) | (with_reducible first | refine blk_drewN ?_ _ | refine blk_drew ?_ | refine blk_alloc ?_ _) | refine blk_far ?_ r_ _)) : P := h q r
theorem r {Q P : Prop} (q : Q) (h : Q → P := by intro q_; (with_reducible repeat (first | apply Kd.R_alloc | apply Kd.R_drewN | apply Kd.R_drew)); exact q_) : P := h q
theorem w {Q P : Prop} (q : Q) (h : Q → P := by intro q_; repeat (first | (with_reducible first | exact q_ | apply below_alloc | apply pw_below_drewN | apply below_drew1 | refine below_set ?_ (Aside0.out (by assumption))) | exact q_)) : P := h q
section
variable {α : Type} {d : Kd α} {e : Nat} {w : World} {base : Nat} {ok : Nat → Prop} {v : Value} {xs : List α} {g t : Nat} {cells : Array Value}
theorem s1 (h : d.R e w base ok v xs) (hb : w.heap[g]? = some (.cells cells t (0, 0))) (ht : ∀ q, q ∈ e :: d.E → q ≠ t) {j1 : Nat} {u1 : Value} : d.R e (w.setCell ⟨g, j1, none⟩ u1) base ok v xs := Kd.R_mono (Kd.R_far (p := ⟨g, j1, none⟩) (Kd.R_types h hb ht) (fun _ hk => hk.2) u1) (fun _ h_ => h_.1)
theorem s2 (h : d.R e w base ok v xs) (hb : w.heap[g]? = some (.cells cells t (0, 0))) (ht : ∀ q, q ∈ e :: d.E → q ≠ t) {j1 j2 : Nat} {u1 u2 : Value} : d.R e ((w.setCell ⟨g, j1, none⟩ u1).setCell ⟨g, j2, none⟩ u2) base ok v xs := Kd.R_mono (Kd.R_far (p := ⟨g, j2, none⟩) (Kd.R_far (p := ⟨g, j1, none⟩) (Kd.R_types h hb ht) (fun _ hk => hk.2) u1) (fun _ hk => hk.2) u2) (fun _ h_ => h_.1)
theorem s3 (h : d.R e w base ok v xs) (hb : w.heap[g]? = some (.cells cells t (0, 0))) (ht : ∀ q, q ∈ e :: d.E → q ≠ t) {j1 j2 j3 : Nat} {u1 u2 u3 : Value} : d.R e (((w.setCell ⟨g, j1, none⟩ u1).setCell ⟨g, j2, none⟩ u2).setCell ⟨g, j3, none⟩ u3) base ok v xs := Kd.R_mono (Kd.R_far (p := ⟨g, j3, none⟩) (Kd.R_far (p := ⟨g, j2, none⟩) (Kd.R_far (p := ⟨g, j1, none⟩) (Kd.R_types h hb ht) (fun _ hk => hk.2) u1) (fun _ hk => hk.2) u2) (fun _ hk => hk.2) u3) (fun _ h_ => h_.1)
theorem s4 (h : d.R e w base ok v xs) (hb : w.heap[g]? = some (.cells cells t (0, 0))) (ht : ∀ q, q ∈ e :: d.E → q ≠ t) {j1 j2 j3 j4 : Nat} {u1 u2 u3 u4 : Value} : d.R e ((((w.setCell ⟨g, j1, none⟩ u1).setCell ⟨g, j2, none⟩ u2).setCell ⟨g, j3, none⟩ u3).setCell ⟨g, j4, none⟩ u4) base ok v xs := Kd.R_mono (Kd.R_far (p := ⟨g, j4, none⟩) (Kd.R_far (p := ⟨g, j3, none⟩) (Kd.R_far (p := ⟨g, j2, none⟩) (Kd.R_far (p := ⟨g, j1, none⟩) (Kd.R_types h hb ht) (fun _ hk => hk.2) u1) (fun _ hk => hk.2) u2) (fun _ hk => hk.2) u3) (fun _ hk => hk.2) u4) (fun _ h_ => h_.1)
end
theorem q1 {Q R P : Prop} (q : Q) (r : R) (h : Q → R → P := by intro q_ r_; (with_reducible repeat (first | apply Kd.R_alloc | apply Kd.R_drewN | apply Kd.R_drew)); exact Cz.s1 q_ r_ (by decide)) : P := h q r
theorem q2 {Q R P : Prop} (q : Q) (r : R) (h : Q → R → P := by intro q_ r_; (with_reducible repeat (first | apply Kd.R_alloc | apply Kd.R_drewN | apply Kd.R_drew)); exact Cz.s2 q_ r_ (by decide)) : P := h q r
theorem q3 {Q R P : Prop} (q : Q) (r : R) (h : Q → R → P := by intro q_ r_; (with_reducible repeat (first | apply Kd.R_alloc | apply Kd.R_drewN | apply Kd.R_drew)); exact Cz.s3 q_ r_ (by decide)) : P := h q r
theorem q4 {Q R P : Prop} (q : Q) (r : R) (h : Q → R → P := by intro q_ r_; (with_reducible repeat (first | apply Kd.R_alloc | apply Kd.R_drewN | apply Kd.R_drew)); exact Cz.s4 q_ r_ (by decide)) : P := h q r
theorem m {Q P : Prop} (q : Q) (h : Q → P := by intro q_; (with_reducible repeat (first | apply Kd.R_alloc | apply Kd.R_drewN | apply Kd.R_drew)); exact Kd.R_mono q_ (fun _ hk => ⟨hk.1.2, hk.2⟩)) : P := h q
theorem c {Q R P : Prop} (q : Q) (r : R) (h : Q → R → P := by intro q_ r_; repeat (first | exact (Kd.C_below q_ r_) | (with_reducible refine Kd.C_alloc ?_ _) | (with_reducible refine Kd.C_drewN ?_ _) | (with_reducible refine Kd.C_drew ?_))) : P := h q r
theorem p4 {Q P : Prop} (q : Q) (h : Q → P := by intro q_; (with_reducible repeat (first | refine blk_drewN ?_ _ | refine blk_drew ?_ | refine blk_alloc ?_ _)); exact blk_put (blk_put (blk_put (blk_put q_ 0 _ rfl) 1 _ rfl) 2 _ rfl) 3 _ rfl) : P := h q
theorem p3 {Q P : Prop} (q : Q) (h : Q → P := by intro q_; (with_reducible repeat (first | refine blk_drewN ?_ _ | refine blk_drew ?_ | refine blk_alloc ?_ _)); exact blk_put (blk_put (blk_put q_ 0 _ rfl) 1 _ rfl) 2 _ rfl) : P := h q
end Go.Proofs.Ytlololbhlnapkaa.Cz

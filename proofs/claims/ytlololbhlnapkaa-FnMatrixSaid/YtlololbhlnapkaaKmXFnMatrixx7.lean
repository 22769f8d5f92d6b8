/- Plain functions of what the law reaches, proofs that the calls come to them, and the law's row: written by a program of this session (xprint.py) over the kit's print. No conditions beyond each lemma's own. -/
import Derived.Test.YtlololbhlnapkaaKmCy
import Derived.Test.YtlololbhlnapkaaKmXFnMatrixx0
import Derived.Test.YtlololbhlnapkaaKmXFnMatrixx1
import Derived.Test.YtlololbhlnapkaaKmXFnMatrixx6
namespace Go.Proofs.Ytlololbhlnapkaa.XFnMatrix
open Go.RowKit Go.Proofs.YtlololbhlnapkaaW.PrintWords Go.Proofs.YtlololbhlnapkaaW.PrintLast Go.Proofs.YtlololbhlnapkaaW.PrintMore
attribute [local go_sem] max2_int min2_int max_two min_two max_three min_three max_four min_four   -- for this text's walks alone
set_option linter.unusedVariables false
set_option linter.unusedSimpArgs false
mutual
def spec_MatrixMul.j0 : Nat → Bool → Int → Int → List Int → Int → Int → List Int → Option (Int × Int × List Int × Int)
  | 0, _, _, _, _, _, _, _ => none
  | k + 1, x24, x159000, x159001, x159002, x160000, x160001, x160002 => if x24 = true then ((spec_l03Ill.f 1).bind fun bt163 => (some (bt163.1, bt163.2.1, bt163.2.2.1, bt163.2.2.2))) else (spec_MatrixMul.l0 k 0 x159000 x159001 x159002 x160000 x160001 x160002 x159000 x160001 ([] : List Int))
def spec_MatrixMul.l0 : Nat → Int → Int → Int → List Int → Int → Int → List Int → Int → Int → List Int → Option (Int × Int × List Int × Int)
  | 0, _, _, _, _, _, _, _, _, _, _ => none
  | k + 1, x6, x159000, x159001, x159002, x160000, x160001, x160002, x170000, x170001, x170002 => if x6 < x159000 then (spec_MatrixMul.l1 k x6 0 x159000 x159001 x159002 x160000 x160001 x160002 x170000 x170001 x170002) else (some (x170000, x170001, x170002, 0))
def spec_MatrixMul.l1 : Nat → Int → Int → Int → Int → List Int → Int → Int → List Int → Int → Int → List Int → Option (Int × Int × List Int × Int)
  | 0, _, _, _, _, _, _, _, _, _, _, _ => none
  | k + 1, x6, x7, x159000, x159001, x159002, x160000, x160001, x160002, x170000, x170001, x170002 => if x7 < x160001 then (spec_MatrixMul.l2 k x6 x7 0 0 x159000 x159001 x159002 x160000 x160001 x160002 x170000 x170001 x170002) else (spec_MatrixMul.l0 k (wrap64 (x6 + 1)) x159000 x159001 x159002 x160000 x160001 x160002 x170000 x170001 x170002)
def spec_MatrixMul.l2 : Nat → Int → Int → Int → Int → Int → Int → List Int → Int → Int → List Int → Int → Int → List Int → Option (Int × Int × List Int × Int)
  | 0, _, _, _, _, _, _, _, _, _, _, _, _, _ => none
  | k + 1, x6, x7, x8, x9, x159000, x159001, x159002, x160000, x160001, x160002, x170000, x170001, x170002 => if x9 < x159001 then (if 0 ≤ (wrap64 ((wrap64 (x6 * x159001)) + x9)) then (if (wrap64 ((wrap64 (x6 * x159001)) + x9)) < (x159002.length : Int) then (if 0 ≤ (wrap64 ((wrap64 (x9 * x160001)) + x7)) then (if (wrap64 ((wrap64 (x9 * x160001)) + x7)) < (x160002.length : Int) then ((spec_l02Mul.f k (rd x159002 (wrap64 ((wrap64 (x6 * x159001)) + x9))) (rd x160002 (wrap64 ((wrap64 (x9 * x160001)) + x7)))).bind fun t172 => (spec_MatrixMul.l2 k x6 x7 (Go.bits .xor .i64 x8 t172) (wrap64 (x9 + 1)) x159000 x159001 x159002 x160000 x160001 x160002 x170000 x170001 x170002)) else (none)) else (none)) else (none)) else (none)) else (if x170002.length < 17592186044416 then (spec_MatrixMul.l1 k x6 (wrap64 (x7 + 1)) x159000 x159001 x159002 x160000 x160001 x160002 x170000 x170001 (x170002 ++ [x8])) else (none))
end
def spec_MatrixMul.f (k : Nat) (a0_0 : Int) (a0_1 : Int) (l0_2 : List Int) (a1_0 : Int) (a1_1 : Int) (l1_2 : List Int) : Option (Int × Int × List Int × Int) := (spec_MatrixRight.f k a0_0 a0_1 l0_2).bind fun t161 => (if t161 = true then ((spec_MatrixRight.f k a1_0 a1_1 l1_2).bind fun t162 => (if t162 = true then (spec_MatrixMul.j0 k (a0_1 != a1_0) a0_0 a0_1 l0_2 a1_0 a1_1 l1_2) else (spec_MatrixMul.j0 k true a0_0 a0_1 l0_2 a1_0 a1_1 l1_2))) else (spec_MatrixMul.j0 k true a0_0 a0_1 l0_2 a1_0 a1_1 l1_2))
set_option maxHeartbeats 8000000 in
set_option maxRecDepth 100000 in
theorem spec_MatrixMul.calls (k : Nat) (a0_0 : Int) (a0_1 : Int) (A0_2 : Option Addr) (c0_2 : Nat) (l0_2 : List Int) (a1_0 : Int) (a1_1 : Int) (A1_2 : Option Addr) (c1_2 : Nat) (l1_2 : List Int) (r1 : Int) (r2 : Int) (r3 : List Int) (r4 : Int) (w : World) (hr0_2 : Kd.C (Kd.int .i64) w A0_2 l0_2.length l0_2) (hc0_2 : l0_2.length ≤ c0_2) (hr1_2 : Kd.C (Kd.int .i64) w A1_2 l1_2.length l1_2) (hc1_2 : l1_2.length ≤ c1_2) (h : spec_MatrixMul.f k a0_0 a0_1 l0_2 a1_0 a1_1 l1_2 = some (r1, r2, r3, r4)) :
  Calls Try.prog 30 #[.agg #[.int .i64 a0_0, .int .i64 a0_1, .slice A0_2 l0_2.length c0_2], .agg #[.int .i64 a1_0, .int .i64 a1_1, .slice A1_2 l1_2.length c1_2]] w fun e w' => ∃ v2_ : Value, e = .returned (.agg #[.int .i64 r1, .int .i64 r2, v2_, .int .i64 r4]) ∧ Kd.R (Kd.int .i64) 2 w' w.heap.size (fun _ => True) v2_ r3 ∧ Below w.heap.size w w' := by
 have hu27 := Try.underlying27
 have hu35 := Try.underlying35
 have HR0_2 := Aside0.mk hr0_2
 have HC0_2 := Aside0.mk hc0_2
 clear hr0_2 hc0_2
 have HR1_2 := Aside0.mk hr1_2
 have HC1_2 := Aside0.mk hc1_2
 clear hr1_2 hc1_2
 have HB := Aside0.mk (Below.refl w.heap.size w)
 have H : ((spec_MatrixRight.f k a0_0 a0_1 l0_2).bind fun t161 => (if t161 = true then ((spec_MatrixRight.f k a1_0 a1_1 l1_2).bind fun t162 => (if t162 = true then (spec_MatrixMul.j0 k (a0_1 != a1_0) a0_0 a0_1 l0_2 a1_0 a1_1 l1_2) else (spec_MatrixMul.j0 k true a0_0 a0_1 l0_2 a1_0 a1_1 l1_2))) else (spec_MatrixMul.j0 k true a0_0 a0_1 l0_2 a1_0 a1_1 l1_2))) = some (r1, r2, r3, r4) := h
 clear h
 have HC3 := Aside0.mk H
 clear H
 go_enter Try.func30, Try.ntmps30
 go_upto_region 1 with (first | ((with_reducible refine gate_dst (N := 2) rfl ?_); refine box_event ?hg (N := 2) ?hd (cs := #[.int .i64 a0_0, .int .i64 a0_1, .slice A0_2 l0_2.length c0_2]) (t := 27) ?hr ?_; (case hd => rfl); (case hg => rfl); (case hr => first | (go_simp; done) | (go_simp; rfl)); intro gb158 hg w4 hbox hb; have n_ := Cy.a4 (below_step (Cz.w HB.out) hb) hbox (Cy.gw hg HB.out) (Cy.gw hg HB.out); clear HB; obtain ⟨HB, BK158, GW158, GE158⟩ := n_; clear hb hbox hg) | ((with_reducible refine gate_dst (N := 3) rfl ?_); refine box_event ?hg (N := 3) ?hd (cs := #[.int .i64 a1_0, .int .i64 a1_1, .slice A1_2 l1_2.length c1_2]) (t := 27) ?hr ?_; (case hd => rfl); (case hg => rfl); (case hr => first | (go_simp; done) | (go_simp; rfl)); intro gb159 hg w5 hbox hb; have n_ := Cy.a7 (blk_below (g := gb158) (o := .cells #[.int .i64 a0_0, .int .i64 a0_1, .slice A0_2 l0_2.length c0_2] 27 (0, 0)) (Cz.b BK158.out) hb) (below_step (Cz.w HB.out) hb) hbox (Cy.gw hg HB.out) (Cy.gw hg HB.out) (by rw [hg]; exact Nat.ne_of_lt (blk_lt (g := gb158) (o := .cells #[.int .i64 a0_0, .int .i64 a0_1, .slice A0_2 l0_2.length c0_2] 27 (0, 0)) (Cz.b BK158.out)) : gb158 ≠ gb159) (by rw [hg]; exact Nat.ne_of_gt (blk_lt (g := gb158) (o := .cells #[.int .i64 a0_0, .int .i64 a0_1, .slice A0_2 l0_2.length c0_2] 27 (0, 0)) (Cz.b BK158.out)) : gb159 ≠ gb158); clear BK158 HB; obtain ⟨BK158, HB, BK159, GW159, GE159, NB158_159, NB159_158⟩ := n_; clear hb hbox hg) | ((with_reducible refine gate_dst (N := 4) rfl ?_); refine box_event ?hg (N := 4) ?hd (cs := #[.int .i64 0, .int .i64 0, .slice none 0 0, .int .i64 0]) (t := 35) ?hr ?_; (case hd => rfl); (case hg => rfl); (case hr => first | (go_simp; done) | (go_simp; rfl)); intro gb160 hg w6 hbox hb; have n_ := Cy.a10 (blk_below (g := gb158) (o := .cells #[.int .i64 a0_0, .int .i64 a0_1, .slice A0_2 l0_2.length c0_2] 27 (0, 0)) (Cz.b BK158.out) hb) (blk_below (g := gb159) (o := .cells #[.int .i64 a1_0, .int .i64 a1_1, .slice A1_2 l1_2.length c1_2] 27 (0, 0)) (Cz.b BK159.out) hb) (below_step (Cz.w HB.out) hb) hbox (Cy.gw hg HB.out) (Cy.gw hg HB.out) (by rw [hg]; exact Nat.ne_of_lt (blk_lt (g := gb158) (o := .cells #[.int .i64 a0_0, .int .i64 a0_1, .slice A0_2 l0_2.length c0_2] 27 (0, 0)) (Cz.b BK158.out)) : gb158 ≠ gb160) (by rw [hg]; exact Nat.ne_of_gt (blk_lt (g := gb158) (o := .cells #[.int .i64 a0_0, .int .i64 a0_1, .slice A0_2 l0_2.length c0_2] 27 (0, 0)) (Cz.b BK158.out)) : gb160 ≠ gb158) (by rw [hg]; exact Nat.ne_of_lt (blk_lt (g := gb159) (o := .cells #[.int .i64 a1_0, .int .i64 a1_1, .slice A1_2 l1_2.length c1_2] 27 (0, 0)) (Cz.b BK159.out)) : gb159 ≠ gb160) (by rw [hg]; exact Nat.ne_of_gt (blk_lt (g := gb159) (o := .cells #[.int .i64 a1_0, .int .i64 a1_1, .slice A1_2 l1_2.length c1_2] 27 (0, 0)) (Cz.b BK159.out)) : gb160 ≠ gb159); clear BK158 BK159 HB; obtain ⟨BK158, BK159, HB, BK160, GW160, GE160, NB158_160, NB160_158, NB159_160, NB160_159⟩ := n_; clear hb hbox hg))
 repeat (go_quiet (first | ((with_reducible refine gate_dst (N := 2) rfl ?_); refine box_event ?hg (N := 2) ?hd (cs := #[.int .i64 a0_0, .int .i64 a0_1, .slice A0_2 l0_2.length c0_2]) (t := 27) ?hr ?_; (case hd => rfl); (case hg => rfl); (case hr => first | (go_simp; done) | (go_simp; rfl)); intro gb158 hg w4 hbox hb; have n_ := Cy.a4 (below_step (Cz.w HB.out) hb) hbox (Cy.gw hg HB.out) (Cy.gw hg HB.out); clear HB; obtain ⟨HB, BK158, GW158, GE158⟩ := n_; clear hb hbox hg) | ((with_reducible refine gate_dst (N := 3) rfl ?_); refine box_event ?hg (N := 3) ?hd (cs := #[.int .i64 a1_0, .int .i64 a1_1, .slice A1_2 l1_2.length c1_2]) (t := 27) ?hr ?_; (case hd => rfl); (case hg => rfl); (case hr => first | (go_simp; done) | (go_simp; rfl)); intro gb159 hg w5 hbox hb; have n_ := Cy.a7 (blk_below (g := gb158) (o := .cells #[.int .i64 a0_0, .int .i64 a0_1, .slice A0_2 l0_2.length c0_2] 27 (0, 0)) (Cz.b BK158.out) hb) (below_step (Cz.w HB.out) hb) hbox (Cy.gw hg HB.out) (Cy.gw hg HB.out) (by rw [hg]; exact Nat.ne_of_lt (blk_lt (g := gb158) (o := .cells #[.int .i64 a0_0, .int .i64 a0_1, .slice A0_2 l0_2.length c0_2] 27 (0, 0)) (Cz.b BK158.out)) : gb158 ≠ gb159) (by rw [hg]; exact Nat.ne_of_gt (blk_lt (g := gb158) (o := .cells #[.int .i64 a0_0, .int .i64 a0_1, .slice A0_2 l0_2.length c0_2] 27 (0, 0)) (Cz.b BK158.out)) : gb159 ≠ gb158); clear BK158 HB; obtain ⟨BK158, HB, BK159, GW159, GE159, NB158_159, NB159_158⟩ := n_; clear hb hbox hg) | ((with_reducible refine gate_dst (N := 4) rfl ?_); refine box_event ?hg (N := 4) ?hd (cs := #[.int .i64 0, .int .i64 0, .slice none 0 0, .int .i64 0]) (t := 35) ?hr ?_; (case hd => rfl); (case hg => rfl); (case hr => first | (go_simp; done) | (go_simp; rfl)); intro gb160 hg w6 hbox hb; have n_ := Cy.a10 (blk_below (g := gb158) (o := .cells #[.int .i64 a0_0, .int .i64 a0_1, .slice A0_2 l0_2.length c0_2] 27 (0, 0)) (Cz.b BK158.out) hb) (blk_below (g := gb159) (o := .cells #[.int .i64 a1_0, .int .i64 a1_1, .slice A1_2 l1_2.length c1_2] 27 (0, 0)) (Cz.b BK159.out) hb) (below_step (Cz.w HB.out) hb) hbox (Cy.gw hg HB.out) (Cy.gw hg HB.out) (by rw [hg]; exact Nat.ne_of_lt (blk_lt (g := gb158) (o := .cells #[.int .i64 a0_0, .int .i64 a0_1, .slice A0_2 l0_2.length c0_2] 27 (0, 0)) (Cz.b BK158.out)) : gb158 ≠ gb160) (by rw [hg]; exact Nat.ne_of_gt (blk_lt (g := gb158) (o := .cells #[.int .i64 a0_0, .int .i64 a0_1, .slice A0_2 l0_2.length c0_2] 27 (0, 0)) (Cz.b BK158.out)) : gb160 ≠ gb158) (by rw [hg]; exact Nat.ne_of_lt (blk_lt (g := gb159) (o := .cells #[.int .i64 a1_0, .int .i64 a1_1, .slice A1_2 l1_2.length c1_2] 27 (0, 0)) (Cz.b BK159.out)) : gb159 ≠ gb160) (by rw [hg]; exact Nat.ne_of_gt (blk_lt (g := gb159) (o := .cells #[.int .i64 a1_0, .int .i64 a1_1, .slice A1_2 l1_2.length c1_2] 27 (0, 0)) (Cz.b BK159.out)) : gb160 ≠ gb159); clear BK158 BK159 HB; obtain ⟨BK158, BK159, HB, BK160, GW160, GE160, NB158_160, NB160_158, NB159_160, NB160_159⟩ := n_; clear hb hbox hg)); go_upto_region 1 with (first | ((with_reducible refine gate_dst (N := 2) rfl ?_); refine box_event ?hg (N := 2) ?hd (cs := #[.int .i64 a0_0, .int .i64 a0_1, .slice A0_2 l0_2.length c0_2]) (t := 27) ?hr ?_; (case hd => rfl); (case hg => rfl); (case hr => first | (go_simp; done) | (go_simp; rfl)); intro gb158 hg w4 hbox hb; have n_ := Cy.a4 (below_step (Cz.w HB.out) hb) hbox (Cy.gw hg HB.out) (Cy.gw hg HB.out); clear HB; obtain ⟨HB, BK158, GW158, GE158⟩ := n_; clear hb hbox hg) | ((with_reducible refine gate_dst (N := 3) rfl ?_); refine box_event ?hg (N := 3) ?hd (cs := #[.int .i64 a1_0, .int .i64 a1_1, .slice A1_2 l1_2.length c1_2]) (t := 27) ?hr ?_; (case hd => rfl); (case hg => rfl); (case hr => first | (go_simp; done) | (go_simp; rfl)); intro gb159 hg w5 hbox hb; have n_ := Cy.a7 (blk_below (g := gb158) (o := .cells #[.int .i64 a0_0, .int .i64 a0_1, .slice A0_2 l0_2.length c0_2] 27 (0, 0)) (Cz.b BK158.out) hb) (below_step (Cz.w HB.out) hb) hbox (Cy.gw hg HB.out) (Cy.gw hg HB.out) (by rw [hg]; exact Nat.ne_of_lt (blk_lt (g := gb158) (o := .cells #[.int .i64 a0_0, .int .i64 a0_1, .slice A0_2 l0_2.length c0_2] 27 (0, 0)) (Cz.b BK158.out)) : gb158 ≠ gb159) (by rw [hg]; exact Nat.ne_of_gt (blk_lt (g := gb158) (o := .cells #[.int .i64 a0_0, .int .i64 a0_1, .slice A0_2 l0_2.length c0_2] 27 (0, 0)) (Cz.b BK158.out)) : gb159 ≠ gb158); clear BK158 HB; obtain ⟨BK158, HB, BK159, GW159, GE159, NB158_159, NB159_158⟩ := n_; clear hb hbox hg) | ((with_reducible refine gate_dst (N := 4) rfl ?_); refine box_event ?hg (N := 4) ?hd (cs := #[.int .i64 0, .int .i64 0, .slice none 0 0, .int .i64 0]) (t := 35) ?hr ?_; (case hd => rfl); (case hg => rfl); (case hr => first | (go_simp; done) | (go_simp; rfl)); intro gb160 hg w6 hbox hb; have n_ := Cy.a10 (blk_below (g := gb158) (o := .cells #[.int .i64 a0_0, .int .i64 a0_1, .slice A0_2 l0_2.length c0_2] 27 (0, 0)) (Cz.b BK158.out) hb) (blk_below (g := gb159) (o := .cells #[.int .i64 a1_0, .int .i64 a1_1, .slice A1_2 l1_2.length c1_2] 27 (0, 0)) (Cz.b BK159.out) hb) (below_step (Cz.w HB.out) hb) hbox (Cy.gw hg HB.out) (Cy.gw hg HB.out) (by rw [hg]; exact Nat.ne_of_lt (blk_lt (g := gb158) (o := .cells #[.int .i64 a0_0, .int .i64 a0_1, .slice A0_2 l0_2.length c0_2] 27 (0, 0)) (Cz.b BK158.out)) : gb158 ≠ gb160) (by rw [hg]; exact Nat.ne_of_gt (blk_lt (g := gb158) (o := .cells #[.int .i64 a0_0, .int .i64 a0_1, .slice A0_2 l0_2.length c0_2] 27 (0, 0)) (Cz.b BK158.out)) : gb160 ≠ gb158) (by rw [hg]; exact Nat.ne_of_lt (blk_lt (g := gb159) (o := .cells #[.int .i64 a1_0, .int .i64 a1_1, .slice A1_2 l1_2.length c1_2] 27 (0, 0)) (Cz.b BK159.out)) : gb159 ≠ gb160) (by rw [hg]; exact Nat.ne_of_gt (blk_lt (g := gb159) (o := .cells #[.int .i64 a1_0, .int .i64 a1_1, .slice A1_2 l1_2.length c1_2] 27 (0, 0)) (Cz.b BK159.out)) : gb160 ≠ gb159); clear BK158 BK159 HB; obtain ⟨BK158, BK159, HB, BK160, GW160, GE160, NB158_160, NB160_158, NB159_160, NB160_159⟩ := n_; clear hb hbox hg)))
 (try simp only [Act.put, List.setIfInBounds_toArray, List.set_cons_zero, List.set_cons_succ])
 go_cut [24] (fun v24 wc => ∃ (kq : Nat) (x24_2 : Bool), v24 = .bool x24_2 ∧ Aside0 (spec_MatrixMul.j0 kq x24_2 a0_0 a0_1 l0_2 a1_0 a1_1 l1_2 = some (r1, r2, r3, r4)) ∧ Aside0 (kq ≤ k) ∧ Aside0 (wc.heap[gb158]? = some (.cells #[.int .i64 a0_0, .int .i64 a0_1, (.slice A0_2 l0_2.length c0_2)] 27 (0, 0))) ∧ Aside0 (wc.heap[gb159]? = some (.cells #[.int .i64 a1_0, .int .i64 a1_1, (.slice A1_2 l1_2.length c1_2)] 27 (0, 0))) ∧ Aside0 (wc.heap[gb160]? = some (.cells #[.int .i64 0, .int .i64 0, (.slice none 0 0), .int .i64 0] 35 (0, 0))) ∧ Aside0 (Below w.heap.size w wc))
 case first =>
  have H := HC3.out
  clear HC3
  replace H := Option.bind_eq_some_iff.mp H
  obtain ⟨t161, A70, H⟩ := H
  replace H : (if t161 = true then ((spec_MatrixRight.f k a1_0 a1_1 l1_2).bind fun t162 => (if t162 = true then (spec_MatrixMul.j0 k (a0_1 != a1_0) a0_0 a0_1 l0_2 a1_0 a1_1 l1_2) else (spec_MatrixMul.j0 k true a0_0 a0_1 l0_2 a1_0 a1_1 l1_2))) else (spec_MatrixMul.j0 k true a0_0 a0_1 l0_2 a1_0 a1_1 l1_2)) = some (r1, r2, r3, r4) := H
  have A7 := Aside0.mk A70
  clear A70
  by_cases c8 : t161 = true
  ·subst c8
   have H1 : ((spec_MatrixRight.f k a1_0 a1_1 l1_2).bind fun t162 => (if t162 = true then (spec_MatrixMul.j0 k (a0_1 != a1_0) a0_0 a0_1 l0_2 a1_0 a1_1 l1_2) else (spec_MatrixMul.j0 k true a0_0 a0_1 l0_2 a1_0 a1_1 l1_2))) = some (r1, r2, r3, r4) := by rw [if_pos rfl] at H; exact H
   clear H
   have H := H1
   clear H1
   replace H := Option.bind_eq_some_iff.mp H
   obtain ⟨t162, A90, H⟩ := H
   replace H : (if t162 = true then (spec_MatrixMul.j0 k (a0_1 != a1_0) a0_0 a0_1 l0_2 a1_0 a1_1 l1_2) else (spec_MatrixMul.j0 k true a0_0 a0_1 l0_2 a1_0 a1_1 l1_2)) = some (r1, r2, r3, r4) := H
   have A9 := Aside0.mk A90
   clear A90
   by_cases c10 : t162 = true
   ·subst c10
    have H1 : (spec_MatrixMul.j0 k (a0_1 != a1_0) a0_0 a0_1 l0_2 a1_0 a1_1 l1_2) = some (r1, r2, r3, r4) := by rw [if_pos rfl] at H; exact H
    clear H
    have H := H1
    clear H1
    have H' := Aside0.mk H
    clear H
    have hnb11 := NB158_159.out
    have hnc11 := NB159_158.out
    have hnb12 := NB158_160.out
    have hnc12 := NB160_158.out
    obtain ⟨hcz13_0, hcz13_1, hcz13_2, hfz13_0, hfz13_1, hfz13_2⟩ := Cy.z3 BK158.out
    go_wp2_with (first | (go_at_call 16; (with_reducible refine (spec_MatrixRight.calls k a0_0 a0_1 _ _ l0_2 true _ ?side1 ?side2 A7.out).mono ?_); (case side1 => exact Cz.c HR0_2.out HB.out); (case side2 => exact HC0_2.out); rintro e w14 ⟨rfl, hb⟩; have n_ := Cy.a4 (blk_below (g := gb158) (o := .cells #[.int .i64 a0_0, .int .i64 a0_1, .slice A0_2 l0_2.length c0_2] 27 (0, 0)) (Cz.b BK158.out) hb) (blk_below (g := gb159) (o := .cells #[.int .i64 a1_0, .int .i64 a1_1, .slice A1_2 l1_2.length c1_2] 27 (0, 0)) (Cz.b BK159.out) hb) (blk_below (g := gb160) (o := .cells #[.int .i64 0, .int .i64 0, .slice none 0 0, .int .i64 0] 35 (0, 0)) (Cz.b BK160.out) hb) (below_step (Cz.w HB.out) hb); clear BK158 BK159 BK160 HB; obtain ⟨BK158, BK159, BK160, HB⟩ := n_; (try clear hb); (try clear hb2); (try clear hk); (try clear hi); have hnb15 := NB159_160.out; have hnc15 := NB160_159.out; obtain ⟨hcz16_0, hcz16_1, hcz16_2, hfz16_0, hfz16_1, hfz16_2⟩ := Cy.z3 BK159.out) | (go_at_call 16; (with_reducible refine (spec_MatrixRight.calls k a1_0 a1_1 _ _ l1_2 true _ ?side1 ?side2 A9.out).mono ?_); (case side1 => exact Cz.c HR1_2.out HB.out); (case side2 => exact HC1_2.out); rintro e w17 ⟨rfl, hb⟩; have n_ := Cy.a4 (blk_below (g := gb158) (o := .cells #[.int .i64 a0_0, .int .i64 a0_1, .slice A0_2 l0_2.length c0_2] 27 (0, 0)) (Cz.b BK158.out) hb) (blk_below (g := gb159) (o := .cells #[.int .i64 a1_0, .int .i64 a1_1, .slice A1_2 l1_2.length c1_2] 27 (0, 0)) (Cz.b BK159.out) hb) (blk_below (g := gb160) (o := .cells #[.int .i64 0, .int .i64 0, .slice none 0 0, .int .i64 0] 35 (0, 0)) (Cz.b BK160.out) hb) (below_step (Cz.w HB.out) hb); clear BK158 BK159 BK160 HB; obtain ⟨BK158, BK159, BK160, HB⟩ := n_; (try clear hb); (try clear hb2); (try clear hk); (try clear hi); obtain ⟨hcz18_0, hcz18_1, hcz18_2, hfz18_0, hfz18_1, hfz18_2⟩ := Cy.z3 BK158.out; obtain ⟨hcz19_0, hcz19_1, hcz19_2, hfz19_0, hfz19_1, hfz19_2⟩ := Cy.z3 BK159.out))
    repeat (go_quiet (first | (go_at_call 16; (with_reducible refine (spec_MatrixRight.calls k a0_0 a0_1 _ _ l0_2 true _ ?side1 ?side2 A7.out).mono ?_); (case side1 => exact Cz.c HR0_2.out HB.out); (case side2 => exact HC0_2.out); rintro e w14 ⟨rfl, hb⟩; have n_ := Cy.a4 (blk_below (g := gb158) (o := .cells #[.int .i64 a0_0, .int .i64 a0_1, .slice A0_2 l0_2.length c0_2] 27 (0, 0)) (Cz.b BK158.out) hb) (blk_below (g := gb159) (o := .cells #[.int .i64 a1_0, .int .i64 a1_1, .slice A1_2 l1_2.length c1_2] 27 (0, 0)) (Cz.b BK159.out) hb) (blk_below (g := gb160) (o := .cells #[.int .i64 0, .int .i64 0, .slice none 0 0, .int .i64 0] 35 (0, 0)) (Cz.b BK160.out) hb) (below_step (Cz.w HB.out) hb); clear BK158 BK159 BK160 HB; obtain ⟨BK158, BK159, BK160, HB⟩ := n_; (try clear hb); (try clear hb2); (try clear hk); (try clear hi); have hnb15 := NB159_160.out; have hnc15 := NB160_159.out; obtain ⟨hcz16_0, hcz16_1, hcz16_2, hfz16_0, hfz16_1, hfz16_2⟩ := Cy.z3 BK159.out) | (go_at_call 16; (with_reducible refine (spec_MatrixRight.calls k a1_0 a1_1 _ _ l1_2 true _ ?side1 ?side2 A9.out).mono ?_); (case side1 => exact Cz.c HR1_2.out HB.out); (case side2 => exact HC1_2.out); rintro e w17 ⟨rfl, hb⟩; have n_ := Cy.a4 (blk_below (g := gb158) (o := .cells #[.int .i64 a0_0, .int .i64 a0_1, .slice A0_2 l0_2.length c0_2] 27 (0, 0)) (Cz.b BK158.out) hb) (blk_below (g := gb159) (o := .cells #[.int .i64 a1_0, .int .i64 a1_1, .slice A1_2 l1_2.length c1_2] 27 (0, 0)) (Cz.b BK159.out) hb) (blk_below (g := gb160) (o := .cells #[.int .i64 0, .int .i64 0, .slice none 0 0, .int .i64 0] 35 (0, 0)) (Cz.b BK160.out) hb) (below_step (Cz.w HB.out) hb); clear BK158 BK159 BK160 HB; obtain ⟨BK158, BK159, BK160, HB⟩ := n_; (try clear hb); (try clear hb2); (try clear hk); (try clear hi); obtain ⟨hcz18_0, hcz18_1, hcz18_2, hfz18_0, hfz18_1, hfz18_2⟩ := Cy.z3 BK158.out; obtain ⟨hcz19_0, hcz19_1, hcz19_2, hfz19_0, hfz19_1, hfz19_2⟩ := Cy.z3 BK159.out)); try go_wp2_with (first | (go_at_call 16; (with_reducible refine (spec_MatrixRight.calls k a0_0 a0_1 _ _ l0_2 true _ ?side1 ?side2 A7.out).mono ?_); (case side1 => exact Cz.c HR0_2.out HB.out); (case side2 => exact HC0_2.out); rintro e w14 ⟨rfl, hb⟩; have n_ := Cy.a4 (blk_below (g := gb158) (o := .cells #[.int .i64 a0_0, .int .i64 a0_1, .slice A0_2 l0_2.length c0_2] 27 (0, 0)) (Cz.b BK158.out) hb) (blk_below (g := gb159) (o := .cells #[.int .i64 a1_0, .int .i64 a1_1, .slice A1_2 l1_2.length c1_2] 27 (0, 0)) (Cz.b BK159.out) hb) (blk_below (g := gb160) (o := .cells #[.int .i64 0, .int .i64 0, .slice none 0 0, .int .i64 0] 35 (0, 0)) (Cz.b BK160.out) hb) (below_step (Cz.w HB.out) hb); clear BK158 BK159 BK160 HB; obtain ⟨BK158, BK159, BK160, HB⟩ := n_; (try clear hb); (try clear hb2); (try clear hk); (try clear hi); have hnb15 := NB159_160.out; have hnc15 := NB160_159.out; obtain ⟨hcz16_0, hcz16_1, hcz16_2, hfz16_0, hfz16_1, hfz16_2⟩ := Cy.z3 BK159.out) | (go_at_call 16; (with_reducible refine (spec_MatrixRight.calls k a1_0 a1_1 _ _ l1_2 true _ ?side1 ?side2 A9.out).mono ?_); (case side1 => exact Cz.c HR1_2.out HB.out); (case side2 => exact HC1_2.out); rintro e w17 ⟨rfl, hb⟩; have n_ := Cy.a4 (blk_below (g := gb158) (o := .cells #[.int .i64 a0_0, .int .i64 a0_1, .slice A0_2 l0_2.length c0_2] 27 (0, 0)) (Cz.b BK158.out) hb) (blk_below (g := gb159) (o := .cells #[.int .i64 a1_0, .int .i64 a1_1, .slice A1_2 l1_2.length c1_2] 27 (0, 0)) (Cz.b BK159.out) hb) (blk_below (g := gb160) (o := .cells #[.int .i64 0, .int .i64 0, .slice none 0 0, .int .i64 0] 35 (0, 0)) (Cz.b BK160.out) hb) (below_step (Cz.w HB.out) hb); clear BK158 BK159 BK160 HB; obtain ⟨BK158, BK159, BK160, HB⟩ := n_; (try clear hb); (try clear hb2); (try clear hk); (try clear hi); obtain ⟨hcz18_0, hcz18_1, hcz18_2, hfz18_0, hfz18_1, hfz18_2⟩ := Cy.z3 BK158.out; obtain ⟨hcz19_0, hcz19_1, hcz19_2, hfz19_0, hfz19_1, hfz19_2⟩ := Cy.z3 BK159.out)))
    go_meet
    case rel => exact ⟨_, ((a0_1 != a1_0)), (by first | rfl | (simp; done) | (simp [*]; done)), H', ⟨by first | omega | exact Nat.le_refl _⟩, ⟨Cz.b BK158.out⟩, ⟨Cz.b BK159.out⟩, ⟨Cz.b BK160.out⟩, ⟨Cz.w HB.out⟩⟩
   ·replace c10 := Bool.eq_false_iff.mpr c10
    subst c10
    have H1 : (spec_MatrixMul.j0 k true a0_0 a0_1 l0_2 a1_0 a1_1 l1_2) = some (r1, r2, r3, r4) := by rw [if_neg (show ¬ (false = true) by decide)] at H; exact H
    clear H
    have H := H1
    clear H1
    have H' := Aside0.mk H
    clear H
    have hnb20 := NB158_159.out
    have hnc20 := NB159_158.out
    have hnb21 := NB158_160.out
    have hnc21 := NB160_158.out
    obtain ⟨hcz22_0, hcz22_1, hcz22_2, hfz22_0, hfz22_1, hfz22_2⟩ := Cy.z3 BK158.out
    go_wp2_with (first | (go_at_call 16; (with_reducible refine (spec_MatrixRight.calls k a0_0 a0_1 _ _ l0_2 true _ ?side1 ?side2 A7.out).mono ?_); (case side1 => exact Cz.c HR0_2.out HB.out); (case side2 => exact HC0_2.out); rintro e w23 ⟨rfl, hb⟩; have n_ := Cy.a4 (blk_below (g := gb158) (o := .cells #[.int .i64 a0_0, .int .i64 a0_1, .slice A0_2 l0_2.length c0_2] 27 (0, 0)) (Cz.b BK158.out) hb) (blk_below (g := gb159) (o := .cells #[.int .i64 a1_0, .int .i64 a1_1, .slice A1_2 l1_2.length c1_2] 27 (0, 0)) (Cz.b BK159.out) hb) (blk_below (g := gb160) (o := .cells #[.int .i64 0, .int .i64 0, .slice none 0 0, .int .i64 0] 35 (0, 0)) (Cz.b BK160.out) hb) (below_step (Cz.w HB.out) hb); clear BK158 BK159 BK160 HB; obtain ⟨BK158, BK159, BK160, HB⟩ := n_; (try clear hb); (try clear hb2); (try clear hk); (try clear hi); have hnb24 := NB159_160.out; have hnc24 := NB160_159.out; obtain ⟨hcz25_0, hcz25_1, hcz25_2, hfz25_0, hfz25_1, hfz25_2⟩ := Cy.z3 BK159.out) | (go_at_call 16; (with_reducible refine (spec_MatrixRight.calls k a1_0 a1_1 _ _ l1_2 false _ ?side1 ?side2 A9.out).mono ?_); (case side1 => exact Cz.c HR1_2.out HB.out); (case side2 => exact HC1_2.out); rintro e w26 ⟨rfl, hb⟩; have n_ := Cy.a4 (blk_below (g := gb158) (o := .cells #[.int .i64 a0_0, .int .i64 a0_1, .slice A0_2 l0_2.length c0_2] 27 (0, 0)) (Cz.b BK158.out) hb) (blk_below (g := gb159) (o := .cells #[.int .i64 a1_0, .int .i64 a1_1, .slice A1_2 l1_2.length c1_2] 27 (0, 0)) (Cz.b BK159.out) hb) (blk_below (g := gb160) (o := .cells #[.int .i64 0, .int .i64 0, .slice none 0 0, .int .i64 0] 35 (0, 0)) (Cz.b BK160.out) hb) (below_step (Cz.w HB.out) hb); clear BK158 BK159 BK160 HB; obtain ⟨BK158, BK159, BK160, HB⟩ := n_; (try clear hb); (try clear hb2); (try clear hk); (try clear hi)))
    repeat (go_quiet (first | (go_at_call 16; (with_reducible refine (spec_MatrixRight.calls k a0_0 a0_1 _ _ l0_2 true _ ?side1 ?side2 A7.out).mono ?_); (case side1 => exact Cz.c HR0_2.out HB.out); (case side2 => exact HC0_2.out); rintro e w23 ⟨rfl, hb⟩; have n_ := Cy.a4 (blk_below (g := gb158) (o := .cells #[.int .i64 a0_0, .int .i64 a0_1, .slice A0_2 l0_2.length c0_2] 27 (0, 0)) (Cz.b BK158.out) hb) (blk_below (g := gb159) (o := .cells #[.int .i64 a1_0, .int .i64 a1_1, .slice A1_2 l1_2.length c1_2] 27 (0, 0)) (Cz.b BK159.out) hb) (blk_below (g := gb160) (o := .cells #[.int .i64 0, .int .i64 0, .slice none 0 0, .int .i64 0] 35 (0, 0)) (Cz.b BK160.out) hb) (below_step (Cz.w HB.out) hb); clear BK158 BK159 BK160 HB; obtain ⟨BK158, BK159, BK160, HB⟩ := n_; (try clear hb); (try clear hb2); (try clear hk); (try clear hi); have hnb24 := NB159_160.out; have hnc24 := NB160_159.out; obtain ⟨hcz25_0, hcz25_1, hcz25_2, hfz25_0, hfz25_1, hfz25_2⟩ := Cy.z3 BK159.out) | (go_at_call 16; (with_reducible refine (spec_MatrixRight.calls k a1_0 a1_1 _ _ l1_2 false _ ?side1 ?side2 A9.out).mono ?_); (case side1 => exact Cz.c HR1_2.out HB.out); (case side2 => exact HC1_2.out); rintro e w26 ⟨rfl, hb⟩; have n_ := Cy.a4 (blk_below (g := gb158) (o := .cells #[.int .i64 a0_0, .int .i64 a0_1, .slice A0_2 l0_2.length c0_2] 27 (0, 0)) (Cz.b BK158.out) hb) (blk_below (g := gb159) (o := .cells #[.int .i64 a1_0, .int .i64 a1_1, .slice A1_2 l1_2.length c1_2] 27 (0, 0)) (Cz.b BK159.out) hb) (blk_below (g := gb160) (o := .cells #[.int .i64 0, .int .i64 0, .slice none 0 0, .int .i64 0] 35 (0, 0)) (Cz.b BK160.out) hb) (below_step (Cz.w HB.out) hb); clear BK158 BK159 BK160 HB; obtain ⟨BK158, BK159, BK160, HB⟩ := n_; (try clear hb); (try clear hb2); (try clear hk); (try clear hi))); try go_wp2_with (first | (go_at_call 16; (with_reducible refine (spec_MatrixRight.calls k a0_0 a0_1 _ _ l0_2 true _ ?side1 ?side2 A7.out).mono ?_); (case side1 => exact Cz.c HR0_2.out HB.out); (case side2 => exact HC0_2.out); rintro e w23 ⟨rfl, hb⟩; have n_ := Cy.a4 (blk_below (g := gb158) (o := .cells #[.int .i64 a0_0, .int .i64 a0_1, .slice A0_2 l0_2.length c0_2] 27 (0, 0)) (Cz.b BK158.out) hb) (blk_below (g := gb159) (o := .cells #[.int .i64 a1_0, .int .i64 a1_1, .slice A1_2 l1_2.length c1_2] 27 (0, 0)) (Cz.b BK159.out) hb) (blk_below (g := gb160) (o := .cells #[.int .i64 0, .int .i64 0, .slice none 0 0, .int .i64 0] 35 (0, 0)) (Cz.b BK160.out) hb) (below_step (Cz.w HB.out) hb); clear BK158 BK159 BK160 HB; obtain ⟨BK158, BK159, BK160, HB⟩ := n_; (try clear hb); (try clear hb2); (try clear hk); (try clear hi); have hnb24 := NB159_160.out; have hnc24 := NB160_159.out; obtain ⟨hcz25_0, hcz25_1, hcz25_2, hfz25_0, hfz25_1, hfz25_2⟩ := Cy.z3 BK159.out) | (go_at_call 16; (with_reducible refine (spec_MatrixRight.calls k a1_0 a1_1 _ _ l1_2 false _ ?side1 ?side2 A9.out).mono ?_); (case side1 => exact Cz.c HR1_2.out HB.out); (case side2 => exact HC1_2.out); rintro e w26 ⟨rfl, hb⟩; have n_ := Cy.a4 (blk_below (g := gb158) (o := .cells #[.int .i64 a0_0, .int .i64 a0_1, .slice A0_2 l0_2.length c0_2] 27 (0, 0)) (Cz.b BK158.out) hb) (blk_below (g := gb159) (o := .cells #[.int .i64 a1_0, .int .i64 a1_1, .slice A1_2 l1_2.length c1_2] 27 (0, 0)) (Cz.b BK159.out) hb) (blk_below (g := gb160) (o := .cells #[.int .i64 0, .int .i64 0, .slice none 0 0, .int .i64 0] 35 (0, 0)) (Cz.b BK160.out) hb) (below_step (Cz.w HB.out) hb); clear BK158 BK159 BK160 HB; obtain ⟨BK158, BK159, BK160, HB⟩ := n_; (try clear hb); (try clear hb2); (try clear hk); (try clear hi))))
    go_meet
    case rel => exact ⟨_, (true), (by first | rfl | (simp; done) | (simp [*]; done)), H', ⟨by first | omega | exact Nat.le_refl _⟩, ⟨Cz.b BK158.out⟩, ⟨Cz.b BK159.out⟩, ⟨Cz.b BK160.out⟩, ⟨Cz.w HB.out⟩⟩
  ·replace c8 := Bool.eq_false_iff.mpr c8
   subst c8
   have H1 : (spec_MatrixMul.j0 k true a0_0 a0_1 l0_2 a1_0 a1_1 l1_2) = some (r1, r2, r3, r4) := by rw [if_neg (show ¬ (false = true) by decide)] at H; exact H
   clear H
   have H := H1
   clear H1
   have H' := Aside0.mk H
   clear H
   have hnb27 := NB158_159.out
   have hnc27 := NB159_158.out
   have hnb28 := NB158_160.out
   have hnc28 := NB160_158.out
   obtain ⟨hcz29_0, hcz29_1, hcz29_2, hfz29_0, hfz29_1, hfz29_2⟩ := Cy.z3 BK158.out
   go_wp2_with (first | (go_at_call 16; (with_reducible refine (spec_MatrixRight.calls k a0_0 a0_1 _ _ l0_2 false _ ?side1 ?side2 A7.out).mono ?_); (case side1 => exact Cz.c HR0_2.out HB.out); (case side2 => exact HC0_2.out); rintro e w30 ⟨rfl, hb⟩; have n_ := Cy.a4 (blk_below (g := gb158) (o := .cells #[.int .i64 a0_0, .int .i64 a0_1, .slice A0_2 l0_2.length c0_2] 27 (0, 0)) (Cz.b BK158.out) hb) (blk_below (g := gb159) (o := .cells #[.int .i64 a1_0, .int .i64 a1_1, .slice A1_2 l1_2.length c1_2] 27 (0, 0)) (Cz.b BK159.out) hb) (blk_below (g := gb160) (o := .cells #[.int .i64 0, .int .i64 0, .slice none 0 0, .int .i64 0] 35 (0, 0)) (Cz.b BK160.out) hb) (below_step (Cz.w HB.out) hb); clear BK158 BK159 BK160 HB; obtain ⟨BK158, BK159, BK160, HB⟩ := n_; (try clear hb); (try clear hb2); (try clear hk); (try clear hi)))
   repeat (go_quiet (first | (go_at_call 16; (with_reducible refine (spec_MatrixRight.calls k a0_0 a0_1 _ _ l0_2 false _ ?side1 ?side2 A7.out).mono ?_); (case side1 => exact Cz.c HR0_2.out HB.out); (case side2 => exact HC0_2.out); rintro e w30 ⟨rfl, hb⟩; have n_ := Cy.a4 (blk_below (g := gb158) (o := .cells #[.int .i64 a0_0, .int .i64 a0_1, .slice A0_2 l0_2.length c0_2] 27 (0, 0)) (Cz.b BK158.out) hb) (blk_below (g := gb159) (o := .cells #[.int .i64 a1_0, .int .i64 a1_1, .slice A1_2 l1_2.length c1_2] 27 (0, 0)) (Cz.b BK159.out) hb) (blk_below (g := gb160) (o := .cells #[.int .i64 0, .int .i64 0, .slice none 0 0, .int .i64 0] 35 (0, 0)) (Cz.b BK160.out) hb) (below_step (Cz.w HB.out) hb); clear BK158 BK159 BK160 HB; obtain ⟨BK158, BK159, BK160, HB⟩ := n_; (try clear hb); (try clear hb2); (try clear hk); (try clear hi))); try go_wp2_with (first | (go_at_call 16; (with_reducible refine (spec_MatrixRight.calls k a0_0 a0_1 _ _ l0_2 false _ ?side1 ?side2 A7.out).mono ?_); (case side1 => exact Cz.c HR0_2.out HB.out); (case side2 => exact HC0_2.out); rintro e w30 ⟨rfl, hb⟩; have n_ := Cy.a4 (blk_below (g := gb158) (o := .cells #[.int .i64 a0_0, .int .i64 a0_1, .slice A0_2 l0_2.length c0_2] 27 (0, 0)) (Cz.b BK158.out) hb) (blk_below (g := gb159) (o := .cells #[.int .i64 a1_0, .int .i64 a1_1, .slice A1_2 l1_2.length c1_2] 27 (0, 0)) (Cz.b BK159.out) hb) (blk_below (g := gb160) (o := .cells #[.int .i64 0, .int .i64 0, .slice none 0 0, .int .i64 0] 35 (0, 0)) (Cz.b BK160.out) hb) (below_step (Cz.w HB.out) hb); clear BK158 BK159 BK160 HB; obtain ⟨BK158, BK159, BK160, HB⟩ := n_; (try clear hb); (try clear hb2); (try clear hk); (try clear hi))))
   go_meet
   case rel => exact ⟨_, (true), (by first | rfl | (simp; done) | (simp [*]; done)), H', ⟨by first | omega | exact Nat.le_refl _⟩, ⟨Cz.b BK158.out⟩, ⟨Cz.b BK159.out⟩, ⟨Cz.b BK160.out⟩, ⟨Cz.w HB.out⟩⟩
 case rest =>
  clear HC3
  try clear c1
  try clear c2
  try clear p2
  try clear c3
  try clear c8
  try clear c10
  try clear c11
  try clear c12
  try clear c15
  try clear c20
  try clear c21
  try clear c24
  try clear c27
  try clear c28
  try clear c30
  try clear hcz13_0
  try clear hcz13_1
  try clear hcz13_2
  try clear hcz16_0
  try clear hcz16_1
  try clear hcz16_2
  try clear hcz18_0
  try clear hcz18_1
  try clear hcz18_2
  try clear hcz19_0
  try clear hcz19_1
  try clear hcz19_2
  try clear hcz22_0
  try clear hcz22_1
  try clear hcz22_2
  try clear hcz25_0
  try clear hcz25_1
  try clear hcz25_2
  try clear hcz29_0
  try clear hcz29_1
  try clear hcz29_2
  try clear hfz13_0
  try clear hfz13_1
  try clear hfz13_2
  try clear hfz16_0
  try clear hfz16_1
  try clear hfz16_2
  try clear hfz18_0
  try clear hfz18_1
  try clear hfz18_2
  try clear hfz19_0
  try clear hfz19_1
  try clear hfz19_2
  try clear hfz22_0
  try clear hfz22_1
  try clear hfz22_2
  try clear hfz25_0
  try clear hfz25_1
  try clear hfz25_2
  try clear hfz29_0
  try clear hfz29_1
  try clear hfz29_2
  obtain ⟨kq, x24_2, rfl, HA, HJ2, BK158, BK159, BK160, HB⟩ := hcut
  cases kq with
  | zero => exact absurd HA.out (by simp [spec_MatrixMul.j0])
  | succ kj2 =>
   have H := HA.out
   clear HA
   simp only [spec_MatrixMul.j0] at H
   by_cases c31 : x24_2 = true
   ·subst c31
    have H1 : ((spec_l03Ill.f 1).bind fun bt163 => (some (bt163.1, bt163.2.1, bt163.2.2.1, bt163.2.2.2))) = some (r1, r2, r3, r4) := by rw [if_pos rfl] at H; exact H
    clear H
    have H := H1
    clear H1
    replace H := Option.bind_eq_some_iff.mp H
    obtain ⟨⟨t163, t164, t165, t168⟩, A320, H⟩ := H
    replace H : (some (t163, t164, t165, t168)) = some (r1, r2, r3, r4) := H
    have A32 := Aside0.mk A320
    clear A320
    simp only [Option.some.injEq, Prod.mk.injEq] at H
    obtain ⟨rfl, rfl, rfl, rfl⟩ := H
    go_wp2_with (first | (go_at_call 76; (with_reducible refine (spec_l03Ill.calls 1 t163 t164 t165 t168 _ A32.out).mono ?_); rintro e w33 ⟨v166, rfl, ho0, hb⟩; have n_ := Cy.a5 (Kd.R_lower ho0 (below_size (Cz.w HB.out))) (blk_below (g := gb158) (o := .cells #[.int .i64 a0_0, .int .i64 a0_1, .slice A0_2 l0_2.length c0_2] 27 (0, 0)) (Cz.b BK158.out) hb) (blk_below (g := gb159) (o := .cells #[.int .i64 a1_0, .int .i64 a1_1, .slice A1_2 l1_2.length c1_2] 27 (0, 0)) (Cz.b BK159.out) hb) (blk_below (g := gb160) (o := .cells #[.int .i64 0, .int .i64 0, .slice none 0 0, .int .i64 0] 35 (0, 0)) (Cz.b BK160.out) hb) (below_step (Cz.w HB.out) hb); clear BK158 BK159 BK160 HB; obtain ⟨HO167, BK158, BK159, BK160, HB⟩ := n_; (try clear hb); (try clear hb2); (try clear hk); (try clear hi); (try clear ho0); have hnb34 := NB160_158.out; have hnc34 := NB158_160.out; have hnb35 := NB160_159.out; have hnc35 := NB159_160.out; obtain ⟨hcz36_0, hcz36_1, hcz36_2, hcz36_3, hfz36_0, hfz36_1, hfz36_2, hfz36_3⟩ := Cy.z4 BK160.out; obtain ⟨Ao37, co37, eo37⟩ := Kd.R_slice HO167.out; subst eo37))
    repeat (go_quiet (first | (go_at_call 76; (with_reducible refine (spec_l03Ill.calls 1 t163 t164 t165 t168 _ A32.out).mono ?_); rintro e w33 ⟨v166, rfl, ho0, hb⟩; have n_ := Cy.a5 (Kd.R_lower ho0 (below_size (Cz.w HB.out))) (blk_below (g := gb158) (o := .cells #[.int .i64 a0_0, .int .i64 a0_1, .slice A0_2 l0_2.length c0_2] 27 (0, 0)) (Cz.b BK158.out) hb) (blk_below (g := gb159) (o := .cells #[.int .i64 a1_0, .int .i64 a1_1, .slice A1_2 l1_2.length c1_2] 27 (0, 0)) (Cz.b BK159.out) hb) (blk_below (g := gb160) (o := .cells #[.int .i64 0, .int .i64 0, .slice none 0 0, .int .i64 0] 35 (0, 0)) (Cz.b BK160.out) hb) (below_step (Cz.w HB.out) hb); clear BK158 BK159 BK160 HB; obtain ⟨HO167, BK158, BK159, BK160, HB⟩ := n_; (try clear hb); (try clear hb2); (try clear hk); (try clear hi); (try clear ho0); have hnb34 := NB160_158.out; have hnc34 := NB158_160.out; have hnb35 := NB160_159.out; have hnc35 := NB159_160.out; obtain ⟨hcz36_0, hcz36_1, hcz36_2, hcz36_3, hfz36_0, hfz36_1, hfz36_2, hfz36_3⟩ := Cy.z4 BK160.out; obtain ⟨Ao37, co37, eo37⟩ := Kd.R_slice HO167.out; subst eo37)); try go_wp2_with (first | (go_at_call 76; (with_reducible refine (spec_l03Ill.calls 1 t163 t164 t165 t168 _ A32.out).mono ?_); rintro e w33 ⟨v166, rfl, ho0, hb⟩; have n_ := Cy.a5 (Kd.R_lower ho0 (below_size (Cz.w HB.out))) (blk_below (g := gb158) (o := .cells #[.int .i64 a0_0, .int .i64 a0_1, .slice A0_2 l0_2.length c0_2] 27 (0, 0)) (Cz.b BK158.out) hb) (blk_below (g := gb159) (o := .cells #[.int .i64 a1_0, .int .i64 a1_1, .slice A1_2 l1_2.length c1_2] 27 (0, 0)) (Cz.b BK159.out) hb) (blk_below (g := gb160) (o := .cells #[.int .i64 0, .int .i64 0, .slice none 0 0, .int .i64 0] 35 (0, 0)) (Cz.b BK160.out) hb) (below_step (Cz.w HB.out) hb); clear BK158 BK159 BK160 HB; obtain ⟨HO167, BK158, BK159, BK160, HB⟩ := n_; (try clear hb); (try clear hb2); (try clear hk); (try clear hi); (try clear ho0); have hnb34 := NB160_158.out; have hnc34 := NB158_160.out; have hnb35 := NB160_159.out; have hnc35 := NB159_160.out; obtain ⟨hcz36_0, hcz36_1, hcz36_2, hcz36_3, hfz36_0, hfz36_1, hfz36_2, hfz36_3⟩ := Cy.z4 BK160.out; obtain ⟨Ao37, co37, eo37⟩ := Kd.R_slice HO167.out; subst eo37)))
    refine bodyPost_ret (results_cell_row rfl _ _ gb160 35 #[.int .i64 t163, .int .i64 t164, .slice Ao37 t165.length co37, .int .i64 t168] (0, 0) _ rfl (Cz.p4 BK160.out) Try.underlying35 rfl (by kernel_rfl)) rfl ?_
    exact ⟨_, by first | rfl | (simp [errW_none, errW_some] <;> rfl) | (simp [*, errW_none, errW_some] <;> rfl), by (with_reducible repeat (first | apply Kd.R_alloc | apply Kd.R_drewN | apply Kd.R_drew)); exact Kd.R_mono (Kd.R_far (p := ⟨gb160, 3, none⟩) (Kd.R_far (p := ⟨gb160, 2, none⟩) (Kd.R_far (p := ⟨gb160, 1, none⟩) (Kd.R_far (p := ⟨gb160, 0, none⟩) (Kd.R_types HO167.out BK160.out (by decide)) (fun _ hk => hk.2) (.int .i64 t163)) (fun _ hk => hk.2) (.int .i64 t164)) (fun _ hk => hk.2) (.slice Ao37 t165.length co37)) (fun _ hk => hk.2) (.int .i64 t168)) (fun _ hk => trivial), Cz.w HB.out⟩
   ·replace c31 := Bool.eq_false_iff.mpr c31
    subst c31
    have H1 : (spec_MatrixMul.l0 kj2 0 a0_0 a0_1 l0_2 a1_0 a1_1 l1_2 a0_0 a1_1 ([] : List Int)) = some (r1, r2, r3, r4) := by rw [if_neg (show ¬ (false = true) by decide)] at H; exact H
    clear H
    have H := H1
    clear H1
    have H' := Aside0.mk H
    clear H
    have hnb38 := NB158_159.out
    have hnc38 := NB159_158.out
    have hnb39 := NB158_160.out
    have hnc39 := NB160_158.out
    obtain ⟨hcz40_0, hcz40_1, hcz40_2, hfz40_0, hfz40_1, hfz40_2⟩ := Cy.z3 BK158.out
    have hnb41 := NB159_160.out
    have hnc41 := NB160_159.out
    obtain ⟨hcz42_0, hcz42_1, hcz42_2, hfz42_0, hfz42_1, hfz42_2⟩ := Cy.z3 BK159.out
    go_wp2_with (first | ((with_reducible refine gate_dst (N := 5) rfl ?_); refine box_event ?hg (N := 5) ?hd (cs := #[.int .i64 0, .int .i64 0, .slice none 0 0]) (t := 27) ?hr ?_; (case hd => rfl); (case hg => rfl); (case hr => first | (go_simp; done) | (go_simp; rfl)); intro gb169 hg w43 hbox hb; have n_ := Cy.a13 (blk_below (g := gb158) (o := .cells #[.int .i64 a0_0, .int .i64 a0_1, .slice A0_2 l0_2.length c0_2] 27 (0, 0)) (Cz.b BK158.out) hb) (blk_below (g := gb159) (o := .cells #[.int .i64 a1_0, .int .i64 a1_1, .slice A1_2 l1_2.length c1_2] 27 (0, 0)) (Cz.b BK159.out) hb) (blk_below (g := gb160) (o := .cells #[.int .i64 0, .int .i64 0, .slice none 0 0, .int .i64 0] 35 (0, 0)) (Cz.b BK160.out) hb) (below_step (Cz.w HB.out) hb) hbox (Cy.gw hg HB.out) (Cy.gw hg HB.out) (by rw [hg]; exact Nat.ne_of_lt (blk_lt (g := gb158) (o := .cells #[.int .i64 a0_0, .int .i64 a0_1, .slice A0_2 l0_2.length c0_2] 27 (0, 0)) (Cz.b BK158.out)) : gb158 ≠ gb169) (by rw [hg]; exact Nat.ne_of_gt (blk_lt (g := gb158) (o := .cells #[.int .i64 a0_0, .int .i64 a0_1, .slice A0_2 l0_2.length c0_2] 27 (0, 0)) (Cz.b BK158.out)) : gb169 ≠ gb158) (by rw [hg]; exact Nat.ne_of_lt (blk_lt (g := gb159) (o := .cells #[.int .i64 a1_0, .int .i64 a1_1, .slice A1_2 l1_2.length c1_2] 27 (0, 0)) (Cz.b BK159.out)) : gb159 ≠ gb169) (by rw [hg]; exact Nat.ne_of_gt (blk_lt (g := gb159) (o := .cells #[.int .i64 a1_0, .int .i64 a1_1, .slice A1_2 l1_2.length c1_2] 27 (0, 0)) (Cz.b BK159.out)) : gb169 ≠ gb159) (by rw [hg]; exact Nat.ne_of_lt (blk_lt (g := gb160) (o := .cells #[.int .i64 0, .int .i64 0, .slice none 0 0, .int .i64 0] 35 (0, 0)) (Cz.b BK160.out)) : gb160 ≠ gb169) (by rw [hg]; exact Nat.ne_of_gt (blk_lt (g := gb160) (o := .cells #[.int .i64 0, .int .i64 0, .slice none 0 0, .int .i64 0] 35 (0, 0)) (Cz.b BK160.out)) : gb169 ≠ gb160); clear BK158 BK159 BK160 HB; obtain ⟨BK158, BK159, BK160, HB, BK169, GW169, GE169, NB158_169, NB169_158, NB159_169, NB169_159, NB160_169, NB169_160⟩ := n_; clear hb hbox hg; have hnb44 := NB169_158.out; have hnc44 := NB158_169.out; have hnb45 := NB169_159.out; have hnc45 := NB159_169.out; have hnb46 := NB169_160.out; have hnc46 := NB160_169.out; obtain ⟨hcz47_0, hcz47_1, hcz47_2, hfz47_0, hfz47_1, hfz47_2⟩ := Cy.z3 BK169.out))
    repeat (go_quiet (first | ((with_reducible refine gate_dst (N := 5) rfl ?_); refine box_event ?hg (N := 5) ?hd (cs := #[.int .i64 0, .int .i64 0, .slice none 0 0]) (t := 27) ?hr ?_; (case hd => rfl); (case hg => rfl); (case hr => first | (go_simp; done) | (go_simp; rfl)); intro gb169 hg w43 hbox hb; have n_ := Cy.a13 (blk_below (g := gb158) (o := .cells #[.int .i64 a0_0, .int .i64 a0_1, .slice A0_2 l0_2.length c0_2] 27 (0, 0)) (Cz.b BK158.out) hb) (blk_below (g := gb159) (o := .cells #[.int .i64 a1_0, .int .i64 a1_1, .slice A1_2 l1_2.length c1_2] 27 (0, 0)) (Cz.b BK159.out) hb) (blk_below (g := gb160) (o := .cells #[.int .i64 0, .int .i64 0, .slice none 0 0, .int .i64 0] 35 (0, 0)) (Cz.b BK160.out) hb) (below_step (Cz.w HB.out) hb) hbox (Cy.gw hg HB.out) (Cy.gw hg HB.out) (by rw [hg]; exact Nat.ne_of_lt (blk_lt (g := gb158) (o := .cells #[.int .i64 a0_0, .int .i64 a0_1, .slice A0_2 l0_2.length c0_2] 27 (0, 0)) (Cz.b BK158.out)) : gb158 ≠ gb169) (by rw [hg]; exact Nat.ne_of_gt (blk_lt (g := gb158) (o := .cells #[.int .i64 a0_0, .int .i64 a0_1, .slice A0_2 l0_2.length c0_2] 27 (0, 0)) (Cz.b BK158.out)) : gb169 ≠ gb158) (by rw [hg]; exact Nat.ne_of_lt (blk_lt (g := gb159) (o := .cells #[.int .i64 a1_0, .int .i64 a1_1, .slice A1_2 l1_2.length c1_2] 27 (0, 0)) (Cz.b BK159.out)) : gb159 ≠ gb169) (by rw [hg]; exact Nat.ne_of_gt (blk_lt (g := gb159) (o := .cells #[.int .i64 a1_0, .int .i64 a1_1, .slice A1_2 l1_2.length c1_2] 27 (0, 0)) (Cz.b BK159.out)) : gb169 ≠ gb159) (by rw [hg]; exact Nat.ne_of_lt (blk_lt (g := gb160) (o := .cells #[.int .i64 0, .int .i64 0, .slice none 0 0, .int .i64 0] 35 (0, 0)) (Cz.b BK160.out)) : gb160 ≠ gb169) (by rw [hg]; exact Nat.ne_of_gt (blk_lt (g := gb160) (o := .cells #[.int .i64 0, .int .i64 0, .slice none 0 0, .int .i64 0] 35 (0, 0)) (Cz.b BK160.out)) : gb169 ≠ gb160); clear BK158 BK159 BK160 HB; obtain ⟨BK158, BK159, BK160, HB, BK169, GW169, GE169, NB158_169, NB169_158, NB159_169, NB169_159, NB160_169, NB169_160⟩ := n_; clear hb hbox hg; have hnb44 := NB169_158.out; have hnc44 := NB158_169.out; have hnb45 := NB169_159.out; have hnc45 := NB159_169.out; have hnb46 := NB169_160.out; have hnc46 := NB160_169.out; obtain ⟨hcz47_0, hcz47_1, hcz47_2, hfz47_0, hfz47_1, hfz47_2⟩ := Cy.z3 BK169.out)); try go_wp2_with (first | ((with_reducible refine gate_dst (N := 5) rfl ?_); refine box_event ?hg (N := 5) ?hd (cs := #[.int .i64 0, .int .i64 0, .slice none 0 0]) (t := 27) ?hr ?_; (case hd => rfl); (case hg => rfl); (case hr => first | (go_simp; done) | (go_simp; rfl)); intro gb169 hg w43 hbox hb; have n_ := Cy.a13 (blk_below (g := gb158) (o := .cells #[.int .i64 a0_0, .int .i64 a0_1, .slice A0_2 l0_2.length c0_2] 27 (0, 0)) (Cz.b BK158.out) hb) (blk_below (g := gb159) (o := .cells #[.int .i64 a1_0, .int .i64 a1_1, .slice A1_2 l1_2.length c1_2] 27 (0, 0)) (Cz.b BK159.out) hb) (blk_below (g := gb160) (o := .cells #[.int .i64 0, .int .i64 0, .slice none 0 0, .int .i64 0] 35 (0, 0)) (Cz.b BK160.out) hb) (below_step (Cz.w HB.out) hb) hbox (Cy.gw hg HB.out) (Cy.gw hg HB.out) (by rw [hg]; exact Nat.ne_of_lt (blk_lt (g := gb158) (o := .cells #[.int .i64 a0_0, .int .i64 a0_1, .slice A0_2 l0_2.length c0_2] 27 (0, 0)) (Cz.b BK158.out)) : gb158 ≠ gb169) (by rw [hg]; exact Nat.ne_of_gt (blk_lt (g := gb158) (o := .cells #[.int .i64 a0_0, .int .i64 a0_1, .slice A0_2 l0_2.length c0_2] 27 (0, 0)) (Cz.b BK158.out)) : gb169 ≠ gb158) (by rw [hg]; exact Nat.ne_of_lt (blk_lt (g := gb159) (o := .cells #[.int .i64 a1_0, .int .i64 a1_1, .slice A1_2 l1_2.length c1_2] 27 (0, 0)) (Cz.b BK159.out)) : gb159 ≠ gb169) (by rw [hg]; exact Nat.ne_of_gt (blk_lt (g := gb159) (o := .cells #[.int .i64 a1_0, .int .i64 a1_1, .slice A1_2 l1_2.length c1_2] 27 (0, 0)) (Cz.b BK159.out)) : gb169 ≠ gb159) (by rw [hg]; exact Nat.ne_of_lt (blk_lt (g := gb160) (o := .cells #[.int .i64 0, .int .i64 0, .slice none 0 0, .int .i64 0] 35 (0, 0)) (Cz.b BK160.out)) : gb160 ≠ gb169) (by rw [hg]; exact Nat.ne_of_gt (blk_lt (g := gb160) (o := .cells #[.int .i64 0, .int .i64 0, .slice none 0 0, .int .i64 0] 35 (0, 0)) (Cz.b BK160.out)) : gb169 ≠ gb160); clear BK158 BK159 BK160 HB; obtain ⟨BK158, BK159, BK160, HB, BK169, GW169, GE169, NB158_169, NB169_158, NB159_169, NB169_159, NB160_169, NB169_160⟩ := n_; clear hb hbox hg; have hnb44 := NB169_158.out; have hnc44 := NB158_169.out; have hnb45 := NB169_159.out; have hnc45 := NB159_169.out; have hnb46 := NB169_160.out; have hnc46 := NB160_169.out; obtain ⟨hcz47_0, hcz47_1, hcz47_2, hfz47_0, hfz47_1, hfz47_2⟩ := Cy.z3 BK169.out)))
    go_loopg [6] kj2 (fun kq v6 w' => ∃ (x6_2 : Int) (x170002_2 : List Int) (u170002 : Value), v6 = .int .i64 x6_2 ∧ Aside0 (spec_MatrixMul.l0 kq x6_2 a0_0 a0_1 l0_2 a1_0 a1_1 l1_2 a0_0 a1_1 x170002_2 = some (r1, r2, r3, r4)) ∧ Aside0 (kq ≤ kj2) ∧ Aside0 (Kd.R (Kd.int .i64) 2 w' w.heap.size (fun _ => True) u170002 x170002_2) ∧ Aside0 (w'.heap[gb158]? = some (.cells #[.int .i64 a0_0, .int .i64 a0_1, (.slice A0_2 l0_2.length c0_2)] 27 (0, 0))) ∧ Aside0 (w'.heap[gb159]? = some (.cells #[.int .i64 a1_0, .int .i64 a1_1, (.slice A1_2 l1_2.length c1_2)] 27 (0, 0))) ∧ Aside0 (w'.heap[gb160]? = some (.cells #[.int .i64 0, .int .i64 0, (.slice none 0 0), .int .i64 0] 35 (0, 0))) ∧ Aside0 (w'.heap[gb169]? = some (.cells #[.int .i64 a0_0, .int .i64 a1_1, u170002] 27 (0, 0))) ∧ Aside0 (Below w.heap.size w w'))
    case atStart => exact ⟨(0), (([] : List Int)), (.slice none 0 0), (by first | rfl | (simp; done) | (simp [*]; done)), H', ⟨Nat.le_refl _⟩, ⟨by first | exact Kd.R_nil _ _ _ _ _ | exact Kd.N_nil _ _ _ _ _ | exact Kd.V_nil _ _ _ _ _ | exact Kd.Q_nil _ _ _ _ _ | exact Kd.S_nil _ _ _ _ _⟩, ⟨Cz.f BK158.out NB158_169.out⟩, ⟨Cz.f BK159.out NB159_169.out⟩, ⟨Cz.f BK160.out NB160_169.out⟩, ⟨Cz.p3 BK169.out⟩, ⟨Cz.w HB.out⟩⟩
    case round =>
     clear H'
     try clear c1
     try clear c2
     try clear p2
     try clear c3
     try clear c4
     try clear c8
     try clear c10
     try clear c11
     try clear c12
     try clear c15
     try clear c20
     try clear c21
     try clear c24
     try clear c27
     try clear c28
     try clear c30
     try clear c31
     try clear c34
     try clear c35
     try clear c38
     try clear c39
     try clear c41
     try clear c44
     try clear c45
     try clear c46
     try clear hcz13_0
     try clear hcz13_1
     try clear hcz13_2
     try clear hcz16_0
     try clear hcz16_1
     try clear hcz16_2
     try clear hcz18_0
     try clear hcz18_1
     try clear hcz18_2
     try clear hcz19_0
     try clear hcz19_1
     try clear hcz19_2
     try clear hcz22_0
     try clear hcz22_1
     try clear hcz22_2
     try clear hcz25_0
     try clear hcz25_1
     try clear hcz25_2
     try clear hcz29_0
     try clear hcz29_1
     try clear hcz29_2
     try clear hcz36_0
     try clear hcz36_1
     try clear hcz36_2
     try clear hcz36_3
     try clear hcz40_0
     try clear hcz40_1
     try clear hcz40_2
     try clear hcz42_0
     try clear hcz42_1
     try clear hcz42_2
     try clear hcz47_0
     try clear hcz47_1
     try clear hcz47_2
     try clear hfz13_0
     try clear hfz13_1
     try clear hfz13_2
     try clear hfz16_0
     try clear hfz16_1
     try clear hfz16_2
     try clear hfz18_0
     try clear hfz18_1
     try clear hfz18_2
     try clear hfz19_0
     try clear hfz19_1
     try clear hfz19_2
     try clear hfz22_0
     try clear hfz22_1
     try clear hfz22_2
     try clear hfz25_0
     try clear hfz25_1
     try clear hfz25_2
     try clear hfz29_0
     try clear hfz29_1
     try clear hfz29_2
     try clear hfz36_0
     try clear hfz36_1
     try clear hfz36_2
     try clear hfz36_3
     try clear hfz40_0
     try clear hfz40_1
     try clear hfz40_2
     try clear hfz42_0
     try clear hfz42_1
     try clear hfz42_2
     try clear hfz47_0
     try clear hfz47_1
     try clear hfz47_2
     try clear p2
     obtain ⟨x6_2, x170002_2, u170002, rfl, HA, HK2, HO_170002, BK158, BK159, BK160, BK169, HB⟩ := hrel
     cases gk with
     | zero => exact absurd HA.out (by simp [spec_MatrixMul.l0])
     | succ k2 =>
      have H := HA.out
      clear HA
      simp only [spec_MatrixMul.l0] at H
      by_cases c48 : x6_2 < a0_0
      ·rw [if_pos c48] at H
       have c48b0 : decide (x6_2 < a0_0) = true := decide_eq_true c48
       clear c48
       have H' := Aside0.mk H
       clear H
       have hnb49 := NB158_159.out
       have hnc49 := NB159_158.out
       have hnb50 := NB158_160.out
       have hnc50 := NB160_158.out
       have hnb51 := NB158_169.out
       have hnc51 := NB169_158.out
       obtain ⟨hcz52_0, hcz52_1, hcz52_2, hfz52_0, hfz52_1, hfz52_2⟩ := Cy.z3 BK158.out
       go_wp2
       repeat (go_quiet (fail); try go_wp2)
       go_loopg [7] k2 (fun kq v7 w' => ∃ (x7_3 : Int) (x170002_3 : List Int) (u170002 : Value), v7 = .int .i64 x7_3 ∧ Aside0 (spec_MatrixMul.l1 kq x6_2 x7_3 a0_0 a0_1 l0_2 a1_0 a1_1 l1_2 a0_0 a1_1 x170002_3 = some (r1, r2, r3, r4)) ∧ Aside0 (kq ≤ k2) ∧ Aside0 (Kd.R (Kd.int .i64) 2 w' w.heap.size (fun _ => True) u170002 x170002_3) ∧ Aside0 (w'.heap[gb158]? = some (.cells #[.int .i64 a0_0, .int .i64 a0_1, (.slice A0_2 l0_2.length c0_2)] 27 (0, 0))) ∧ Aside0 (w'.heap[gb159]? = some (.cells #[.int .i64 a1_0, .int .i64 a1_1, (.slice A1_2 l1_2.length c1_2)] 27 (0, 0))) ∧ Aside0 (w'.heap[gb160]? = some (.cells #[.int .i64 0, .int .i64 0, (.slice none 0 0), .int .i64 0] 35 (0, 0))) ∧ Aside0 (w'.heap[gb169]? = some (.cells #[.int .i64 a0_0, .int .i64 a1_1, u170002] 27 (0, 0))) ∧ Aside0 (Below w.heap.size w w'))
       case atStart => exact ⟨(0), (x170002_2), (u170002), (by first | rfl | (simp; done) | (simp [*]; done)), H', ⟨Nat.le_refl _⟩, ⟨Cz.r HO_170002.out⟩, ⟨Cz.b BK158.out⟩, ⟨Cz.b BK159.out⟩, ⟨Cz.b BK160.out⟩, ⟨Cz.b BK169.out⟩, ⟨Cz.w HB.out⟩⟩
       case round =>
        clear H'
        try clear c1
        try clear c2
        try clear p2
        try clear c3
        try clear c4
        try clear c5
        try clear c8
        try clear c10
        try clear c11
        try clear c12
        try clear c15
        try clear c20
        try clear c21
        try clear c24
        try clear c27
        try clear c28
        try clear c30
        try clear c31
        try clear c34
        try clear c35
        try clear c38
        try clear c39
        try clear c41
        try clear c44
        try clear c45
        try clear c46
        try clear c48
        try clear c48b0
        try clear c49
        try clear c50
        try clear c51
        try clear hcz13_0
        try clear hcz13_1
        try clear hcz13_2
        try clear hcz16_0
        try clear hcz16_1
        try clear hcz16_2
        try clear hcz18_0
        try clear hcz18_1
        try clear hcz18_2
        try clear hcz19_0
        try clear hcz19_1
        try clear hcz19_2
        try clear hcz22_0
        try clear hcz22_1
        try clear hcz22_2
        try clear hcz25_0
        try clear hcz25_1
        try clear hcz25_2
        try clear hcz29_0
        try clear hcz29_1
        try clear hcz29_2
        try clear hcz36_0
        try clear hcz36_1
        try clear hcz36_2
        try clear hcz36_3
        try clear hcz40_0
        try clear hcz40_1
        try clear hcz40_2
        try clear hcz42_0
        try clear hcz42_1
        try clear hcz42_2
        try clear hcz47_0
        try clear hcz47_1
        try clear hcz47_2
        try clear hcz52_0
        try clear hcz52_1
        try clear hcz52_2
        try clear hfz13_0
        try clear hfz13_1
        try clear hfz13_2
        try clear hfz16_0
        try clear hfz16_1
        try clear hfz16_2
        try clear hfz18_0
        try clear hfz18_1
        try clear hfz18_2
        try clear hfz19_0
        try clear hfz19_1
        try clear hfz19_2
        try clear hfz22_0
        try clear hfz22_1
        try clear hfz22_2
        try clear hfz25_0
        try clear hfz25_1
        try clear hfz25_2
        try clear hfz29_0
        try clear hfz29_1
        try clear hfz29_2
        try clear hfz36_0
        try clear hfz36_1
        try clear hfz36_2
        try clear hfz36_3
        try clear hfz40_0
        try clear hfz40_1
        try clear hfz40_2
        try clear hfz42_0
        try clear hfz42_1
        try clear hfz42_2
        try clear hfz47_0
        try clear hfz47_1
        try clear hfz47_2
        try clear hfz52_0
        try clear hfz52_1
        try clear hfz52_2
        try clear p2
        obtain ⟨x7_3, x170002_3, u170002, rfl, HA, HK3, HO_170002, BK158, BK159, BK160, BK169, HB⟩ := hrel
        cases gk with
        | zero => exact absurd HA.out (by simp [spec_MatrixMul.l1])
        | succ k3 =>
         have H := HA.out
         clear HA
         simp only [spec_MatrixMul.l1] at H
         by_cases c53 : x7_3 < a1_1
         ·rw [if_pos c53] at H
          have c53b0 : decide (x7_3 < a1_1) = true := decide_eq_true c53
          clear c53
          have H' := Aside0.mk H
          clear H
          have hnb54 := NB159_158.out
          have hnc54 := NB158_159.out
          have hnb55 := NB159_160.out
          have hnc55 := NB160_159.out
          have hnb56 := NB159_169.out
          have hnc56 := NB169_159.out
          obtain ⟨hcz57_0, hcz57_1, hcz57_2, hfz57_0, hfz57_1, hfz57_2⟩ := Cy.z3 BK159.out
          go_wp2
          repeat (go_quiet (fail); try go_wp2)
          go_loopg [8, 9] k3 (fun kq v8 v9 w' => ∃ (x8_4 : Int) (x9_4 : Int), v8 = .int .i64 x8_4 ∧ v9 = .int .i64 x9_4 ∧ Aside0 (spec_MatrixMul.l2 kq x6_2 x7_3 x8_4 x9_4 a0_0 a0_1 l0_2 a1_0 a1_1 l1_2 a0_0 a1_1 x170002_3 = some (r1, r2, r3, r4)) ∧ Aside0 (kq ≤ k3) ∧ Aside0 (Kd.R (Kd.int .i64) 2 w' w.heap.size (fun _ => True) u170002 x170002_3) ∧ Aside0 (w'.heap[gb158]? = some (.cells #[.int .i64 a0_0, .int .i64 a0_1, (.slice A0_2 l0_2.length c0_2)] 27 (0, 0))) ∧ Aside0 (w'.heap[gb159]? = some (.cells #[.int .i64 a1_0, .int .i64 a1_1, (.slice A1_2 l1_2.length c1_2)] 27 (0, 0))) ∧ Aside0 (w'.heap[gb160]? = some (.cells #[.int .i64 0, .int .i64 0, (.slice none 0 0), .int .i64 0] 35 (0, 0))) ∧ Aside0 (w'.heap[gb169]? = some (.cells #[.int .i64 a0_0, .int .i64 a1_1, u170002] 27 (0, 0))) ∧ Aside0 (Below w.heap.size w w'))
          case atStart => exact ⟨(0), (0), (by first | rfl | (simp; done) | (simp [*]; done)), (by first | rfl | (simp; done) | (simp [*]; done)), H', ⟨Nat.le_refl _⟩, ⟨Cz.r HO_170002.out⟩, ⟨Cz.b BK158.out⟩, ⟨Cz.b BK159.out⟩, ⟨Cz.b BK160.out⟩, ⟨Cz.b BK169.out⟩, ⟨Cz.w HB.out⟩⟩
          case round =>
           clear H'
           try clear c1
           try clear c2
           try clear p2
           try clear c3
           try clear c4
           try clear c5
           try clear c8
           try clear c10
           try clear c11
           try clear c12
           try clear c15
           try clear c20
           try clear c21
           try clear c24
           try clear c27
           try clear c28
           try clear c30
           try clear c31
           try clear c34
           try clear c35
           try clear c38
           try clear c39
           try clear c41
           try clear c44
           try clear c45
           try clear c46
           try clear c48
           try clear c48b0
           try clear c49
           try clear c50
           try clear c51
           try clear c53
           try clear c53b0
           try clear c54
           try clear c55
           try clear c56
           try clear hcz13_0
           try clear hcz13_1
           try clear hcz13_2
           try clear hcz16_0
           try clear hcz16_1
           try clear hcz16_2
           try clear hcz18_0
           try clear hcz18_1
           try clear hcz18_2
           try clear hcz19_0
           try clear hcz19_1
           try clear hcz19_2
           try clear hcz22_0
           try clear hcz22_1
           try clear hcz22_2
           try clear hcz25_0
           try clear hcz25_1
           try clear hcz25_2
           try clear hcz29_0
           try clear hcz29_1
           try clear hcz29_2
           try clear hcz36_0
           try clear hcz36_1
           try clear hcz36_2
           try clear hcz36_3
           try clear hcz40_0
           try clear hcz40_1
           try clear hcz40_2
           try clear hcz42_0
           try clear hcz42_1
           try clear hcz42_2
           try clear hcz47_0
           try clear hcz47_1
           try clear hcz47_2
           try clear hcz52_0
           try clear hcz52_1
           try clear hcz52_2
           try clear hcz57_0
           try clear hcz57_1
           try clear hcz57_2
           try clear hfz13_0
           try clear hfz13_1
           try clear hfz13_2
           try clear hfz16_0
           try clear hfz16_1
           try clear hfz16_2
           try clear hfz18_0
           try clear hfz18_1
           try clear hfz18_2
           try clear hfz19_0
           try clear hfz19_1
           try clear hfz19_2
           try clear hfz22_0
           try clear hfz22_1
           try clear hfz22_2
           try clear hfz25_0
           try clear hfz25_1
           try clear hfz25_2
           try clear hfz29_0
           try clear hfz29_1
           try clear hfz29_2
           try clear hfz36_0
           try clear hfz36_1
           try clear hfz36_2
           try clear hfz36_3
           try clear hfz40_0
           try clear hfz40_1
           try clear hfz40_2
           try clear hfz42_0
           try clear hfz42_1
           try clear hfz42_2
           try clear hfz47_0
           try clear hfz47_1
           try clear hfz47_2
           try clear hfz52_0
           try clear hfz52_1
           try clear hfz52_2
           try clear hfz57_0
           try clear hfz57_1
           try clear hfz57_2
           try clear p2
           obtain ⟨x8_4, x9_4, rfl, rfl, HA, HK4, HO_170002, BK158, BK159, BK160, BK169, HB⟩ := hrel
           cases gk with
           | zero => exact absurd HA.out (by simp [spec_MatrixMul.l2])
           | succ k4 =>
            have H := HA.out
            clear HA
            simp only [spec_MatrixMul.l2] at H
            by_cases c58 : x9_4 < a0_1
            ·rw [if_pos c58] at H
             have c58b0 : decide (x9_4 < a0_1) = true := decide_eq_true c58
             clear c58
             obtain ⟨ji59, hji59⟩ : ∃ j_ : Int, (wrap64 ((wrap64 (x6_2 * a0_1)) + x9_4)) = j_ := ⟨_, rfl⟩
             replace H : (if 0 ≤ (ji59) then (if (ji59) < (l0_2.length : Int) then (if 0 ≤ (wrap64 ((wrap64 (x9_4 * a1_1)) + x7_3)) then (if (wrap64 ((wrap64 (x9_4 * a1_1)) + x7_3)) < (l1_2.length : Int) then ((spec_l02Mul.f k4 (rd l0_2 (ji59)) (rd l1_2 (wrap64 ((wrap64 (x9_4 * a1_1)) + x7_3)))).bind fun t172 => (spec_MatrixMul.l2 k4 x6_2 x7_3 (Go.bits .xor .i64 x8_4 t172) (wrap64 (x9_4 + 1)) a0_0 a0_1 l0_2 a1_0 a1_1 l1_2 a0_0 a1_1 x170002_3)) else (none)) else (none)) else (none)) else (none)) = some (r1, r2, r3, r4) := by first | (rw [hji59] at H; exact H) | (simp only [hji59] at H ⊢; exact H)
             have hji59w : (IntKind.i64.wrap ((wrap64 (x6_2 * a0_1)) + x9_4)) = ji59 := (i64_w _).trans hji59
             by_cases c60 : 0 ≤ (ji59)
             ·rw [if_pos c60] at H
              have c60b0 : decide (0 ≤ (ji59)) = true := decide_eq_true c60
              clear c60
              by_cases c61 : (ji59) < (l0_2.length : Int)
              ·rw [if_pos c61] at H
               have c61b0 : decide ((ji59) < (l0_2.length : Int)) = true := decide_eq_true c61
               clear c61
               obtain ⟨ji62, hji62⟩ : ∃ j_ : Int, (wrap64 ((wrap64 (x9_4 * a1_1)) + x7_3)) = j_ := ⟨_, rfl⟩
               replace H : (if 0 ≤ (ji62) then (if (ji62) < (l1_2.length : Int) then ((spec_l02Mul.f k4 (rd l0_2 (ji59)) (rd l1_2 (ji62))).bind fun t172 => (spec_MatrixMul.l2 k4 x6_2 x7_3 (Go.bits .xor .i64 x8_4 t172) (wrap64 (x9_4 + 1)) a0_0 a0_1 l0_2 a1_0 a1_1 l1_2 a0_0 a1_1 x170002_3)) else (none)) else (none)) = some (r1, r2, r3, r4) := by first | (rw [hji62] at H; exact H) | (simp only [hji62] at H ⊢; exact H)
               have hji62w : (IntKind.i64.wrap ((wrap64 (x9_4 * a1_1)) + x7_3)) = ji62 := (i64_w _).trans hji62
               by_cases c63 : 0 ≤ (ji62)
               ·rw [if_pos c63] at H
                have c63b0 : decide (0 ≤ (ji62)) = true := decide_eq_true c63
                clear c63
                by_cases c64 : (ji62) < (l1_2.length : Int)
                ·rw [if_pos c64] at H
                 have c64b0 : decide ((ji62) < (l1_2.length : Int)) = true := decide_eq_true c64
                 clear c64
                 replace H := Option.bind_eq_some_iff.mp H
                 obtain ⟨t172, A650, H⟩ := H
                 replace H : (spec_MatrixMul.l2 k4 x6_2 x7_3 (Go.bits .xor .i64 x8_4 t172) (wrap64 (x9_4 + 1)) a0_0 a0_1 l0_2 a1_0 a1_1 l1_2 a0_0 a1_1 x170002_3) = some (r1, r2, r3, r4) := H
                 have A65 := Aside0.mk A650
                 clear A650
                 have H' := Aside0.mk H
                 clear H
                 have hnb66 := NB158_159.out
                 have hnc66 := NB159_158.out
                 have hnb67 := NB158_160.out
                 have hnc67 := NB160_158.out
                 have hnb68 := NB158_169.out
                 have hnc68 := NB169_158.out
                 obtain ⟨hcz69_0, hcz69_1, hcz69_2, hfz69_0, hfz69_1, hfz69_2⟩ := Cy.z3 BK158.out
                 have p170 : 0 ≤ ((ji59) : Int) := of_decide_eq_true (by first | (with_reducible assumption) | assumption)
                 have q170 : (ji59) < (l0_2.length : Int) := of_decide_eq_true (by first | (with_reducible assumption) | assumption)
                 obtain ⟨ad170, e170, hx170_0⟩ := Kd.at_int HR0_2.out (ji59) p170 q170
                 cases e170
                 replace hx170_0 := (HB.out.cell (World.block_lt_of_cell? w _ hx170_0)).trans hx170_0
                 replace p170 := eq_true p170
                 replace q170 := eq_true q170
                 have hnb70 := NB159_160.out
                 have hnc70 := NB160_159.out
                 have hnb71 := NB159_169.out
                 have hnc71 := NB169_159.out
                 obtain ⟨hcz72_0, hcz72_1, hcz72_2, hfz72_0, hfz72_1, hfz72_2⟩ := Cy.z3 BK159.out
                 have p171 : 0 ≤ ((ji62) : Int) := of_decide_eq_true (by first | (with_reducible assumption) | assumption)
                 have q171 : (ji62) < (l1_2.length : Int) := of_decide_eq_true (by first | (with_reducible assumption) | assumption)
                 obtain ⟨ad171, e171, hx171_0⟩ := Kd.at_int HR1_2.out (ji62) p171 q171
                 cases e171
                 replace hx171_0 := (HB.out.cell (World.block_lt_of_cell? w _ hx171_0)).trans hx171_0
                 replace p171 := eq_true p171
                 replace q171 := eq_true q171
                 go_wp2_with (first | (go_at_call 86; (with_reducible refine (spec_l02Mul.calls k4 (rd l0_2 (ji59)) (rd l1_2 (ji62)) t172 _ A65.out).mono ?_); rintro e w' ⟨rfl, ⟨nd, rfl⟩⟩; (try first | exact ⟨rfl, _, World.drewN_drewN _ _ _⟩ | exact ⟨rfl, _, Eq.trans (World.drewN_drewN _ _ _) (congrArg (World.drewN _) (Nat.add_assoc _ _ _))⟩)))
                 repeat (go_quiet (first | (go_at_call 86; (with_reducible refine (spec_l02Mul.calls k4 (rd l0_2 (ji59)) (rd l1_2 (ji62)) t172 _ A65.out).mono ?_); rintro e w' ⟨rfl, ⟨nd, rfl⟩⟩; (try first | exact ⟨rfl, _, World.drewN_drewN _ _ _⟩ | exact ⟨rfl, _, Eq.trans (World.drewN_drewN _ _ _) (congrArg (World.drewN _) (Nat.add_assoc _ _ _))⟩))); try go_wp2_with (first | (go_at_call 86; (with_reducible refine (spec_l02Mul.calls k4 (rd l0_2 (ji59)) (rd l1_2 (ji62)) t172 _ A65.out).mono ?_); rintro e w' ⟨rfl, ⟨nd, rfl⟩⟩; (try first | exact ⟨rfl, _, World.drewN_drewN _ _ _⟩ | exact ⟨rfl, _, Eq.trans (World.drewN_drewN _ _ _) (congrArg (World.drewN _) (Nat.add_assoc _ _ _))⟩))))
                 go_roundg k4
                 case measure => have := HJ2.out; have := HK2.out; have := HK3.out; have := HK4.out; omega
                 case rel => exact ⟨(Go.bits .xor .i64 x8_4 t172), (wrap64 (x9_4 + 1)), (by first | rfl | (simp; done) | (simp [*]; done)), (by first | rfl | (simp; done) | (simp [*]; done)), H', ⟨by have := HJ2.out; have := HK2.out; have := HK3.out; have := HK4.out; omega⟩, ⟨Cz.r HO_170002.out⟩, ⟨Cz.b BK158.out⟩, ⟨Cz.b BK159.out⟩, ⟨Cz.b BK160.out⟩, ⟨Cz.b BK169.out⟩, ⟨Cz.w HB.out⟩⟩
                ·rw [if_neg c64] at H
                 exact absurd H (by simp)
               ·rw [if_neg c63] at H
                exact absurd H (by simp)
              ·rw [if_neg c61] at H
               exact absurd H (by simp)
             ·rw [if_neg c60] at H
              exact absurd H (by simp)
            ·rw [if_neg c58] at H
             have c58b0 : decide (x9_4 < a0_1) = false := decide_eq_false c58
             clear c58
             by_cases c73 : x170002_3.length < 17592186044416
             ·rw [if_pos c73] at H
              have LMc73 := Aside0.mk c73
              clear c73
              obtain ⟨y173, hy173⟩ : ∃ y_ : List Int, y_ = (x170002_3 ++ [x8_4]) := ⟨_, rfl⟩
              replace H : (spec_MatrixMul.l1 k4 x6_2 (wrap64 (x7_3 + 1)) a0_0 a0_1 l0_2 a1_0 a1_1 l1_2 a0_0 a1_1 y173) = some (r1, r2, r3, r4) := by first | (rw [hy173]; with_reducible exact H) | (have H2_ := (Option.bind_some _ _).symm.trans H; rw [hy173]; with_reducible exact H2_) | (have H2_ := (Option.bind_some _ _).symm.trans H; with_reducible exact H2_) | with_reducible exact H | (rw [hy173]; exact H) | exact H
              have Ny173 := Aside0.mk hy173
              clear hy173
              have H' := Aside0.mk H
              clear H
              have hnb74 := NB158_159.out
              have hnc74 := NB159_158.out
              have hnb75 := NB158_160.out
              have hnc75 := NB160_158.out
              have hnb76 := NB158_169.out
              have hnc76 := NB169_158.out
              obtain ⟨hcz77_0, hcz77_1, hcz77_2, hfz77_0, hfz77_1, hfz77_2⟩ := Cy.z3 BK158.out
              have hnb78 := NB169_159.out
              have hnc78 := NB159_169.out
              have hnb79 := NB169_160.out
              have hnc79 := NB160_169.out
              obtain ⟨hcz80_0, hcz80_1, hcz80_2, hfz80_0, hfz80_1, hfz80_2⟩ := Cy.z3 BK169.out
              go_wp2_with (first | ((with_reducible refine gate_builtin (b := .append) (xs := #[.tmp 73, .tmp 75]) rfl ?_); at_builtin; refine Kd.R_append (Kd.int .i64) (w0 := w) w.heap.size rfl (.tmp 73) (.tmp 75) 22 2 (.int .i64 0) 8 rfl Try.underlying22 info2 rfl (by decide) (by omega) u170002 x170002_3 x8_4 [.int .i64 x8_4] (fun _ => True) (fun _ => False) rfl rfl ?aP (fun _ hk => hk.elim) ?aF ?aO ?aB ?aS ?aL ?_; (case aP => exact rfl); (case aB => exact (Cz.w HB.out)); (case aF => exact (fun _ _ => trivial)); (case aO => exact (Cz.r HO_170002.out)); (case aS => exact (below_size (Cz.w HB.out))); (case aL => have := LMc73.out; omega); intro v174 w81 ho hb hg hat; rw [← Ny173.out] at ho; have n_ := Cy.a6 (blk_grown (g := gb158) (o := .cells #[.int .i64 a0_0, .int .i64 a0_1, .slice A0_2 l0_2.length c0_2] 27 (0, 0)) (Cz.b BK158.out) hg (Kd.R_ne HO_170002.out BK158.out (by decide))) (blk_grown (g := gb159) (o := .cells #[.int .i64 a1_0, .int .i64 a1_1, .slice A1_2 l1_2.length c1_2] 27 (0, 0)) (Cz.b BK159.out) hg (Kd.R_ne HO_170002.out BK159.out (by decide))) (blk_grown (g := gb160) (o := .cells #[.int .i64 0, .int .i64 0, .slice none 0 0, .int .i64 0] 35 (0, 0)) (Cz.b BK160.out) hg (Kd.R_ne HO_170002.out BK160.out (by decide))) (blk_grown (g := gb169) (o := .cells #[.int .i64 a0_0, .int .i64 a1_1, u170002] 27 (0, 0)) (Cz.b BK169.out) hg (Kd.R_ne HO_170002.out BK169.out (by decide))) hb ho; clear BK158 BK159 BK160 BK169 HB HO_170002; obtain ⟨BK158, BK159, BK160, BK169, HB, HO175⟩ := n_; clear ho hb hg hat; obtain ⟨Ao82, co82, eo82⟩ := Kd.R_slice HO175.out; subst eo82; obtain ⟨hcz83_0, hcz83_1, hcz83_2, hfz83_0, hfz83_1, hfz83_2⟩ := Cy.z3 BK169.out))
              repeat (go_quiet (first | ((with_reducible refine gate_builtin (b := .append) (xs := #[.tmp 73, .tmp 75]) rfl ?_); at_builtin; refine Kd.R_append (Kd.int .i64) (w0 := w) w.heap.size rfl (.tmp 73) (.tmp 75) 22 2 (.int .i64 0) 8 rfl Try.underlying22 info2 rfl (by decide) (by omega) u170002 x170002_3 x8_4 [.int .i64 x8_4] (fun _ => True) (fun _ => False) rfl rfl ?aP (fun _ hk => hk.elim) ?aF ?aO ?aB ?aS ?aL ?_; (case aP => exact rfl); (case aB => exact (Cz.w HB.out)); (case aF => exact (fun _ _ => trivial)); (case aO => exact (Cz.r HO_170002.out)); (case aS => exact (below_size (Cz.w HB.out))); (case aL => have := LMc73.out; omega); intro v174 w81 ho hb hg hat; rw [← Ny173.out] at ho; have n_ := Cy.a6 (blk_grown (g := gb158) (o := .cells #[.int .i64 a0_0, .int .i64 a0_1, .slice A0_2 l0_2.length c0_2] 27 (0, 0)) (Cz.b BK158.out) hg (Kd.R_ne HO_170002.out BK158.out (by decide))) (blk_grown (g := gb159) (o := .cells #[.int .i64 a1_0, .int .i64 a1_1, .slice A1_2 l1_2.length c1_2] 27 (0, 0)) (Cz.b BK159.out) hg (Kd.R_ne HO_170002.out BK159.out (by decide))) (blk_grown (g := gb160) (o := .cells #[.int .i64 0, .int .i64 0, .slice none 0 0, .int .i64 0] 35 (0, 0)) (Cz.b BK160.out) hg (Kd.R_ne HO_170002.out BK160.out (by decide))) (blk_grown (g := gb169) (o := .cells #[.int .i64 a0_0, .int .i64 a1_1, u170002] 27 (0, 0)) (Cz.b BK169.out) hg (Kd.R_ne HO_170002.out BK169.out (by decide))) hb ho; clear BK158 BK159 BK160 BK169 HB HO_170002; obtain ⟨BK158, BK159, BK160, BK169, HB, HO175⟩ := n_; clear ho hb hg hat; obtain ⟨Ao82, co82, eo82⟩ := Kd.R_slice HO175.out; subst eo82; obtain ⟨hcz83_0, hcz83_1, hcz83_2, hfz83_0, hfz83_1, hfz83_2⟩ := Cy.z3 BK169.out)); try go_wp2_with (first | ((with_reducible refine gate_builtin (b := .append) (xs := #[.tmp 73, .tmp 75]) rfl ?_); at_builtin; refine Kd.R_append (Kd.int .i64) (w0 := w) w.heap.size rfl (.tmp 73) (.tmp 75) 22 2 (.int .i64 0) 8 rfl Try.underlying22 info2 rfl (by decide) (by omega) u170002 x170002_3 x8_4 [.int .i64 x8_4] (fun _ => True) (fun _ => False) rfl rfl ?aP (fun _ hk => hk.elim) ?aF ?aO ?aB ?aS ?aL ?_; (case aP => exact rfl); (case aB => exact (Cz.w HB.out)); (case aF => exact (fun _ _ => trivial)); (case aO => exact (Cz.r HO_170002.out)); (case aS => exact (below_size (Cz.w HB.out))); (case aL => have := LMc73.out; omega); intro v174 w81 ho hb hg hat; rw [← Ny173.out] at ho; have n_ := Cy.a6 (blk_grown (g := gb158) (o := .cells #[.int .i64 a0_0, .int .i64 a0_1, .slice A0_2 l0_2.length c0_2] 27 (0, 0)) (Cz.b BK158.out) hg (Kd.R_ne HO_170002.out BK158.out (by decide))) (blk_grown (g := gb159) (o := .cells #[.int .i64 a1_0, .int .i64 a1_1, .slice A1_2 l1_2.length c1_2] 27 (0, 0)) (Cz.b BK159.out) hg (Kd.R_ne HO_170002.out BK159.out (by decide))) (blk_grown (g := gb160) (o := .cells #[.int .i64 0, .int .i64 0, .slice none 0 0, .int .i64 0] 35 (0, 0)) (Cz.b BK160.out) hg (Kd.R_ne HO_170002.out BK160.out (by decide))) (blk_grown (g := gb169) (o := .cells #[.int .i64 a0_0, .int .i64 a1_1, u170002] 27 (0, 0)) (Cz.b BK169.out) hg (Kd.R_ne HO_170002.out BK169.out (by decide))) hb ho; clear BK158 BK159 BK160 BK169 HB HO_170002; obtain ⟨BK158, BK159, BK160, BK169, HB, HO175⟩ := n_; clear ho hb hg hat; obtain ⟨Ao82, co82, eo82⟩ := Kd.R_slice HO175.out; subst eo82; obtain ⟨hcz83_0, hcz83_1, hcz83_2, hfz83_0, hfz83_1, hfz83_2⟩ := Cy.z3 BK169.out)))
              go_roundg k4
              case measure => have := HJ2.out; have := HK2.out; have := HK3.out; have := HK4.out; omega
              case rel => exact ⟨(wrap64 (x7_3 + 1)), (y173), (.slice Ao82 y173.length co82), (by first | rfl | (simp; done) | (simp [*]; done)), H', ⟨by have := HJ2.out; have := HK2.out; have := HK3.out; have := HK4.out; omega⟩, ⟨by (with_reducible repeat (first | apply Kd.R_alloc | apply Kd.R_drewN | apply Kd.R_drew)); exact Kd.R_mono (Kd.R_far (p := ⟨gb169, 2, none⟩) (Kd.R_types HO175.out BK169.out (by decide)) (fun _ hk => hk.2) (.slice Ao82 y173.length co82)) (fun _ hk => trivial)⟩, ⟨Cz.f BK158.out NB158_169.out⟩, ⟨Cz.f BK159.out NB159_169.out⟩, ⟨Cz.f BK160.out NB160_169.out⟩, ⟨by (with_reducible repeat (first | refine blk_drewN ?_ _ | refine blk_drew ?_ | refine blk_alloc ?_ _)); refine blk_put (cs := #[.int .i64 a0_0, .int .i64 a1_1, u170002]) ?_ 2 _ rfl; (with_reducible repeat (first | refine blk_drewN ?_ _ | refine blk_drew ?_ | refine blk_alloc ?_ _)); exact BK169.out⟩, ⟨Cz.w HB.out⟩⟩
             ·rw [if_neg c73] at H
              exact absurd H (by simp)
         ·rw [if_neg c53] at H
          have c53b0 : decide (x7_3 < a1_1) = false := decide_eq_false c53
          clear c53
          have H' := Aside0.mk H
          clear H
          have hnb84 := NB159_158.out
          have hnc84 := NB158_159.out
          have hnb85 := NB159_160.out
          have hnc85 := NB160_159.out
          have hnb86 := NB159_169.out
          have hnc86 := NB169_159.out
          obtain ⟨hcz87_0, hcz87_1, hcz87_2, hfz87_0, hfz87_1, hfz87_2⟩ := Cy.z3 BK159.out
          go_wp2
          repeat (go_quiet (fail); try go_wp2)
          go_roundg k3
          case measure => have := HJ2.out; have := HK2.out; have := HK3.out; omega
          case rel => exact ⟨(wrap64 (x6_2 + 1)), (x170002_3), (u170002), (by first | rfl | (simp; done) | (simp [*]; done)), H', ⟨by have := HJ2.out; have := HK2.out; have := HK3.out; omega⟩, ⟨Cz.r HO_170002.out⟩, ⟨Cz.b BK158.out⟩, ⟨Cz.b BK159.out⟩, ⟨Cz.b BK160.out⟩, ⟨Cz.b BK169.out⟩, ⟨Cz.w HB.out⟩⟩
      ·rw [if_neg c48] at H
       have c48b0 : decide (x6_2 < a0_0) = false := decide_eq_false c48
       clear c48
       simp only [Option.some.injEq, Prod.mk.injEq] at H
       obtain ⟨rfl, rfl, rfl, rfl⟩ := H
       have hnb88 := NB158_159.out
       have hnc88 := NB159_158.out
       have hnb89 := NB158_160.out
       have hnc89 := NB160_158.out
       have hnb90 := NB158_169.out
       have hnc90 := NB169_158.out
       obtain ⟨hcz91_0, hcz91_1, hcz91_2, hfz91_0, hfz91_1, hfz91_2⟩ := Cy.z3 BK158.out
       have hnb92 := NB169_159.out
       have hnc92 := NB159_169.out
       have hnb93 := NB169_160.out
       have hnc93 := NB160_169.out
       obtain ⟨hcz94_0, hcz94_1, hcz94_2, hfz94_0, hfz94_1, hfz94_2⟩ := Cy.z3 BK169.out
       obtain ⟨Ao95, co95, eo95⟩ := Kd.R_slice HO_170002.out
       subst eo95
       have hnb96 := NB160_159.out
       have hnc96 := NB159_160.out
       obtain ⟨hcz97_0, hcz97_1, hcz97_2, hcz97_3, hfz97_0, hfz97_1, hfz97_2, hfz97_3⟩ := Cy.z4 BK160.out
       go_wp2
       repeat (go_quiet (fail); try go_wp2)
       refine bodyPost_ret (results_cell_row rfl _ _ gb160 35 #[.int .i64 a0_0, .int .i64 a1_1, .slice Ao95 x170002_2.length co95, .int .i64 0] (0, 0) _ rfl (Cz.p4 BK160.out) Try.underlying35 rfl (by kernel_rfl)) rfl ?_
       exact ⟨_, by first | rfl | (simp [errW_none, errW_some] <;> rfl) | (simp [*, errW_none, errW_some] <;> rfl), by (with_reducible repeat (first | apply Kd.R_alloc | apply Kd.R_drewN | apply Kd.R_drew)); exact Kd.R_mono (Kd.R_far (p := ⟨gb160, 3, none⟩) (Kd.R_far (p := ⟨gb160, 2, none⟩) (Kd.R_far (p := ⟨gb160, 1, none⟩) (Kd.R_far (p := ⟨gb160, 0, none⟩) (Kd.R_types HO_170002.out BK160.out (by decide)) (fun _ hk => hk.2) (.int .i64 a0_0)) (fun _ hk => hk.2) (.int .i64 a1_1)) (fun _ hk => hk.2) (.slice Ao95 x170002_2.length co95)) (fun _ hk => hk.2) (.int .i64 0)) (fun _ hk => trivial), Cz.w HB.out⟩
end Go.Proofs.Ytlololbhlnapkaa.XFnMatrix

/- Plain functions of what the law reaches, proofs that the calls come to them, and the law's row: written by a program of this session (xprint.py) over the kit's print. No conditions beyond each lemma's own. -/
import Derived.Test.YtlololbhlnapkaaKmCy
import Derived.Test.YtlololbhlnapkaaKmXFnMatrixx0
import Derived.Test.YtlololbhlnapkaaKmXFnMatrixx1
namespace Go.Proofs.Ytlololbhlnapkaa.XFnMatrix
open Go.RowKit Go.Proofs.YtlololbhlnapkaaW.PrintWords Go.Proofs.YtlololbhlnapkaaW.PrintLast Go.Proofs.YtlololbhlnapkaaW.PrintMore
attribute [local go_sem] max2_int min2_int max_two min_two max_three min_three max_four min_four   -- for this text's walks alone
set_option linter.unusedVariables false
set_option linter.unusedSimpArgs false
mutual
def impl_Matrix_times.l0 : Nat → Int → Int → Int → Int → List Int → Int → Int → List Int → Int → Int → List Int → Option (Int × Int × List Int)
  | 0, _, _, _, _, _, _, _, _, _, _, _ => none
  | k + 1, x17, x18, x182000, x182001, x182002, x183000, x183001, x183002, x185000, x185001, x185002 => if x18 < x17 then (impl_Matrix_times.l1 k x18 x17 x18 x183001 0 x182000 x182001 x182002 x183000 x183001 x183002 x185000 x185001 x185002) else (some (x185000, x185001, x185002))
def impl_Matrix_times.l1 : Nat → Int → Int → Int → Int → Int → Int → Int → List Int → Int → Int → List Int → Int → Int → List Int → Option (Int × Int × List Int)
  | 0, _, _, _, _, _, _, _, _, _, _, _, _, _, _ => none
  | k + 1, x6, x17, x18, x22, x23, x182000, x182001, x182002, x183000, x183001, x183002, x185000, x185001, x185002 => if x23 < x22 then (if 0 ≤ (wrap64 (x6 * x182001)) then (if (wrap64 (x6 * x182001)) ≤ (wrap64 ((wrap64 (x6 + 1)) * x182001)) then (if (wrap64 ((wrap64 (x6 + 1)) * x182001)) ≤ (x182002.length : Int) then (impl_Matrix_times.l2 k x6 x23 0 x17 x18 x22 x23 ((x182002.take ((wrap64 ((wrap64 (x6 + 1)) * x182001)) : Int).toNat).drop ((wrap64 (x6 * x182001)) : Int).toNat) (((x182002.take ((wrap64 ((wrap64 (x6 + 1)) * x182001)) : Int).toNat).drop ((wrap64 (x6 * x182001)) : Int).toNat).length : Int) 0 x182000 x182001 x182002 x183000 x183001 x183002 x185000 x185001 x185002) else (none)) else (none)) else (none)) else (impl_Matrix_times.l0 k x17 (wrap64 (x18 + 1)) x182000 x182001 x182002 x183000 x183001 x183002 x185000 x185001 x185002)
def impl_Matrix_times.l2 : Nat → Int → Int → Int → Int → Int → Int → Int → List Int → Int → Int → Int → Int → List Int → Int → Int → List Int → Int → Int → List Int → Option (Int × Int × List Int)
  | 0, _, _, _, _, _, _, _, _, _, _, _, _, _, _, _, _, _, _, _ => none
  | k + 1, x6, x7, x8, x17, x18, x22, x23, x28, x29, x30, x182000, x182001, x182002, x183000, x183001, x183002, x185000, x185001, x185002 => if x30 < x29 then (if 0 ≤ x30 then (if x30 < (x28.length : Int) then (if 0 ≤ (wrap64 (x30 * x183001)) then (if (wrap64 (x30 * x183001)) ≤ (wrap64 ((wrap64 (x30 + 1)) * x183001)) then (if (wrap64 ((wrap64 (x30 + 1)) * x183001)) ≤ (x183002.length : Int) then (if 0 ≤ x7 then (if x7 < (((x183002.take ((wrap64 ((wrap64 (x30 + 1)) * x183001)) : Int).toNat).drop ((wrap64 (x30 * x183001)) : Int).toNat).length : Int) then ((impl_mul.f k (rd x28 x30) (rd ((x183002.take ((wrap64 ((wrap64 (x30 + 1)) * x183001)) : Int).toNat).drop ((wrap64 (x30 * x183001)) : Int).toNat) x7)).bind fun t189 => (impl_Matrix_times.l2 k x6 x7 (Go.bits .xor .i64 x8 t189) x17 x18 x22 x23 x28 x29 (wrap64 (x30 + 1)) x182000 x182001 x182002 x183000 x183001 x183002 x185000 x185001 x185002)) else (none)) else (none)) else (none)) else (none)) else (none)) else (none)) else (none)) else (if x185002.length < 17592186044416 then (impl_Matrix_times.l1 k x6 x17 x18 x22 (wrap64 (x23 + 1)) x182000 x182001 x182002 x183000 x183001 x183002 x185000 x185001 (x185002 ++ [x8])) else (none))
end
def impl_Matrix_times.f (k : Nat) (a0_0 : Int) (a0_1 : Int) (l0_2 : List Int) (a1_0 : Int) (a1_1 : Int) (l1_2 : List Int) : Option (Int × Int × List Int) := impl_Matrix_times.l0 k a0_0 0 a0_0 a0_1 l0_2 a1_0 a1_1 l1_2 a0_0 a1_1 ([] : List Int)
set_option maxHeartbeats 8000000 in
set_option maxRecDepth 100000 in
theorem impl_Matrix_times.calls (k : Nat) (a0_0 : Int) (a0_1 : Int) (A0_2 : Option Addr) (c0_2 : Nat) (l0_2 : List Int) (a1_0 : Int) (a1_1 : Int) (A1_2 : Option Addr) (c1_2 : Nat) (l1_2 : List Int) (r1 : Int) (r2 : Int) (r3 : List Int) (w : World) (hr0_2 : Kd.C (Kd.int .i64) w A0_2 l0_2.length l0_2) (hc0_2 : l0_2.length ≤ c0_2) (hr1_2 : Kd.C (Kd.int .i64) w A1_2 l1_2.length l1_2) (hc1_2 : l1_2.length ≤ c1_2) (h : impl_Matrix_times.f k a0_0 a0_1 l0_2 a1_0 a1_1 l1_2 = some (r1, r2, r3)) :
  Calls Try.prog 87 #[.agg #[.int .i64 a0_0, .int .i64 a0_1, .slice A0_2 l0_2.length c0_2], .agg #[.int .i64 a1_0, .int .i64 a1_1, .slice A1_2 l1_2.length c1_2]] w fun e w' => ∃ v2_ : Value, e = .returned (.agg #[.int .i64 r1, .int .i64 r2, v2_]) ∧ Kd.R (Kd.int .i64) 2 w' w.heap.size (fun _ => True) v2_ r3 ∧ Below w.heap.size w w' := by
 have hu27 := Try.underlying27
 have HR0_2 := Aside0.mk hr0_2
 have HC0_2 := Aside0.mk hc0_2
 clear hr0_2 hc0_2
 have HR1_2 := Aside0.mk hr1_2
 have HC1_2 := Aside0.mk hc1_2
 clear hr1_2 hc1_2
 have HB := Aside0.mk (Below.refl w.heap.size w)
 have H : (impl_Matrix_times.l0 k a0_0 0 a0_0 a0_1 l0_2 a1_0 a1_1 l1_2 a0_0 a1_1 ([] : List Int)) = some (r1, r2, r3) := h
 clear h
 have H' := Aside0.mk H
 clear H
 go_enter Try.func87, Try.ntmps87
 go_wp2_with (first | ((with_reducible refine gate_dst (N := 2) rfl ?_); refine box_event ?hg (N := 2) ?hd (cs := #[.int .i64 a0_0, .int .i64 a0_1, .slice A0_2 l0_2.length c0_2]) (t := 27) ?hr ?_; (case hd => rfl); (case hg => rfl); (case hr => first | (go_simp; done) | (go_simp; rfl)); intro gb181 hg w3 hbox hb; have n_ := Cy.a4 (below_step (Cz.w HB.out) hb) hbox (Cy.gw hg HB.out) (Cy.gw hg HB.out); clear HB; obtain ⟨HB, BK181, GW181, GE181⟩ := n_; clear hb hbox hg) | ((with_reducible refine gate_dst (N := 3) rfl ?_); refine box_event ?hg (N := 3) ?hd (cs := #[.int .i64 a1_0, .int .i64 a1_1, .slice A1_2 l1_2.length c1_2]) (t := 27) ?hr ?_; (case hd => rfl); (case hg => rfl); (case hr => first | (go_simp; done) | (go_simp; rfl)); intro gb182 hg w4 hbox hb; have n_ := Cy.a7 (blk_below (g := gb181) (o := .cells #[.int .i64 a0_0, .int .i64 a0_1, .slice A0_2 l0_2.length c0_2] 27 (0, 0)) (Cz.b BK181.out) hb) (below_step (Cz.w HB.out) hb) hbox (Cy.gw hg HB.out) (Cy.gw hg HB.out) (by rw [hg]; exact Nat.ne_of_lt (blk_lt (g := gb181) (o := .cells #[.int .i64 a0_0, .int .i64 a0_1, .slice A0_2 l0_2.length c0_2] 27 (0, 0)) (Cz.b BK181.out)) : gb181 ≠ gb182) (by rw [hg]; exact Nat.ne_of_gt (blk_lt (g := gb181) (o := .cells #[.int .i64 a0_0, .int .i64 a0_1, .slice A0_2 l0_2.length c0_2] 27 (0, 0)) (Cz.b BK181.out)) : gb182 ≠ gb181); clear BK181 HB; obtain ⟨BK181, HB, BK182, GW182, GE182, NB181_182, NB182_181⟩ := n_; clear hb hbox hg) | ((with_reducible refine gate_dst (N := 4) rfl ?_); refine box_event ?hg (N := 4) ?hd (cs := #[.int .i64 0, .int .i64 0, .slice none 0 0]) (t := 27) ?hr ?_; (case hd => rfl); (case hg => rfl); (case hr => first | (go_simp; done) | (go_simp; rfl)); intro gb183 hg w5 hbox hb; have n_ := Cy.a10 (blk_below (g := gb181) (o := .cells #[.int .i64 a0_0, .int .i64 a0_1, .slice A0_2 l0_2.length c0_2] 27 (0, 0)) (Cz.b BK181.out) hb) (blk_below (g := gb182) (o := .cells #[.int .i64 a1_0, .int .i64 a1_1, .slice A1_2 l1_2.length c1_2] 27 (0, 0)) (Cz.b BK182.out) hb) (below_step (Cz.w HB.out) hb) hbox (Cy.gw hg HB.out) (Cy.gw hg HB.out) (by rw [hg]; exact Nat.ne_of_lt (blk_lt (g := gb181) (o := .cells #[.int .i64 a0_0, .int .i64 a0_1, .slice A0_2 l0_2.length c0_2] 27 (0, 0)) (Cz.b BK181.out)) : gb181 ≠ gb183) (by rw [hg]; exact Nat.ne_of_gt (blk_lt (g := gb181) (o := .cells #[.int .i64 a0_0, .int .i64 a0_1, .slice A0_2 l0_2.length c0_2] 27 (0, 0)) (Cz.b BK181.out)) : gb183 ≠ gb181) (by rw [hg]; exact Nat.ne_of_lt (blk_lt (g := gb182) (o := .cells #[.int .i64 a1_0, .int .i64 a1_1, .slice A1_2 l1_2.length c1_2] 27 (0, 0)) (Cz.b BK182.out)) : gb182 ≠ gb183) (by rw [hg]; exact Nat.ne_of_gt (blk_lt (g := gb182) (o := .cells #[.int .i64 a1_0, .int .i64 a1_1, .slice A1_2 l1_2.length c1_2] 27 (0, 0)) (Cz.b BK182.out)) : gb183 ≠ gb182); clear BK181 BK182 HB; obtain ⟨BK181, BK182, HB, BK183, GW183, GE183, NB181_183, NB183_181, NB182_183, NB183_182⟩ := n_; clear hb hbox hg; have hnb6 := NB181_182.out; have hnc6 := NB182_181.out; have hnb7 := NB181_183.out; have hnc7 := NB183_181.out; obtain ⟨hcz8_0, hcz8_1, hcz8_2, hfz8_0, hfz8_1, hfz8_2⟩ := Cy.z3 BK181.out; have hnb9 := NB182_183.out; have hnc9 := NB183_182.out; obtain ⟨hcz10_0, hcz10_1, hcz10_2, hfz10_0, hfz10_1, hfz10_2⟩ := Cy.z3 BK182.out) | ((with_reducible refine gate_dst (N := 5) rfl ?_); refine box_event ?hg (N := 5) ?hd (cs := #[.int .i64 0, .int .i64 0, .slice none 0 0]) (t := 27) ?hr ?_; (case hd => rfl); (case hg => rfl); (case hr => first | (go_simp; done) | (go_simp; rfl)); intro gb184 hg w11 hbox hb; have n_ := Cy.a13 (blk_below (g := gb181) (o := .cells #[.int .i64 a0_0, .int .i64 a0_1, .slice A0_2 l0_2.length c0_2] 27 (0, 0)) (Cz.b BK181.out) hb) (blk_below (g := gb182) (o := .cells #[.int .i64 a1_0, .int .i64 a1_1, .slice A1_2 l1_2.length c1_2] 27 (0, 0)) (Cz.b BK182.out) hb) (blk_below (g := gb183) (o := .cells #[.int .i64 0, .int .i64 0, .slice none 0 0] 27 (0, 0)) (Cz.b BK183.out) hb) (below_step (Cz.w HB.out) hb) hbox (Cy.gw hg HB.out) (Cy.gw hg HB.out) (by rw [hg]; exact Nat.ne_of_lt (blk_lt (g := gb181) (o := .cells #[.int .i64 a0_0, .int .i64 a0_1, .slice A0_2 l0_2.length c0_2] 27 (0, 0)) (Cz.b BK181.out)) : gb181 ≠ gb184) (by rw [hg]; exact Nat.ne_of_gt (blk_lt (g := gb181) (o := .cells #[.int .i64 a0_0, .int .i64 a0_1, .slice A0_2 l0_2.length c0_2] 27 (0, 0)) (Cz.b BK181.out)) : gb184 ≠ gb181) (by rw [hg]; exact Nat.ne_of_lt (blk_lt (g := gb182) (o := .cells #[.int .i64 a1_0, .int .i64 a1_1, .slice A1_2 l1_2.length c1_2] 27 (0, 0)) (Cz.b BK182.out)) : gb182 ≠ gb184) (by rw [hg]; exact Nat.ne_of_gt (blk_lt (g := gb182) (o := .cells #[.int .i64 a1_0, .int .i64 a1_1, .slice A1_2 l1_2.length c1_2] 27 (0, 0)) (Cz.b BK182.out)) : gb184 ≠ gb182) (by rw [hg]; exact Nat.ne_of_lt (blk_lt (g := gb183) (o := .cells #[.int .i64 0, .int .i64 0, .slice none 0 0] 27 (0, 0)) (Cz.b BK183.out)) : gb183 ≠ gb184) (by rw [hg]; exact Nat.ne_of_gt (blk_lt (g := gb183) (o := .cells #[.int .i64 0, .int .i64 0, .slice none 0 0] 27 (0, 0)) (Cz.b BK183.out)) : gb184 ≠ gb183); clear BK181 BK182 BK183 HB; obtain ⟨BK181, BK182, BK183, HB, BK184, GW184, GE184, NB181_184, NB184_181, NB182_184, NB184_182, NB183_184, NB184_183⟩ := n_; clear hb hbox hg; have hnb12 := NB184_181.out; have hnc12 := NB181_184.out; have hnb13 := NB184_182.out; have hnc13 := NB182_184.out; have hnb14 := NB184_183.out; have hnc14 := NB183_184.out; obtain ⟨hcz15_0, hcz15_1, hcz15_2, hfz15_0, hfz15_1, hfz15_2⟩ := Cy.z3 BK184.out; obtain ⟨hcz16_0, hcz16_1, hcz16_2, hfz16_0, hfz16_1, hfz16_2⟩ := Cy.z3 BK181.out))
 go_loopg [18] k (fun kq v18 w' => ∃ (x18_1 : Int) (x185002_1 : List Int) (u185002 : Value), v18 = .int .i64 x18_1 ∧ Aside0 (impl_Matrix_times.l0 kq a0_0 x18_1 a0_0 a0_1 l0_2 a1_0 a1_1 l1_2 a0_0 a1_1 x185002_1 = some (r1, r2, r3)) ∧ Aside0 (kq ≤ k) ∧ Aside0 (Kd.R (Kd.int .i64) 2 w' w.heap.size (fun _ => True) u185002 x185002_1) ∧ Aside0 (w'.heap[gb181]? = some (.cells #[.int .i64 a0_0, .int .i64 a0_1, (.slice A0_2 l0_2.length c0_2)] 27 (0, 0))) ∧ Aside0 (w'.heap[gb182]? = some (.cells #[.int .i64 a1_0, .int .i64 a1_1, (.slice A1_2 l1_2.length c1_2)] 27 (0, 0))) ∧ Aside0 (w'.heap[gb183]? = some (.cells #[.int .i64 0, .int .i64 0, (.slice none 0 0)] 27 (0, 0))) ∧ Aside0 (w'.heap[gb184]? = some (.cells #[.int .i64 a0_0, .int .i64 a1_1, u185002] 27 (0, 0))) ∧ Aside0 (Below w.heap.size w w'))
 case atStart => exact ⟨(0), (([] : List Int)), (.slice none 0 0), (by first | rfl | (simp; done) | (simp [*]; done)), H', ⟨Nat.le_refl _⟩, ⟨by first | exact Kd.R_nil _ _ _ _ _ | exact Kd.N_nil _ _ _ _ _ | exact Kd.V_nil _ _ _ _ _ | exact Kd.Q_nil _ _ _ _ _ | exact Kd.S_nil _ _ _ _ _⟩, ⟨Cz.f BK181.out NB181_184.out⟩, ⟨Cz.f BK182.out NB182_184.out⟩, ⟨Cz.f BK183.out NB183_184.out⟩, ⟨Cz.p3 BK184.out⟩, ⟨Cz.w HB.out⟩⟩
 case round =>
  clear H'
  try clear c1
  try clear p2
  try clear c6
  try clear c7
  try clear c8
  try clear c9
  try clear c12
  try clear c13
  try clear c14
  try clear hcz10_0
  try clear hcz10_1
  try clear hcz10_2
  try clear hcz15_0
  try clear hcz15_1
  try clear hcz15_2
  try clear hcz16_0
  try clear hcz16_1
  try clear hcz16_2
  try clear hcz8_0
  try clear hcz8_1
  try clear hcz8_2
  try clear hfz10_0
  try clear hfz10_1
  try clear hfz10_2
  try clear hfz15_0
  try clear hfz15_1
  try clear hfz15_2
  try clear hfz16_0
  try clear hfz16_1
  try clear hfz16_2
  try clear hfz8_0
  try clear hfz8_1
  try clear hfz8_2
  obtain ⟨x18_1, x185002_1, u185002, rfl, HA, HK1, HO_185002, BK181, BK182, BK183, BK184, HB⟩ := hrel
  cases gk with
  | zero => exact absurd HA.out (by simp [impl_Matrix_times.l0])
  | succ k1 =>
   have H := HA.out
   clear HA
   simp only [impl_Matrix_times.l0] at H
   by_cases c17 : x18_1 < a0_0
   ·rw [if_pos c17] at H
    have c17b0 : decide (x18_1 < a0_0) = true := decide_eq_true c17
    clear c17
    have H' := Aside0.mk H
    clear H
    have hnb18 := NB182_181.out
    have hnc18 := NB181_182.out
    have hnb19 := NB182_183.out
    have hnc19 := NB183_182.out
    have hnb20 := NB182_184.out
    have hnc20 := NB184_182.out
    obtain ⟨hcz21_0, hcz21_1, hcz21_2, hfz21_0, hfz21_1, hfz21_2⟩ := Cy.z3 BK182.out
    go_wp2
    go_loopg [23] k1 (fun kq v23 w' => ∃ (x23_2 : Int) (x185002_2 : List Int) (u185002 : Value), v23 = .int .i64 x23_2 ∧ Aside0 (impl_Matrix_times.l1 kq x18_1 a0_0 x18_1 a1_1 x23_2 a0_0 a0_1 l0_2 a1_0 a1_1 l1_2 a0_0 a1_1 x185002_2 = some (r1, r2, r3)) ∧ Aside0 (kq ≤ k1) ∧ Aside0 (Kd.R (Kd.int .i64) 2 w' w.heap.size (fun _ => True) u185002 x185002_2) ∧ Aside0 (w'.heap[gb181]? = some (.cells #[.int .i64 a0_0, .int .i64 a0_1, (.slice A0_2 l0_2.length c0_2)] 27 (0, 0))) ∧ Aside0 (w'.heap[gb182]? = some (.cells #[.int .i64 a1_0, .int .i64 a1_1, (.slice A1_2 l1_2.length c1_2)] 27 (0, 0))) ∧ Aside0 (w'.heap[gb183]? = some (.cells #[.int .i64 0, .int .i64 0, (.slice none 0 0)] 27 (0, 0))) ∧ Aside0 (w'.heap[gb184]? = some (.cells #[.int .i64 a0_0, .int .i64 a1_1, u185002] 27 (0, 0))) ∧ Aside0 (Below w.heap.size w w'))
    case atStart => exact ⟨(0), (x185002_1), (u185002), (by first | rfl | (simp; done) | (simp [*]; done)), H', ⟨Nat.le_refl _⟩, ⟨Cz.r HO_185002.out⟩, ⟨Cz.b BK181.out⟩, ⟨Cz.b BK182.out⟩, ⟨Cz.b BK183.out⟩, ⟨Cz.b BK184.out⟩, ⟨Cz.w HB.out⟩⟩
    case round =>
     clear H'
     try clear c1
     try clear c2
     try clear p2
     try clear c6
     try clear c7
     try clear c8
     try clear c9
     try clear c12
     try clear c13
     try clear c14
     try clear c17
     try clear c17b0
     try clear c18
     try clear c19
     try clear c20
     try clear hcz10_0
     try clear hcz10_1
     try clear hcz10_2
     try clear hcz15_0
     try clear hcz15_1
     try clear hcz15_2
     try clear hcz16_0
     try clear hcz16_1
     try clear hcz16_2
     try clear hcz21_0
     try clear hcz21_1
     try clear hcz21_2
     try clear hcz8_0
     try clear hcz8_1
     try clear hcz8_2
     try clear hfz10_0
     try clear hfz10_1
     try clear hfz10_2
     try clear hfz15_0
     try clear hfz15_1
     try clear hfz15_2
     try clear hfz16_0
     try clear hfz16_1
     try clear hfz16_2
     try clear hfz21_0
     try clear hfz21_1
     try clear hfz21_2
     try clear hfz8_0
     try clear hfz8_1
     try clear hfz8_2
     try clear p2
     obtain ⟨x23_2, x185002_2, u185002, rfl, HA, HK2, HO_185002, BK181, BK182, BK183, BK184, HB⟩ := hrel
     cases gk with
     | zero => exact absurd HA.out (by simp [impl_Matrix_times.l1])
     | succ k2 =>
      have H := HA.out
      clear HA
      simp only [impl_Matrix_times.l1] at H
      by_cases c22 : x23_2 < a1_1
      ·rw [if_pos c22] at H
       have c22b0 : decide (x23_2 < a1_1) = true := decide_eq_true c22
       clear c22
       obtain ⟨ji23, hji23⟩ : ∃ j_ : Int, (wrap64 (x18_1 * a0_1)) = j_ := ⟨_, rfl⟩
       replace H : (if 0 ≤ (ji23) then (if (ji23) ≤ (wrap64 ((wrap64 (x18_1 + 1)) * a0_1)) then (if (wrap64 ((wrap64 (x18_1 + 1)) * a0_1)) ≤ (l0_2.length : Int) then (impl_Matrix_times.l2 k2 x18_1 x23_2 0 a0_0 x18_1 a1_1 x23_2 ((l0_2.take ((wrap64 ((wrap64 (x18_1 + 1)) * a0_1)) : Int).toNat).drop ((ji23) : Int).toNat) (((l0_2.take ((wrap64 ((wrap64 (x18_1 + 1)) * a0_1)) : Int).toNat).drop ((ji23) : Int).toNat).length : Int) 0 a0_0 a0_1 l0_2 a1_0 a1_1 l1_2 a0_0 a1_1 x185002_2) else (none)) else (none)) else (none)) = some (r1, r2, r3) := by first | (rw [hji23] at H; exact H) | (simp only [hji23] at H ⊢; exact H)
       have hji23w : (IntKind.i64.wrap (x18_1 * a0_1)) = ji23 := (i64_w _).trans hji23
       by_cases c24 : 0 ≤ (ji23)
       ·rw [if_pos c24] at H
        have c24b0 := eq_true c24
        have c24b1 : decide (0 ≤ (ji23)) = true := decide_eq_true c24
        clear c24
        by_cases c25 : (ji23) ≤ (wrap64 ((wrap64 (x18_1 + 1)) * a0_1))
        ·rw [if_pos c25] at H
         have c25b0 := eq_true c25
         have c25b1 : decide ((ji23) ≤ (wrap64 ((wrap64 (x18_1 + 1)) * a0_1))) = true := decide_eq_true c25
         by_cases c26 : (wrap64 ((wrap64 (x18_1 + 1)) * a0_1)) ≤ (l0_2.length : Int)
         ·rw [if_pos c26] at H
          have c26b0 := eq_true c26
          have c26b1 : decide ((wrap64 ((wrap64 (x18_1 + 1)) * a0_1)) ≤ (l0_2.length : Int)) = true := decide_eq_true c26
          have HMZl0_2 := Aside0.mk (of_decide_eq_true c26b1)
          have H' := Aside0.mk H
          clear H
          have hnb27 := NB181_182.out
          have hnc27 := NB182_181.out
          have hnb28 := NB181_183.out
          have hnc28 := NB183_181.out
          have hnb29 := NB181_184.out
          have hnc29 := NB184_181.out
          obtain ⟨hcz30_0, hcz30_1, hcz30_2, hfz30_0, hfz30_1, hfz30_2⟩ := Cy.z3 BK181.out
          obtain ⟨i031, hi031, _, hsz31, _⟩ := info_parts info2
          obtain ⟨A31, hcut31, hA31, hC31⟩ := print_mid_of (P := Try.prog) (Value.int .i64) 0 22 2 .i64 .i64 Try.underlying22 hi031 hsz31 A0_2 c0_2 l0_2 (ji23) (wrap64 ((wrap64 (x18_1 + 1)) * a0_1)) (of_decide_eq_true (by first | (with_reducible assumption) | assumption)) (by first | omega | exact of_decide_eq_true (by first | (with_reducible assumption) | assumption)) (of_decide_eq_true (by first | (with_reducible assumption) | assumption)) HC0_2.out
          have HR185 := Aside0.mk (Kd.C_of_reads (h1 := fun _ => rfl) (hA31 _ (Kd.reads_of_C HR0_2.out)))
          have HC185 := Aside0.mk hC31
          clear hA31 hC31 hi031 hsz31
          go_wp2_with (go_at_call 125; (with_reducible refine (Mx.row_calls _ _ _ _ _ _ _ _ _ _ hji23 rfl hcut31).mono ?_); rintro e wq_ ⟨rfl, rfl⟩)
          go_loopg [8, 30] k2 (fun kq v8 v30 w' => ∃ (x8_3 : Int) (x30_3 : Int), v8 = .int .i64 x8_3 ∧ v30 = .int .i64 x30_3 ∧ Aside0 (impl_Matrix_times.l2 kq x18_1 x23_2 x8_3 a0_0 x18_1 a1_1 x23_2 ((l0_2.take ((wrap64 ((wrap64 (x18_1 + 1)) * a0_1)) : Int).toNat).drop ((ji23) : Int).toNat) (((l0_2.take ((wrap64 ((wrap64 (x18_1 + 1)) * a0_1)) : Int).toNat).drop ((ji23) : Int).toNat).length : Int) x30_3 a0_0 a0_1 l0_2 a1_0 a1_1 l1_2 a0_0 a1_1 x185002_2 = some (r1, r2, r3)) ∧ Aside0 (kq ≤ k2) ∧ Aside0 (Kd.R (Kd.int .i64) 2 w' w.heap.size (fun _ => True) u185002 x185002_2) ∧ Aside0 (w'.heap[gb181]? = some (.cells #[.int .i64 a0_0, .int .i64 a0_1, (.slice A0_2 l0_2.length c0_2)] 27 (0, 0))) ∧ Aside0 (w'.heap[gb182]? = some (.cells #[.int .i64 a1_0, .int .i64 a1_1, (.slice A1_2 l1_2.length c1_2)] 27 (0, 0))) ∧ Aside0 (w'.heap[gb183]? = some (.cells #[.int .i64 0, .int .i64 0, (.slice none 0 0)] 27 (0, 0))) ∧ Aside0 (w'.heap[gb184]? = some (.cells #[.int .i64 a0_0, .int .i64 a1_1, u185002] 27 (0, 0))) ∧ Aside0 (Below w.heap.size w w'))
          case atStart => exact ⟨(0), (0), (by first | rfl | (simp; done) | (simp [*]; done)), (by first | rfl | (simp; done) | (simp [*]; done)), H', ⟨Nat.le_refl _⟩, ⟨Cz.r HO_185002.out⟩, ⟨Cz.b BK181.out⟩, ⟨Cz.b BK182.out⟩, ⟨Cz.b BK183.out⟩, ⟨Cz.b BK184.out⟩, ⟨Cz.w HB.out⟩⟩
          case round =>
           clear H'
           try clear c1
           try clear c2
           try clear p2
           try clear c6
           try clear p6
           try clear c7
           try clear c8
           try clear c9
           try clear c12
           try clear c13
           try clear c14
           try clear c17
           try clear c17b0
           try clear c18
           try clear c19
           try clear c20
           try clear c22
           try clear c22b0
           try clear c24
           try clear c24b0
           try clear c24b1
           try clear c25
           try clear c25b0
           try clear c25b1
           try clear c26
           try clear c26b0
           try clear c26b1
           try clear c27
           try clear c28
           try clear c29
           try clear hcz10_0
           try clear hcz10_1
           try clear hcz10_2
           try clear hcz15_0
           try clear hcz15_1
           try clear hcz15_2
           try clear hcz16_0
           try clear hcz16_1
           try clear hcz16_2
           try clear hcz21_0
           try clear hcz21_1
           try clear hcz21_2
           try clear hcz30_0
           try clear hcz30_1
           try clear hcz30_2
           try clear hcz8_0
           try clear hcz8_1
           try clear hcz8_2
           try clear hfz10_0
           try clear hfz10_1
           try clear hfz10_2
           try clear hfz15_0
           try clear hfz15_1
           try clear hfz15_2
           try clear hfz16_0
           try clear hfz16_1
           try clear hfz16_2
           try clear hfz21_0
           try clear hfz21_1
           try clear hfz21_2
           try clear hfz30_0
           try clear hfz30_1
           try clear hfz30_2
           try clear hfz8_0
           try clear hfz8_1
           try clear hfz8_2
           try clear p2
           obtain ⟨x8_3, x30_3, rfl, rfl, HA, HK3, HO_185002, BK181, BK182, BK183, BK184, HB⟩ := hrel
           cases gk with
           | zero => exact absurd HA.out (by simp [impl_Matrix_times.l2])
           | succ k3 =>
            have H := HA.out
            clear HA
            simp only [impl_Matrix_times.l2] at H
            by_cases c32 : x30_3 < (((l0_2.take ((wrap64 ((wrap64 (x18_1 + 1)) * a0_1)) : Int).toNat).drop ((ji23) : Int).toNat).length : Int)
            ·rw [if_pos c32] at H
             have c32b0 : decide (x30_3 < (((l0_2.take ((wrap64 ((wrap64 (x18_1 + 1)) * a0_1)) : Int).toNat).drop ((ji23) : Int).toNat).length : Int)) = true := decide_eq_true c32
             have c32z := of_decide_eq_true c32b0
             rw [Mx.mid_len _ _ _ HMZl0_2.out] at c32z
             have c32y := decide_eq_true c32z
             replace c32z := eq_true c32z
             clear c32
             by_cases c33 : 0 ≤ x30_3
             ·rw [if_pos c33] at H
              have c33b0 : decide (0 ≤ x30_3) = true := decide_eq_true c33
              clear c33
              by_cases c34 : x30_3 < (((l0_2.take ((wrap64 ((wrap64 (x18_1 + 1)) * a0_1)) : Int).toNat).drop ((ji23) : Int).toNat).length : Int)
              ·rw [if_pos c34] at H
               have c34b0 : decide (x30_3 < (((l0_2.take ((wrap64 ((wrap64 (x18_1 + 1)) * a0_1)) : Int).toNat).drop ((ji23) : Int).toNat).length : Int)) = true := decide_eq_true c34
               have c34z := of_decide_eq_true c34b0
               rw [Mx.mid_len _ _ _ HMZl0_2.out] at c34z
               have c34y := decide_eq_true c34z
               replace c34z := eq_true c34z
               clear c34
               obtain ⟨ji35, hji35⟩ : ∃ j_ : Int, (wrap64 (x30_3 * a1_1)) = j_ := ⟨_, rfl⟩
               replace H : (if 0 ≤ (ji35) then (if (ji35) ≤ (wrap64 ((wrap64 (x30_3 + 1)) * a1_1)) then (if (wrap64 ((wrap64 (x30_3 + 1)) * a1_1)) ≤ (l1_2.length : Int) then (if 0 ≤ x23_2 then (if x23_2 < (((l1_2.take ((wrap64 ((wrap64 (x30_3 + 1)) * a1_1)) : Int).toNat).drop ((ji35) : Int).toNat).length : Int) then ((impl_mul.f k3 (rd ((l0_2.take ((wrap64 ((wrap64 (x18_1 + 1)) * a0_1)) : Int).toNat).drop ((ji23) : Int).toNat) x30_3) (rd ((l1_2.take ((wrap64 ((wrap64 (x30_3 + 1)) * a1_1)) : Int).toNat).drop ((ji35) : Int).toNat) x23_2)).bind fun t189 => (impl_Matrix_times.l2 k3 x18_1 x23_2 (Go.bits .xor .i64 x8_3 t189) a0_0 x18_1 a1_1 x23_2 ((l0_2.take ((wrap64 ((wrap64 (x18_1 + 1)) * a0_1)) : Int).toNat).drop ((ji23) : Int).toNat) (((l0_2.take ((wrap64 ((wrap64 (x18_1 + 1)) * a0_1)) : Int).toNat).drop ((ji23) : Int).toNat).length : Int) (wrap64 (x30_3 + 1)) a0_0 a0_1 l0_2 a1_0 a1_1 l1_2 a0_0 a1_1 x185002_2)) else (none)) else (none)) else (none)) else (none)) else (none)) = some (r1, r2, r3) := by first | (rw [hji35] at H; exact H) | (simp only [hji35] at H ⊢; exact H)
               have hji35w : (IntKind.i64.wrap (x30_3 * a1_1)) = ji35 := (i64_w _).trans hji35
               by_cases c36 : 0 ≤ (ji35)
               ·rw [if_pos c36] at H
                have c36b0 := eq_true c36
                have c36b1 : decide (0 ≤ (ji35)) = true := decide_eq_true c36
                clear c36
                by_cases c37 : (ji35) ≤ (wrap64 ((wrap64 (x30_3 + 1)) * a1_1))
                ·rw [if_pos c37] at H
                 have c37b0 := eq_true c37
                 have c37b1 : decide ((ji35) ≤ (wrap64 ((wrap64 (x30_3 + 1)) * a1_1))) = true := decide_eq_true c37
                 by_cases c38 : (wrap64 ((wrap64 (x30_3 + 1)) * a1_1)) ≤ (l1_2.length : Int)
                 ·rw [if_pos c38] at H
                  have c38b0 := eq_true c38
                  have c38b1 : decide ((wrap64 ((wrap64 (x30_3 + 1)) * a1_1)) ≤ (l1_2.length : Int)) = true := decide_eq_true c38
                  have HMZl1_2 := Aside0.mk (of_decide_eq_true c38b1)
                  by_cases c39 : 0 ≤ x23_2
                  ·rw [if_pos c39] at H
                   have c39b0 : decide (0 ≤ x23_2) = true := decide_eq_true c39
                   clear c39
                   by_cases c40 : x23_2 < (((l1_2.take ((wrap64 ((wrap64 (x30_3 + 1)) * a1_1)) : Int).toNat).drop ((ji35) : Int).toNat).length : Int)
                   ·rw [if_pos c40] at H
                    have c40b0 : decide (x23_2 < (((l1_2.take ((wrap64 ((wrap64 (x30_3 + 1)) * a1_1)) : Int).toNat).drop ((ji35) : Int).toNat).length : Int)) = true := decide_eq_true c40
                    have c40z := of_decide_eq_true c40b0
                    rw [Mx.mid_len _ _ _ HMZl1_2.out] at c40z
                    have c40y := decide_eq_true c40z
                    replace c40z := eq_true c40z
                    clear c40
                    replace H := Option.bind_eq_some_iff.mp H
                    obtain ⟨t189, A410, H⟩ := H
                    replace H : (impl_Matrix_times.l2 k3 x18_1 x23_2 (Go.bits .xor .i64 x8_3 t189) a0_0 x18_1 a1_1 x23_2 ((l0_2.take ((wrap64 ((wrap64 (x18_1 + 1)) * a0_1)) : Int).toNat).drop ((ji23) : Int).toNat) (((l0_2.take ((wrap64 ((wrap64 (x18_1 + 1)) * a0_1)) : Int).toNat).drop ((ji23) : Int).toNat).length : Int) (wrap64 (x30_3 + 1)) a0_0 a0_1 l0_2 a1_0 a1_1 l1_2 a0_0 a1_1 x185002_2) = some (r1, r2, r3) := H
                    have A41 := Aside0.mk A410
                    clear A410
                    have H' := Aside0.mk H
                    clear H
                    have p186 : 0 ≤ (x30_3 : Int) := of_decide_eq_true (by first | (with_reducible assumption) | assumption)
                    have q186 : x30_3 < (((l0_2.take ((wrap64 ((wrap64 (x18_1 + 1)) * a0_1)) : Int).toNat).drop ((ji23) : Int).toNat).length : Int) := of_decide_eq_true (by first | (with_reducible assumption) | assumption)
                    obtain ⟨ad186, e186, hx186_0⟩ := Kd.at_int HR185.out x30_3 p186 q186
                    cases e186
                    replace hx186_0 := (HB.out.cell (World.block_lt_of_cell? w _ hx186_0)).trans hx186_0
                    replace p186 := eq_true p186
                    replace q186 := eq_true q186
                    have hnb42 := NB182_181.out
                    have hnc42 := NB181_182.out
                    have hnb43 := NB182_183.out
                    have hnc43 := NB183_182.out
                    have hnb44 := NB182_184.out
                    have hnc44 := NB184_182.out
                    obtain ⟨hcz45_0, hcz45_1, hcz45_2, hfz45_0, hfz45_1, hfz45_2⟩ := Cy.z3 BK182.out
                    obtain ⟨i046, hi046, _, hsz46, _⟩ := info_parts info2
                    obtain ⟨A46, hcut46, hA46, hC46⟩ := print_mid_of (P := Try.prog) (Value.int .i64) 0 22 2 .i64 .i64 Try.underlying22 hi046 hsz46 A1_2 c1_2 l1_2 (ji35) (wrap64 ((wrap64 (x30_3 + 1)) * a1_1)) (of_decide_eq_true (by first | (with_reducible assumption) | assumption)) (by first | omega | exact of_decide_eq_true (by first | (with_reducible assumption) | assumption)) (of_decide_eq_true (by first | (with_reducible assumption) | assumption)) HC1_2.out
                    have HR187 := Aside0.mk (Kd.C_of_reads (h1 := fun _ => rfl) (hA46 _ (Kd.reads_of_C HR1_2.out)))
                    have HC187 := Aside0.mk hC46
                    clear hA46 hC46 hi046 hsz46
                    have p188 : 0 ≤ (x23_2 : Int) := of_decide_eq_true (by first | (with_reducible assumption) | assumption)
                    have q188 : x23_2 < (((l1_2.take ((wrap64 ((wrap64 (x30_3 + 1)) * a1_1)) : Int).toNat).drop ((ji35) : Int).toNat).length : Int) := of_decide_eq_true (by first | (with_reducible assumption) | assumption)
                    obtain ⟨ad188, e188, hx188_0⟩ := Kd.at_int HR187.out x23_2 p188 q188
                    cases e188
                    replace hx188_0 := (HB.out.cell (World.block_lt_of_cell? w _ hx188_0)).trans hx188_0
                    replace p188 := eq_true p188
                    replace q188 := eq_true q188
                    go_wp2_with (first | (go_at_call 125; (with_reducible refine (Mx.row_calls _ _ _ _ _ _ _ _ _ _ hji35 rfl hcut46).mono ?_); rintro e wq_ ⟨rfl, rfl⟩; replace hx188_0 := Mx.alloc_cell (Obj.cells #[.int .i64 a1_0, .int .i64 a1_1, .slice A1_2 l1_2.length c1_2] 27) hx188_0; replace hx186_0 := Mx.alloc_cell (Obj.cells #[.int .i64 a1_0, .int .i64 a1_1, .slice A1_2 l1_2.length c1_2] 27) hx186_0) | ((with_reducible refine gate_callee (f := 132) rfl ?_); refine goesL_ (some 43) rfl rfl Try.func132 (by kernel_rfl) rfl #[.int .i64 (rd ((l0_2.take ((wrap64 ((wrap64 (x18_1 + 1)) * a0_1)) : Int).toNat).drop ((ji23) : Int).toNat) x30_3), .int .i64 (rd ((l1_2.take ((wrap64 ((wrap64 (x30_3 + 1)) * a1_1)) : Int).toNat).drop ((ji35) : Int).toNat) x23_2)] rfl (by (try simp only [List.map_toArray, List.map_cons, List.map_nil]); first | done | (simp only [hji23, hji35]; rfl) | rfl | (simp only [List.length_drop, List.length_take]; rfl)) ?_; (with_reducible refine (impl_mul.calls k3 (rd ((l0_2.take ((wrap64 ((wrap64 (x18_1 + 1)) * a0_1)) : Int).toNat).drop ((ji23) : Int).toNat) x30_3) (rd ((l1_2.take ((wrap64 ((wrap64 (x30_3 + 1)) * a1_1)) : Int).toNat).drop ((ji35) : Int).toNat) x23_2) t189 _ A41.out).mono ?_); rintro e w' ⟨rfl, ⟨nd, rfl⟩⟩; refine ⟨_, rfl, ?_⟩))
                    go_roundg k3
                    case measure => have := HK1.out; have := HK2.out; have := HK3.out; omega
                    case rel => exact ⟨(Go.bits .xor .i64 x8_3 t189), (wrap64 (x30_3 + 1)), (by first | rfl | (simp; done) | (simp [*]; done)), (by first | rfl | (simp; done) | (simp [*]; done)), H', ⟨by have := HK1.out; have := HK2.out; have := HK3.out; omega⟩, ⟨Cz.r HO_185002.out⟩, ⟨Cz.b BK181.out⟩, ⟨Cz.b BK182.out⟩, ⟨Cz.b BK183.out⟩, ⟨Cz.b BK184.out⟩, ⟨Cz.w HB.out⟩⟩
                   ·rw [if_neg c40] at H
                    exact absurd H (by simp)
                  ·rw [if_neg c39] at H
                   exact absurd H (by simp)
                 ·rw [if_neg c38] at H
                  exact absurd H (by simp)
                ·rw [if_neg c37] at H
                 exact absurd H (by simp)
               ·rw [if_neg c36] at H
                exact absurd H (by simp)
              ·rw [if_neg c34] at H
               exact absurd H (by simp)
             ·rw [if_neg c33] at H
              exact absurd H (by simp)
            ·rw [if_neg c32] at H
             have c32b0 : decide (x30_3 < (((l0_2.take ((wrap64 ((wrap64 (x18_1 + 1)) * a0_1)) : Int).toNat).drop ((ji23) : Int).toNat).length : Int)) = false := decide_eq_false c32
             have c32z := c32b0
             rw [Mx.mid_len _ _ _ HMZl0_2.out] at c32z
             clear c32
             by_cases c47 : x185002_2.length < 17592186044416
             ·rw [if_pos c47] at H
              have LMc47 := Aside0.mk c47
              clear c47
              obtain ⟨y190, hy190⟩ : ∃ y_ : List Int, y_ = (x185002_2 ++ [x8_3]) := ⟨_, rfl⟩
              replace H : (impl_Matrix_times.l1 k3 x18_1 a0_0 x18_1 a1_1 (wrap64 (x23_2 + 1)) a0_0 a0_1 l0_2 a1_0 a1_1 l1_2 a0_0 a1_1 y190) = some (r1, r2, r3) := by first | (rw [hy190]; with_reducible exact H) | (have H2_ := (Option.bind_some _ _).symm.trans H; rw [hy190]; with_reducible exact H2_) | (have H2_ := (Option.bind_some _ _).symm.trans H; with_reducible exact H2_) | with_reducible exact H | (rw [hy190]; exact H) | exact H
              have Ny190 := Aside0.mk hy190
              clear hy190
              have H' := Aside0.mk H
              clear H
              have hnb48 := NB184_181.out
              have hnc48 := NB181_184.out
              have hnb49 := NB184_182.out
              have hnc49 := NB182_184.out
              have hnb50 := NB184_183.out
              have hnc50 := NB183_184.out
              obtain ⟨hcz51_0, hcz51_1, hcz51_2, hfz51_0, hfz51_1, hfz51_2⟩ := Cy.z3 BK184.out
              go_wp2_with (first | ((with_reducible refine gate_builtin (b := .append) (xs := #[.tmp 47, .tmp 49]) rfl ?_); at_builtin; refine Kd.R_append (Kd.int .i64) (w0 := w) w.heap.size rfl (.tmp 47) (.tmp 49) 22 2 (.int .i64 0) 8 rfl Try.underlying22 info2 rfl (by decide) (by omega) u185002 x185002_2 x8_3 [.int .i64 x8_3] (fun _ => True) (fun _ => False) rfl rfl ?aP (fun _ hk => hk.elim) ?aF ?aO ?aB ?aS ?aL ?_; (case aP => exact rfl); (case aB => exact (Cz.w HB.out)); (case aF => exact (fun _ _ => trivial)); (case aO => exact (Cz.r HO_185002.out)); (case aS => exact (below_size (Cz.w HB.out))); (case aL => have := LMc47.out; omega); intro v191 w52 ho hb hg hat; rw [← Ny190.out] at ho; have n_ := Cy.a6 (blk_grown (g := gb181) (o := .cells #[.int .i64 a0_0, .int .i64 a0_1, .slice A0_2 l0_2.length c0_2] 27 (0, 0)) (Cz.b BK181.out) hg (Kd.R_ne HO_185002.out BK181.out (by decide))) (blk_grown (g := gb182) (o := .cells #[.int .i64 a1_0, .int .i64 a1_1, .slice A1_2 l1_2.length c1_2] 27 (0, 0)) (Cz.b BK182.out) hg (Kd.R_ne HO_185002.out BK182.out (by decide))) (blk_grown (g := gb183) (o := .cells #[.int .i64 0, .int .i64 0, .slice none 0 0] 27 (0, 0)) (Cz.b BK183.out) hg (Kd.R_ne HO_185002.out BK183.out (by decide))) (blk_grown (g := gb184) (o := .cells #[.int .i64 a0_0, .int .i64 a1_1, u185002] 27 (0, 0)) (Cz.b BK184.out) hg (Kd.R_ne HO_185002.out BK184.out (by decide))) hb ho; clear BK181 BK182 BK183 BK184 HB HO_185002; obtain ⟨BK181, BK182, BK183, BK184, HB, HO192⟩ := n_; clear ho hb hg hat; obtain ⟨Ao53, co53, eo53⟩ := Kd.R_slice HO192.out; subst eo53; obtain ⟨hcz54_0, hcz54_1, hcz54_2, hfz54_0, hfz54_1, hfz54_2⟩ := Cy.z3 BK184.out))
              go_roundg k3
              case measure => have := HK1.out; have := HK2.out; have := HK3.out; omega
              case rel => exact ⟨(wrap64 (x23_2 + 1)), (y190), (.slice Ao53 y190.length co53), (by first | rfl | (simp; done) | (simp [*]; done)), H', ⟨by have := HK1.out; have := HK2.out; have := HK3.out; omega⟩, ⟨by (with_reducible repeat (first | apply Kd.R_alloc | apply Kd.R_drewN | apply Kd.R_drew)); exact Kd.R_mono (Kd.R_far (p := ⟨gb184, 2, none⟩) (Kd.R_types HO192.out BK184.out (by decide)) (fun _ hk => hk.2) (.slice Ao53 y190.length co53)) (fun _ hk => trivial)⟩, ⟨Cz.f BK181.out NB181_184.out⟩, ⟨Cz.f BK182.out NB182_184.out⟩, ⟨Cz.f BK183.out NB183_184.out⟩, ⟨by (with_reducible repeat (first | refine blk_drewN ?_ _ | refine blk_drew ?_ | refine blk_alloc ?_ _)); refine blk_put (cs := #[.int .i64 a0_0, .int .i64 a1_1, u185002]) ?_ 2 _ rfl; (with_reducible repeat (first | refine blk_drewN ?_ _ | refine blk_drew ?_ | refine blk_alloc ?_ _)); exact BK184.out⟩, ⟨Cz.w HB.out⟩⟩
             ·rw [if_neg c47] at H
              exact absurd H (by simp)
         ·rw [if_neg c26] at H
          exact absurd H (by simp)
        ·rw [if_neg c25] at H
         exact absurd H (by simp)
       ·rw [if_neg c24] at H
        exact absurd H (by simp)
      ·rw [if_neg c22] at H
       have c22b0 : decide (x23_2 < a1_1) = false := decide_eq_false c22
       clear c22
       have H' := Aside0.mk H
       clear H
       go_wp2
       go_roundg k2
       case measure => have := HK1.out; have := HK2.out; omega
       case rel => exact ⟨(wrap64 (x18_1 + 1)), (x185002_2), (u185002), (by first | rfl | (simp; done) | (simp [*]; done)), H', ⟨by have := HK1.out; have := HK2.out; omega⟩, ⟨Cz.r HO_185002.out⟩, ⟨Cz.b BK181.out⟩, ⟨Cz.b BK182.out⟩, ⟨Cz.b BK183.out⟩, ⟨Cz.b BK184.out⟩, ⟨Cz.w HB.out⟩⟩
   ·rw [if_neg c17] at H
    have c17b0 : decide (x18_1 < a0_0) = false := decide_eq_false c17
    clear c17
    simp only [Option.some.injEq, Prod.mk.injEq] at H
    obtain ⟨rfl, rfl, rfl⟩ := H
    have hnb55 := NB184_181.out
    have hnc55 := NB181_184.out
    have hnb56 := NB184_182.out
    have hnc56 := NB182_184.out
    have hnb57 := NB184_183.out
    have hnc57 := NB183_184.out
    obtain ⟨hcz58_0, hcz58_1, hcz58_2, hfz58_0, hfz58_1, hfz58_2⟩ := Cy.z3 BK184.out
    have hnb59 := NB183_181.out
    have hnc59 := NB181_183.out
    have hnb60 := NB183_182.out
    have hnc60 := NB182_183.out
    obtain ⟨hcz61_0, hcz61_1, hcz61_2, hfz61_0, hfz61_1, hfz61_2⟩ := Cy.z3 BK183.out
    obtain ⟨Ao62, co62, eo62⟩ := Kd.R_slice HO_185002.out
    subst eo62
    go_wp2
    refine bodyPost_ret (results_cell_row rfl _ _ gb183 27 #[.int .i64 a0_0, .int .i64 a1_1, .slice Ao62 x185002_1.length co62] (0, 0) _ rfl (Cz.p3 BK183.out) Try.underlying27 rfl (by kernel_rfl)) rfl ?_
    exact ⟨_, by first | rfl | (simp [errW_none, errW_some] <;> rfl) | (simp [*, errW_none, errW_some] <;> rfl), by (with_reducible repeat (first | apply Kd.R_alloc | apply Kd.R_drewN | apply Kd.R_drew)); exact Kd.R_mono (Kd.R_far (p := ⟨gb183, 2, none⟩) (Kd.R_far (p := ⟨gb183, 1, none⟩) (Kd.R_far (p := ⟨gb183, 0, none⟩) (Kd.R_types HO_185002.out BK183.out (by decide)) (fun _ hk => hk.2) (.int .i64 a0_0)) (fun _ hk => hk.2) (.int .i64 a1_1)) (fun _ hk => hk.2) (.slice Ao62 x185002_1.length co62)) (fun _ hk => trivial), Cz.w HB.out⟩
def impl_MatrixMul.f (k : Nat) (a0_0 : Int) (a0_1 : Int) (l0_2 : List Int) (a1_0 : Int) (a1_1 : Int) (l1_2 : List Int) : Option (Int × Int × List Int × Int) := (impl_MatrixRight.f a0_0 a0_1 l0_2).bind fun t196 => (if t196 = true then ((impl_MatrixRight.f a1_0 a1_1 l1_2).bind fun t197 => (if t197 = true then (if a0_1 = a1_0 then ((impl_Matrix_times.f k a0_0 a0_1 l0_2 a1_0 a1_1 l1_2).bind fun bt198 => (some (bt198.1, bt198.2.1, bt198.2.2, 0))) else (some (0, 0, ([] : List Int), 1))) else (some (0, 0, ([] : List Int), 1)))) else (some (0, 0, ([] : List Int), 1)))
set_option maxHeartbeats 8000000 in
set_option maxRecDepth 100000 in
theorem impl_MatrixMul.calls (k : Nat) (a0_0 : Int) (a0_1 : Int) (A0_2 : Option Addr) (c0_2 : Nat) (l0_2 : List Int) (a1_0 : Int) (a1_1 : Int) (A1_2 : Option Addr) (c1_2 : Nat) (l1_2 : List Int) (r1 : Int) (r2 : Int) (r3 : List Int) (r4 : Int) (w : World) (hr0_2 : Kd.C (Kd.int .i64) w A0_2 l0_2.length l0_2) (hc0_2 : l0_2.length ≤ c0_2) (hr1_2 : Kd.C (Kd.int .i64) w A1_2 l1_2.length l1_2) (hc1_2 : l1_2.length ≤ c1_2) (h : impl_MatrixMul.f k a0_0 a0_1 l0_2 a1_0 a1_1 l1_2 = some (r1, r2, r3, r4)) :
  Calls Try.prog 31 #[.agg #[.int .i64 a0_0, .int .i64 a0_1, .slice A0_2 l0_2.length c0_2], .agg #[.int .i64 a1_0, .int .i64 a1_1, .slice A1_2 l1_2.length c1_2]] w fun e w' => ∃ v2_ : Value, e = .returned (.agg #[.int .i64 r1, .int .i64 r2, v2_, .int .i64 r4]) ∧ Kd.R (Kd.int .i64) 2 w' w.heap.size (fun _ => True) v2_ r3 ∧ Below w.heap.size w w' := by
 have hu27 := Try.underlying27
 have hu35 := Try.underlying35
 have HR0_2 := Aside0.mk hr0_2
 have HC0_2 := Aside0.mk hc0_2
 clear hr0_2 hc0_2
 have HR1_2 := Aside0.mk hr1_2
 have HC1_2 := Aside0.mk hc1_2
 clear hr1_2 hc1_2
 have HB := Aside0.mk (Below.refl w.heap.size w)
 have H : ((impl_MatrixRight.f a0_0 a0_1 l0_2).bind fun t196 => (if t196 = true then ((impl_MatrixRight.f a1_0 a1_1 l1_2).bind fun t197 => (if t197 = true then (if a0_1 = a1_0 then ((impl_Matrix_times.f k a0_0 a0_1 l0_2 a1_0 a1_1 l1_2).bind fun bt198 => (some (bt198.1, bt198.2.1, bt198.2.2, 0))) else (some (0, 0, ([] : List Int), 1))) else (some (0, 0, ([] : List Int), 1)))) else (some (0, 0, ([] : List Int), 1)))) = some (r1, r2, r3, r4) := h
 clear h
 replace H := Option.bind_eq_some_iff.mp H
 obtain ⟨t196, A30, H⟩ := H
 replace H : (if t196 = true then ((impl_MatrixRight.f a1_0 a1_1 l1_2).bind fun t197 => (if t197 = true then (if a0_1 = a1_0 then ((impl_Matrix_times.f k a0_0 a0_1 l0_2 a1_0 a1_1 l1_2).bind fun bt198 => (some (bt198.1, bt198.2.1, bt198.2.2, 0))) else (some (0, 0, ([] : List Int), 1))) else (some (0, 0, ([] : List Int), 1)))) else (some (0, 0, ([] : List Int), 1))) = some (r1, r2, r3, r4) := H
 have A3 := Aside0.mk A30
 clear A30
 by_cases c4 : t196 = true
 ·subst c4
  have H1 : ((impl_MatrixRight.f a1_0 a1_1 l1_2).bind fun t197 => (if t197 = true then (if a0_1 = a1_0 then ((impl_Matrix_times.f k a0_0 a0_1 l0_2 a1_0 a1_1 l1_2).bind fun bt198 => (some (bt198.1, bt198.2.1, bt198.2.2, 0))) else (some (0, 0, ([] : List Int), 1))) else (some (0, 0, ([] : List Int), 1)))) = some (r1, r2, r3, r4) := by rw [if_pos rfl] at H; exact H
  clear H
  have H := H1
  clear H1
  replace H := Option.bind_eq_some_iff.mp H
  obtain ⟨t197, A50, H⟩ := H
  replace H : (if t197 = true then (if a0_1 = a1_0 then ((impl_Matrix_times.f k a0_0 a0_1 l0_2 a1_0 a1_1 l1_2).bind fun bt198 => (some (bt198.1, bt198.2.1, bt198.2.2, 0))) else (some (0, 0, ([] : List Int), 1))) else (some (0, 0, ([] : List Int), 1))) = some (r1, r2, r3, r4) := H
  have A5 := Aside0.mk A50
  clear A50
  by_cases c6 : t197 = true
  ·subst c6
   have H1 : (if a0_1 = a1_0 then ((impl_Matrix_times.f k a0_0 a0_1 l0_2 a1_0 a1_1 l1_2).bind fun bt198 => (some (bt198.1, bt198.2.1, bt198.2.2, 0))) else (some (0, 0, ([] : List Int), 1))) = some (r1, r2, r3, r4) := by rw [if_pos rfl] at H; exact H
   clear H
   have H := H1
   clear H1
   by_cases c7 : a0_1 = a1_0
   ·rw [if_pos c7] at H
    have c7b0 : (a0_1 == a1_0) = true := beq_iff_eq.mpr c7
    have c7b1 : (a0_1 != a1_0) = false := bne_eq_false_iff_eq.mpr c7
    clear c7
    replace H := Option.bind_eq_some_iff.mp H
    obtain ⟨⟨t198, t199, t200⟩, A80, H⟩ := H
    replace H : (some (t198, t199, t200, 0)) = some (r1, r2, r3, r4) := H
    have A8 := Aside0.mk A80
    clear A80
    simp only [Option.some.injEq, Prod.mk.injEq] at H
    obtain ⟨rfl, rfl, rfl, rfl⟩ := H
    go_enter Try.func31, Try.ntmps31
    go_wp2_with (first | ((with_reducible refine gate_dst (N := 2) rfl ?_); refine box_event ?hg (N := 2) ?hd (cs := #[.int .i64 a0_0, .int .i64 a0_1, .slice A0_2 l0_2.length c0_2]) (t := 27) ?hr ?_; (case hd => rfl); (case hg => rfl); (case hr => first | (go_simp; done) | (go_simp; rfl)); intro gb193 hg w9 hbox hb; have n_ := Cy.a4 (below_step (Cz.w HB.out) hb) hbox (Cy.gw hg HB.out) (Cy.gw hg HB.out); clear HB; obtain ⟨HB, BK193, GW193, GE193⟩ := n_; clear hb hbox hg) | ((with_reducible refine gate_dst (N := 3) rfl ?_); refine box_event ?hg (N := 3) ?hd (cs := #[.int .i64 a1_0, .int .i64 a1_1, .slice A1_2 l1_2.length c1_2]) (t := 27) ?hr ?_; (case hd => rfl); (case hg => rfl); (case hr => first | (go_simp; done) | (go_simp; rfl)); intro gb194 hg w10 hbox hb; have n_ := Cy.a7 (blk_below (g := gb193) (o := .cells #[.int .i64 a0_0, .int .i64 a0_1, .slice A0_2 l0_2.length c0_2] 27 (0, 0)) (Cz.b BK193.out) hb) (below_step (Cz.w HB.out) hb) hbox (Cy.gw hg HB.out) (Cy.gw hg HB.out) (by rw [hg]; exact Nat.ne_of_lt (blk_lt (g := gb193) (o := .cells #[.int .i64 a0_0, .int .i64 a0_1, .slice A0_2 l0_2.length c0_2] 27 (0, 0)) (Cz.b BK193.out)) : gb193 ≠ gb194) (by rw [hg]; exact Nat.ne_of_gt (blk_lt (g := gb193) (o := .cells #[.int .i64 a0_0, .int .i64 a0_1, .slice A0_2 l0_2.length c0_2] 27 (0, 0)) (Cz.b BK193.out)) : gb194 ≠ gb193); clear BK193 HB; obtain ⟨BK193, HB, BK194, GW194, GE194, NB193_194, NB194_193⟩ := n_; clear hb hbox hg) | ((with_reducible refine gate_dst (N := 4) rfl ?_); refine box_event ?hg (N := 4) ?hd (cs := #[.int .i64 0, .int .i64 0, .slice none 0 0, .int .i64 0]) (t := 35) ?hr ?_; (case hd => rfl); (case hg => rfl); (case hr => first | (go_simp; done) | (go_simp; rfl)); intro gb195 hg w11 hbox hb; have n_ := Cy.a10 (blk_below (g := gb193) (o := .cells #[.int .i64 a0_0, .int .i64 a0_1, .slice A0_2 l0_2.length c0_2] 27 (0, 0)) (Cz.b BK193.out) hb) (blk_below (g := gb194) (o := .cells #[.int .i64 a1_0, .int .i64 a1_1, .slice A1_2 l1_2.length c1_2] 27 (0, 0)) (Cz.b BK194.out) hb) (below_step (Cz.w HB.out) hb) hbox (Cy.gw hg HB.out) (Cy.gw hg HB.out) (by rw [hg]; exact Nat.ne_of_lt (blk_lt (g := gb193) (o := .cells #[.int .i64 a0_0, .int .i64 a0_1, .slice A0_2 l0_2.length c0_2] 27 (0, 0)) (Cz.b BK193.out)) : gb193 ≠ gb195) (by rw [hg]; exact Nat.ne_of_gt (blk_lt (g := gb193) (o := .cells #[.int .i64 a0_0, .int .i64 a0_1, .slice A0_2 l0_2.length c0_2] 27 (0, 0)) (Cz.b BK193.out)) : gb195 ≠ gb193) (by rw [hg]; exact Nat.ne_of_lt (blk_lt (g := gb194) (o := .cells #[.int .i64 a1_0, .int .i64 a1_1, .slice A1_2 l1_2.length c1_2] 27 (0, 0)) (Cz.b BK194.out)) : gb194 ≠ gb195) (by rw [hg]; exact Nat.ne_of_gt (blk_lt (g := gb194) (o := .cells #[.int .i64 a1_0, .int .i64 a1_1, .slice A1_2 l1_2.length c1_2] 27 (0, 0)) (Cz.b BK194.out)) : gb195 ≠ gb194); clear BK193 BK194 HB; obtain ⟨BK193, BK194, HB, BK195, GW195, GE195, NB193_195, NB195_193, NB194_195, NB195_194⟩ := n_; clear hb hbox hg; have hnb12 := NB193_194.out; have hnc12 := NB194_193.out; have hnb13 := NB193_195.out; have hnc13 := NB195_193.out; obtain ⟨hcz14_0, hcz14_1, hcz14_2, hfz14_0, hfz14_1, hfz14_2⟩ := Cy.z3 BK193.out) | ((with_reducible refine gate_callee (f := 18) rfl ?_); refine goesL_ (some 6) rfl rfl Try.func18 (by kernel_rfl) rfl #[.agg #[.int .i64 a0_0, .int .i64 a0_1, .slice A0_2 l0_2.length c0_2]] rfl Cy.ls ?_; (with_reducible refine (impl_MatrixRight.calls a0_0 a0_1 _ _ l0_2 true _ ?side1 ?side2 A3.out).mono ?_); (case side1 => exact Cz.c HR0_2.out HB.out); (case side2 => exact HC0_2.out); rintro e w15 ⟨rfl, hb⟩; refine ⟨_, rfl, ?_⟩; have n_ := Cy.a4 (blk_below (g := gb193) (o := .cells #[.int .i64 a0_0, .int .i64 a0_1, .slice A0_2 l0_2.length c0_2] 27 (0, 0)) (Cz.b BK193.out) hb) (blk_below (g := gb194) (o := .cells #[.int .i64 a1_0, .int .i64 a1_1, .slice A1_2 l1_2.length c1_2] 27 (0, 0)) (Cz.b BK194.out) hb) (blk_below (g := gb195) (o := .cells #[.int .i64 0, .int .i64 0, .slice none 0 0, .int .i64 0] 35 (0, 0)) (Cz.b BK195.out) hb) (below_step (Cz.w HB.out) hb); clear BK193 BK194 BK195 HB; obtain ⟨BK193, BK194, BK195, HB⟩ := n_; (try clear hb); (try clear hb2); (try clear hk); (try clear hi); have hnb16 := NB194_195.out; have hnc16 := NB195_194.out; obtain ⟨hcz17_0, hcz17_1, hcz17_2, hfz17_0, hfz17_1, hfz17_2⟩ := Cy.z3 BK194.out) | (go_at_call 18; (with_reducible refine (impl_MatrixRight.calls a1_0 a1_1 _ _ l1_2 true _ ?side1 ?side2 A5.out).mono ?_); (case side1 => exact Cz.c HR1_2.out HB.out); (case side2 => exact HC1_2.out); rintro e w18 ⟨rfl, hb⟩; have n_ := Cy.a4 (blk_below (g := gb193) (o := .cells #[.int .i64 a0_0, .int .i64 a0_1, .slice A0_2 l0_2.length c0_2] 27 (0, 0)) (Cz.b BK193.out) hb) (blk_below (g := gb194) (o := .cells #[.int .i64 a1_0, .int .i64 a1_1, .slice A1_2 l1_2.length c1_2] 27 (0, 0)) (Cz.b BK194.out) hb) (blk_below (g := gb195) (o := .cells #[.int .i64 0, .int .i64 0, .slice none 0 0, .int .i64 0] 35 (0, 0)) (Cz.b BK195.out) hb) (below_step (Cz.w HB.out) hb); clear BK193 BK194 BK195 HB; obtain ⟨BK193, BK194, BK195, HB⟩ := n_; (try clear hb); (try clear hb2); (try clear hk); (try clear hi); obtain ⟨hcz19_0, hcz19_1, hcz19_2, hfz19_0, hfz19_1, hfz19_2⟩ := Cy.z3 BK193.out; obtain ⟨hcz20_0, hcz20_1, hcz20_2, hfz20_0, hfz20_1, hfz20_2⟩ := Cy.z3 BK194.out) | ((with_reducible refine gate_callee (f := 87) rfl ?_); refine goesL_ (some 23) rfl rfl Try.func87 (by kernel_rfl) rfl #[.agg #[.int .i64 a0_0, .int .i64 a0_1, .slice A0_2 l0_2.length c0_2], .agg #[.int .i64 a1_0, .int .i64 a1_1, .slice A1_2 l1_2.length c1_2]] rfl Cy.ls ?_; (with_reducible refine (impl_Matrix_times.calls k a0_0 a0_1 _ _ l0_2 a1_0 a1_1 _ _ l1_2 t198 t199 t200 _ ?side1 ?side2 ?side3 ?side4 A8.out).mono ?_); (case side1 => exact Cz.c HR0_2.out HB.out); (case side2 => exact HC0_2.out); (case side3 => exact Cz.c HR1_2.out HB.out); (case side4 => exact HC1_2.out); rintro e w21 ⟨v201, rfl, ho0, hb⟩; refine ⟨_, rfl, ?_⟩; have n_ := Cy.a5 (Kd.R_lower ho0 (below_size (Cz.w HB.out))) (blk_below (g := gb193) (o := .cells #[.int .i64 a0_0, .int .i64 a0_1, .slice A0_2 l0_2.length c0_2] 27 (0, 0)) (Cz.b BK193.out) hb) (blk_below (g := gb194) (o := .cells #[.int .i64 a1_0, .int .i64 a1_1, .slice A1_2 l1_2.length c1_2] 27 (0, 0)) (Cz.b BK194.out) hb) (blk_below (g := gb195) (o := .cells #[.int .i64 0, .int .i64 0, .slice none 0 0, .int .i64 0] 35 (0, 0)) (Cz.b BK195.out) hb) (below_step (Cz.w HB.out) hb); clear BK193 BK194 BK195 HB; obtain ⟨HO202, BK193, BK194, BK195, HB⟩ := n_; (try clear hb); (try clear hb2); (try clear hk); (try clear hi); (try clear ho0); obtain ⟨Ao22, co22, eo22⟩ := Kd.R_slice HO202.out; subst eo22; obtain ⟨hcz23_0, hcz23_1, hcz23_2, hcz23_3, hfz23_0, hfz23_1, hfz23_2, hfz23_3⟩ := Cy.z4 BK195.out))
    refine bodyPost_ret (results_cell_row rfl _ _ gb195 35 #[.int .i64 t198, .int .i64 t199, .slice Ao22 t200.length co22, .int .i64 0] (0, 0) _ rfl (Cz.p4 BK195.out) Try.underlying35 rfl (by kernel_rfl)) rfl ?_
    exact ⟨_, by first | rfl | (simp [errW_none, errW_some] <;> rfl) | (simp [*, errW_none, errW_some] <;> rfl), by (with_reducible repeat (first | apply Kd.R_alloc | apply Kd.R_drewN | apply Kd.R_drew)); exact Kd.R_mono (Kd.R_far (p := ⟨gb195, 3, none⟩) (Kd.R_far (p := ⟨gb195, 2, none⟩) (Kd.R_far (p := ⟨gb195, 1, none⟩) (Kd.R_far (p := ⟨gb195, 0, none⟩) (Kd.R_types HO202.out BK195.out (by decide)) (fun _ hk => hk.2) (.int .i64 t198)) (fun _ hk => hk.2) (.int .i64 t199)) (fun _ hk => hk.2) (.slice Ao22 t200.length co22)) (fun _ hk => hk.2) (.int .i64 0)) (fun _ hk => trivial), Cz.w HB.out⟩
   ·rw [if_neg c7] at H
    have c7b0 : (a0_1 == a1_0) = false := beq_eq_false_iff_ne.mpr c7
    have c7b1 : (a0_1 != a1_0) = true := bne_iff_ne.mpr c7
    simp only [Option.some.injEq, Prod.mk.injEq] at H
    obtain ⟨rfl, rfl, rfl, rfl⟩ := H
    go_enter Try.func31, Try.ntmps31
    go_wp2_with (first | ((with_reducible refine gate_dst (N := 2) rfl ?_); refine box_event ?hg (N := 2) ?hd (cs := #[.int .i64 a0_0, .int .i64 a0_1, .slice A0_2 l0_2.length c0_2]) (t := 27) ?hr ?_; (case hd => rfl); (case hg => rfl); (case hr => first | (go_simp; done) | (go_simp; rfl)); intro gb193 hg w24 hbox hb; have n_ := Cy.a4 (below_step (Cz.w HB.out) hb) hbox (Cy.gw hg HB.out) (Cy.gw hg HB.out); clear HB; obtain ⟨HB, BK193, GW193, GE193⟩ := n_; clear hb hbox hg) | ((with_reducible refine gate_dst (N := 3) rfl ?_); refine box_event ?hg (N := 3) ?hd (cs := #[.int .i64 a1_0, .int .i64 a1_1, .slice A1_2 l1_2.length c1_2]) (t := 27) ?hr ?_; (case hd => rfl); (case hg => rfl); (case hr => first | (go_simp; done) | (go_simp; rfl)); intro gb194 hg w25 hbox hb; have n_ := Cy.a7 (blk_below (g := gb193) (o := .cells #[.int .i64 a0_0, .int .i64 a0_1, .slice A0_2 l0_2.length c0_2] 27 (0, 0)) (Cz.b BK193.out) hb) (below_step (Cz.w HB.out) hb) hbox (Cy.gw hg HB.out) (Cy.gw hg HB.out) (by rw [hg]; exact Nat.ne_of_lt (blk_lt (g := gb193) (o := .cells #[.int .i64 a0_0, .int .i64 a0_1, .slice A0_2 l0_2.length c0_2] 27 (0, 0)) (Cz.b BK193.out)) : gb193 ≠ gb194) (by rw [hg]; exact Nat.ne_of_gt (blk_lt (g := gb193) (o := .cells #[.int .i64 a0_0, .int .i64 a0_1, .slice A0_2 l0_2.length c0_2] 27 (0, 0)) (Cz.b BK193.out)) : gb194 ≠ gb193); clear BK193 HB; obtain ⟨BK193, HB, BK194, GW194, GE194, NB193_194, NB194_193⟩ := n_; clear hb hbox hg) | ((with_reducible refine gate_dst (N := 4) rfl ?_); refine box_event ?hg (N := 4) ?hd (cs := #[.int .i64 0, .int .i64 0, .slice none 0 0, .int .i64 0]) (t := 35) ?hr ?_; (case hd => rfl); (case hg => rfl); (case hr => first | (go_simp; done) | (go_simp; rfl)); intro gb195 hg w26 hbox hb; have n_ := Cy.a10 (blk_below (g := gb193) (o := .cells #[.int .i64 a0_0, .int .i64 a0_1, .slice A0_2 l0_2.length c0_2] 27 (0, 0)) (Cz.b BK193.out) hb) (blk_below (g := gb194) (o := .cells #[.int .i64 a1_0, .int .i64 a1_1, .slice A1_2 l1_2.length c1_2] 27 (0, 0)) (Cz.b BK194.out) hb) (below_step (Cz.w HB.out) hb) hbox (Cy.gw hg HB.out) (Cy.gw hg HB.out) (by rw [hg]; exact Nat.ne_of_lt (blk_lt (g := gb193) (o := .cells #[.int .i64 a0_0, .int .i64 a0_1, .slice A0_2 l0_2.length c0_2] 27 (0, 0)) (Cz.b BK193.out)) : gb193 ≠ gb195) (by rw [hg]; exact Nat.ne_of_gt (blk_lt (g := gb193) (o := .cells #[.int .i64 a0_0, .int .i64 a0_1, .slice A0_2 l0_2.length c0_2] 27 (0, 0)) (Cz.b BK193.out)) : gb195 ≠ gb193) (by rw [hg]; exact Nat.ne_of_lt (blk_lt (g := gb194) (o := .cells #[.int .i64 a1_0, .int .i64 a1_1, .slice A1_2 l1_2.length c1_2] 27 (0, 0)) (Cz.b BK194.out)) : gb194 ≠ gb195) (by rw [hg]; exact Nat.ne_of_gt (blk_lt (g := gb194) (o := .cells #[.int .i64 a1_0, .int .i64 a1_1, .slice A1_2 l1_2.length c1_2] 27 (0, 0)) (Cz.b BK194.out)) : gb195 ≠ gb194); clear BK193 BK194 HB; obtain ⟨BK193, BK194, HB, BK195, GW195, GE195, NB193_195, NB195_193, NB194_195, NB195_194⟩ := n_; clear hb hbox hg; have hnb27 := NB193_194.out; have hnc27 := NB194_193.out; have hnb28 := NB193_195.out; have hnc28 := NB195_193.out; obtain ⟨hcz29_0, hcz29_1, hcz29_2, hfz29_0, hfz29_1, hfz29_2⟩ := Cy.z3 BK193.out) | ((with_reducible refine gate_callee (f := 18) rfl ?_); refine goesL_ (some 6) rfl rfl Try.func18 (by kernel_rfl) rfl #[.agg #[.int .i64 a0_0, .int .i64 a0_1, .slice A0_2 l0_2.length c0_2]] rfl Cy.ls ?_; (with_reducible refine (impl_MatrixRight.calls a0_0 a0_1 _ _ l0_2 true _ ?side1 ?side2 A3.out).mono ?_); (case side1 => exact Cz.c HR0_2.out HB.out); (case side2 => exact HC0_2.out); rintro e w30 ⟨rfl, hb⟩; refine ⟨_, rfl, ?_⟩; have n_ := Cy.a4 (blk_below (g := gb193) (o := .cells #[.int .i64 a0_0, .int .i64 a0_1, .slice A0_2 l0_2.length c0_2] 27 (0, 0)) (Cz.b BK193.out) hb) (blk_below (g := gb194) (o := .cells #[.int .i64 a1_0, .int .i64 a1_1, .slice A1_2 l1_2.length c1_2] 27 (0, 0)) (Cz.b BK194.out) hb) (blk_below (g := gb195) (o := .cells #[.int .i64 0, .int .i64 0, .slice none 0 0, .int .i64 0] 35 (0, 0)) (Cz.b BK195.out) hb) (below_step (Cz.w HB.out) hb); clear BK193 BK194 BK195 HB; obtain ⟨BK193, BK194, BK195, HB⟩ := n_; (try clear hb); (try clear hb2); (try clear hk); (try clear hi); have hnb31 := NB194_195.out; have hnc31 := NB195_194.out; obtain ⟨hcz32_0, hcz32_1, hcz32_2, hfz32_0, hfz32_1, hfz32_2⟩ := Cy.z3 BK194.out) | (go_at_call 18; (with_reducible refine (impl_MatrixRight.calls a1_0 a1_1 _ _ l1_2 true _ ?side1 ?side2 A5.out).mono ?_); (case side1 => exact Cz.c HR1_2.out HB.out); (case side2 => exact HC1_2.out); rintro e w33 ⟨rfl, hb⟩; have n_ := Cy.a4 (blk_below (g := gb193) (o := .cells #[.int .i64 a0_0, .int .i64 a0_1, .slice A0_2 l0_2.length c0_2] 27 (0, 0)) (Cz.b BK193.out) hb) (blk_below (g := gb194) (o := .cells #[.int .i64 a1_0, .int .i64 a1_1, .slice A1_2 l1_2.length c1_2] 27 (0, 0)) (Cz.b BK194.out) hb) (blk_below (g := gb195) (o := .cells #[.int .i64 0, .int .i64 0, .slice none 0 0, .int .i64 0] 35 (0, 0)) (Cz.b BK195.out) hb) (below_step (Cz.w HB.out) hb); clear BK193 BK194 BK195 HB; obtain ⟨BK193, BK194, BK195, HB⟩ := n_; (try clear hb); (try clear hb2); (try clear hk); (try clear hi); obtain ⟨hcz34_0, hcz34_1, hcz34_2, hfz34_0, hfz34_1, hfz34_2⟩ := Cy.z3 BK193.out; obtain ⟨hcz35_0, hcz35_1, hcz35_2, hfz35_0, hfz35_1, hfz35_2⟩ := Cy.z3 BK194.out; obtain ⟨hcz36_0, hcz36_1, hcz36_2, hcz36_3, hfz36_0, hfz36_1, hfz36_2, hfz36_3⟩ := Cy.z4 BK195.out))
    refine bodyPost_ret (results_cell_row rfl _ _ gb195 35 #[.int .i64 0, .int .i64 0, .slice none 0 0, .int .i64 1] (0, 0) _ rfl (Cz.p4 BK195.out) Try.underlying35 rfl (by kernel_rfl)) rfl ?_
    exact ⟨_, by first | rfl | (simp [errW_none, errW_some] <;> rfl) | (simp [*, errW_none, errW_some] <;> rfl), by first | exact Kd.R_nil _ _ _ _ _ | exact Kd.N_nil _ _ _ _ _ | exact Kd.V_nil _ _ _ _ _ | exact Kd.Q_nil _ _ _ _ _ | exact Kd.S_nil _ _ _ _ _, Cz.w HB.out⟩
  ·replace c6 := Bool.eq_false_iff.mpr c6
   subst c6
   have H1 : (some (0, 0, ([] : List Int), 1)) = some (r1, r2, r3, r4) := by rw [if_neg (show ¬ (false = true) by decide)] at H; exact H
   clear H
   have H := H1
   clear H1
   simp only [Option.some.injEq, Prod.mk.injEq] at H
   obtain ⟨rfl, rfl, rfl, rfl⟩ := H
   go_enter Try.func31, Try.ntmps31
   go_wp2_with (first | ((with_reducible refine gate_dst (N := 2) rfl ?_); refine box_event ?hg (N := 2) ?hd (cs := #[.int .i64 a0_0, .int .i64 a0_1, .slice A0_2 l0_2.length c0_2]) (t := 27) ?hr ?_; (case hd => rfl); (case hg => rfl); (case hr => first | (go_simp; done) | (go_simp; rfl)); intro gb193 hg w37 hbox hb; have n_ := Cy.a4 (below_step (Cz.w HB.out) hb) hbox (Cy.gw hg HB.out) (Cy.gw hg HB.out); clear HB; obtain ⟨HB, BK193, GW193, GE193⟩ := n_; clear hb hbox hg) | ((with_reducible refine gate_dst (N := 3) rfl ?_); refine box_event ?hg (N := 3) ?hd (cs := #[.int .i64 a1_0, .int .i64 a1_1, .slice A1_2 l1_2.length c1_2]) (t := 27) ?hr ?_; (case hd => rfl); (case hg => rfl); (case hr => first | (go_simp; done) | (go_simp; rfl)); intro gb194 hg w38 hbox hb; have n_ := Cy.a7 (blk_below (g := gb193) (o := .cells #[.int .i64 a0_0, .int .i64 a0_1, .slice A0_2 l0_2.length c0_2] 27 (0, 0)) (Cz.b BK193.out) hb) (below_step (Cz.w HB.out) hb) hbox (Cy.gw hg HB.out) (Cy.gw hg HB.out) (by rw [hg]; exact Nat.ne_of_lt (blk_lt (g := gb193) (o := .cells #[.int .i64 a0_0, .int .i64 a0_1, .slice A0_2 l0_2.length c0_2] 27 (0, 0)) (Cz.b BK193.out)) : gb193 ≠ gb194) (by rw [hg]; exact Nat.ne_of_gt (blk_lt (g := gb193) (o := .cells #[.int .i64 a0_0, .int .i64 a0_1, .slice A0_2 l0_2.length c0_2] 27 (0, 0)) (Cz.b BK193.out)) : gb194 ≠ gb193); clear BK193 HB; obtain ⟨BK193, HB, BK194, GW194, GE194, NB193_194, NB194_193⟩ := n_; clear hb hbox hg) | ((with_reducible refine gate_dst (N := 4) rfl ?_); refine box_event ?hg (N := 4) ?hd (cs := #[.int .i64 0, .int .i64 0, .slice none 0 0, .int .i64 0]) (t := 35) ?hr ?_; (case hd => rfl); (case hg => rfl); (case hr => first | (go_simp; done) | (go_simp; rfl)); intro gb195 hg w39 hbox hb; have n_ := Cy.a10 (blk_below (g := gb193) (o := .cells #[.int .i64 a0_0, .int .i64 a0_1, .slice A0_2 l0_2.length c0_2] 27 (0, 0)) (Cz.b BK193.out) hb) (blk_below (g := gb194) (o := .cells #[.int .i64 a1_0, .int .i64 a1_1, .slice A1_2 l1_2.length c1_2] 27 (0, 0)) (Cz.b BK194.out) hb) (below_step (Cz.w HB.out) hb) hbox (Cy.gw hg HB.out) (Cy.gw hg HB.out) (by rw [hg]; exact Nat.ne_of_lt (blk_lt (g := gb193) (o := .cells #[.int .i64 a0_0, .int .i64 a0_1, .slice A0_2 l0_2.length c0_2] 27 (0, 0)) (Cz.b BK193.out)) : gb193 ≠ gb195) (by rw [hg]; exact Nat.ne_of_gt (blk_lt (g := gb193) (o := .cells #[.int .i64 a0_0, .int .i64 a0_1, .slice A0_2 l0_2.length c0_2] 27 (0, 0)) (Cz.b BK193.out)) : gb195 ≠ gb193) (by rw [hg]; exact Nat.ne_of_lt (blk_lt (g := gb194) (o := .cells #[.int .i64 a1_0, .int .i64 a1_1, .slice A1_2 l1_2.length c1_2] 27 (0, 0)) (Cz.b BK194.out)) : gb194 ≠ gb195) (by rw [hg]; exact Nat.ne_of_gt (blk_lt (g := gb194) (o := .cells #[.int .i64 a1_0, .int .i64 a1_1, .slice A1_2 l1_2.length c1_2] 27 (0, 0)) (Cz.b BK194.out)) : gb195 ≠ gb194); clear BK193 BK194 HB; obtain ⟨BK193, BK194, HB, BK195, GW195, GE195, NB193_195, NB195_193, NB194_195, NB195_194⟩ := n_; clear hb hbox hg; have hnb40 := NB193_194.out; have hnc40 := NB194_193.out; have hnb41 := NB193_195.out; have hnc41 := NB195_193.out; obtain ⟨hcz42_0, hcz42_1, hcz42_2, hfz42_0, hfz42_1, hfz42_2⟩ := Cy.z3 BK193.out) | ((with_reducible refine gate_callee (f := 18) rfl ?_); refine goesL_ (some 6) rfl rfl Try.func18 (by kernel_rfl) rfl #[.agg #[.int .i64 a0_0, .int .i64 a0_1, .slice A0_2 l0_2.length c0_2]] rfl Cy.ls ?_; (with_reducible refine (impl_MatrixRight.calls a0_0 a0_1 _ _ l0_2 true _ ?side1 ?side2 A3.out).mono ?_); (case side1 => exact Cz.c HR0_2.out HB.out); (case side2 => exact HC0_2.out); rintro e w43 ⟨rfl, hb⟩; refine ⟨_, rfl, ?_⟩; have n_ := Cy.a4 (blk_below (g := gb193) (o := .cells #[.int .i64 a0_0, .int .i64 a0_1, .slice A0_2 l0_2.length c0_2] 27 (0, 0)) (Cz.b BK193.out) hb) (blk_below (g := gb194) (o := .cells #[.int .i64 a1_0, .int .i64 a1_1, .slice A1_2 l1_2.length c1_2] 27 (0, 0)) (Cz.b BK194.out) hb) (blk_below (g := gb195) (o := .cells #[.int .i64 0, .int .i64 0, .slice none 0 0, .int .i64 0] 35 (0, 0)) (Cz.b BK195.out) hb) (below_step (Cz.w HB.out) hb); clear BK193 BK194 BK195 HB; obtain ⟨BK193, BK194, BK195, HB⟩ := n_; (try clear hb); (try clear hb2); (try clear hk); (try clear hi); have hnb44 := NB194_195.out; have hnc44 := NB195_194.out; obtain ⟨hcz45_0, hcz45_1, hcz45_2, hfz45_0, hfz45_1, hfz45_2⟩ := Cy.z3 BK194.out) | (go_at_call 18; (with_reducible refine (impl_MatrixRight.calls a1_0 a1_1 _ _ l1_2 false _ ?side1 ?side2 A5.out).mono ?_); (case side1 => exact Cz.c HR1_2.out HB.out); (case side2 => exact HC1_2.out); rintro e w46 ⟨rfl, hb⟩; have n_ := Cy.a4 (blk_below (g := gb193) (o := .cells #[.int .i64 a0_0, .int .i64 a0_1, .slice A0_2 l0_2.length c0_2] 27 (0, 0)) (Cz.b BK193.out) hb) (blk_below (g := gb194) (o := .cells #[.int .i64 a1_0, .int .i64 a1_1, .slice A1_2 l1_2.length c1_2] 27 (0, 0)) (Cz.b BK194.out) hb) (blk_below (g := gb195) (o := .cells #[.int .i64 0, .int .i64 0, .slice none 0 0, .int .i64 0] 35 (0, 0)) (Cz.b BK195.out) hb) (below_step (Cz.w HB.out) hb); clear BK193 BK194 BK195 HB; obtain ⟨BK193, BK194, BK195, HB⟩ := n_; (try clear hb); (try clear hb2); (try clear hk); (try clear hi); obtain ⟨hcz47_0, hcz47_1, hcz47_2, hcz47_3, hfz47_0, hfz47_1, hfz47_2, hfz47_3⟩ := Cy.z4 BK195.out))
   refine bodyPost_ret (results_cell_row rfl _ _ gb195 35 #[.int .i64 0, .int .i64 0, .slice none 0 0, .int .i64 1] (0, 0) _ rfl (Cz.p4 BK195.out) Try.underlying35 rfl (by kernel_rfl)) rfl ?_
   exact ⟨_, by first | rfl | (simp [errW_none, errW_some] <;> rfl) | (simp [*, errW_none, errW_some] <;> rfl), by first | exact Kd.R_nil _ _ _ _ _ | exact Kd.N_nil _ _ _ _ _ | exact Kd.V_nil _ _ _ _ _ | exact Kd.Q_nil _ _ _ _ _ | exact Kd.S_nil _ _ _ _ _, Cz.w HB.out⟩
 ·replace c4 := Bool.eq_false_iff.mpr c4
  subst c4
  have H1 : (some (0, 0, ([] : List Int), 1)) = some (r1, r2, r3, r4) := by rw [if_neg (show ¬ (false = true) by decide)] at H; exact H
  clear H
  have H := H1
  clear H1
  simp only [Option.some.injEq, Prod.mk.injEq] at H
  obtain ⟨rfl, rfl, rfl, rfl⟩ := H
  go_enter Try.func31, Try.ntmps31
  go_wp2_with (first | ((with_reducible refine gate_dst (N := 2) rfl ?_); refine box_event ?hg (N := 2) ?hd (cs := #[.int .i64 a0_0, .int .i64 a0_1, .slice A0_2 l0_2.length c0_2]) (t := 27) ?hr ?_; (case hd => rfl); (case hg => rfl); (case hr => first | (go_simp; done) | (go_simp; rfl)); intro gb193 hg w48 hbox hb; have n_ := Cy.a4 (below_step (Cz.w HB.out) hb) hbox (Cy.gw hg HB.out) (Cy.gw hg HB.out); clear HB; obtain ⟨HB, BK193, GW193, GE193⟩ := n_; clear hb hbox hg) | ((with_reducible refine gate_dst (N := 3) rfl ?_); refine box_event ?hg (N := 3) ?hd (cs := #[.int .i64 a1_0, .int .i64 a1_1, .slice A1_2 l1_2.length c1_2]) (t := 27) ?hr ?_; (case hd => rfl); (case hg => rfl); (case hr => first | (go_simp; done) | (go_simp; rfl)); intro gb194 hg w49 hbox hb; have n_ := Cy.a7 (blk_below (g := gb193) (o := .cells #[.int .i64 a0_0, .int .i64 a0_1, .slice A0_2 l0_2.length c0_2] 27 (0, 0)) (Cz.b BK193.out) hb) (below_step (Cz.w HB.out) hb) hbox (Cy.gw hg HB.out) (Cy.gw hg HB.out) (by rw [hg]; exact Nat.ne_of_lt (blk_lt (g := gb193) (o := .cells #[.int .i64 a0_0, .int .i64 a0_1, .slice A0_2 l0_2.length c0_2] 27 (0, 0)) (Cz.b BK193.out)) : gb193 ≠ gb194) (by rw [hg]; exact Nat.ne_of_gt (blk_lt (g := gb193) (o := .cells #[.int .i64 a0_0, .int .i64 a0_1, .slice A0_2 l0_2.length c0_2] 27 (0, 0)) (Cz.b BK193.out)) : gb194 ≠ gb193); clear BK193 HB; obtain ⟨BK193, HB, BK194, GW194, GE194, NB193_194, NB194_193⟩ := n_; clear hb hbox hg) | ((with_reducible refine gate_dst (N := 4) rfl ?_); refine box_event ?hg (N := 4) ?hd (cs := #[.int .i64 0, .int .i64 0, .slice none 0 0, .int .i64 0]) (t := 35) ?hr ?_; (case hd => rfl); (case hg => rfl); (case hr => first | (go_simp; done) | (go_simp; rfl)); intro gb195 hg w50 hbox hb; have n_ := Cy.a10 (blk_below (g := gb193) (o := .cells #[.int .i64 a0_0, .int .i64 a0_1, .slice A0_2 l0_2.length c0_2] 27 (0, 0)) (Cz.b BK193.out) hb) (blk_below (g := gb194) (o := .cells #[.int .i64 a1_0, .int .i64 a1_1, .slice A1_2 l1_2.length c1_2] 27 (0, 0)) (Cz.b BK194.out) hb) (below_step (Cz.w HB.out) hb) hbox (Cy.gw hg HB.out) (Cy.gw hg HB.out) (by rw [hg]; exact Nat.ne_of_lt (blk_lt (g := gb193) (o := .cells #[.int .i64 a0_0, .int .i64 a0_1, .slice A0_2 l0_2.length c0_2] 27 (0, 0)) (Cz.b BK193.out)) : gb193 ≠ gb195) (by rw [hg]; exact Nat.ne_of_gt (blk_lt (g := gb193) (o := .cells #[.int .i64 a0_0, .int .i64 a0_1, .slice A0_2 l0_2.length c0_2] 27 (0, 0)) (Cz.b BK193.out)) : gb195 ≠ gb193) (by rw [hg]; exact Nat.ne_of_lt (blk_lt (g := gb194) (o := .cells #[.int .i64 a1_0, .int .i64 a1_1, .slice A1_2 l1_2.length c1_2] 27 (0, 0)) (Cz.b BK194.out)) : gb194 ≠ gb195) (by rw [hg]; exact Nat.ne_of_gt (blk_lt (g := gb194) (o := .cells #[.int .i64 a1_0, .int .i64 a1_1, .slice A1_2 l1_2.length c1_2] 27 (0, 0)) (Cz.b BK194.out)) : gb195 ≠ gb194); clear BK193 BK194 HB; obtain ⟨BK193, BK194, HB, BK195, GW195, GE195, NB193_195, NB195_193, NB194_195, NB195_194⟩ := n_; clear hb hbox hg; have hnb51 := NB193_194.out; have hnc51 := NB194_193.out; have hnb52 := NB193_195.out; have hnc52 := NB195_193.out; obtain ⟨hcz53_0, hcz53_1, hcz53_2, hfz53_0, hfz53_1, hfz53_2⟩ := Cy.z3 BK193.out) | ((with_reducible refine gate_callee (f := 18) rfl ?_); refine goesL_ (some 6) rfl rfl Try.func18 (by kernel_rfl) rfl #[.agg #[.int .i64 a0_0, .int .i64 a0_1, .slice A0_2 l0_2.length c0_2]] rfl Cy.ls ?_; (with_reducible refine (impl_MatrixRight.calls a0_0 a0_1 _ _ l0_2 false _ ?side1 ?side2 A3.out).mono ?_); (case side1 => exact Cz.c HR0_2.out HB.out); (case side2 => exact HC0_2.out); rintro e w54 ⟨rfl, hb⟩; refine ⟨_, rfl, ?_⟩; have n_ := Cy.a4 (blk_below (g := gb193) (o := .cells #[.int .i64 a0_0, .int .i64 a0_1, .slice A0_2 l0_2.length c0_2] 27 (0, 0)) (Cz.b BK193.out) hb) (blk_below (g := gb194) (o := .cells #[.int .i64 a1_0, .int .i64 a1_1, .slice A1_2 l1_2.length c1_2] 27 (0, 0)) (Cz.b BK194.out) hb) (blk_below (g := gb195) (o := .cells #[.int .i64 0, .int .i64 0, .slice none 0 0, .int .i64 0] 35 (0, 0)) (Cz.b BK195.out) hb) (below_step (Cz.w HB.out) hb); clear BK193 BK194 BK195 HB; obtain ⟨BK193, BK194, BK195, HB⟩ := n_; (try clear hb); (try clear hb2); (try clear hk); (try clear hi); have hnb55 := NB195_194.out; have hnc55 := NB194_195.out; obtain ⟨hcz56_0, hcz56_1, hcz56_2, hcz56_3, hfz56_0, hfz56_1, hfz56_2, hfz56_3⟩ := Cy.z4 BK195.out))
  refine bodyPost_ret (results_cell_row rfl _ _ gb195 35 #[.int .i64 0, .int .i64 0, .slice none 0 0, .int .i64 1] (0, 0) _ rfl (Cz.p4 BK195.out) Try.underlying35 rfl (by kernel_rfl)) rfl ?_
  exact ⟨_, by first | rfl | (simp [errW_none, errW_some] <;> rfl) | (simp [*, errW_none, errW_some] <;> rfl), by first | exact Kd.R_nil _ _ _ _ _ | exact Kd.N_nil _ _ _ _ _ | exact Kd.V_nil _ _ _ _ _ | exact Kd.Q_nil _ _ _ _ _ | exact Kd.S_nil _ _ _ _ _, Cz.w HB.out⟩
end Go.Proofs.Ytlololbhlnapkaa.XFnMatrix

/- Plain functions of what the law reaches, proofs that the calls come to them, and the law's row: written by a program of this session (xprint.py) over the kit's print. No conditions beyond each lemma's own. -/
import Derived.Test.YtlololbhlnapkaaKmXFnExactMatrixMulx0
import Derived.Test.YtlololbhlnapkaaKmXFnExactMatrixMulx1
import Derived.Test.YtlololbhlnapkaaKmXFnExactMatrixMulx3
import Derived.Test.YtlololbhlnapkaaKmXFnExactMatrixMulx4
import Derived.Test.YtlololbhlnapkaaKmXFnExactMatrixMulx5
namespace Go.Proofs.Ytlololbhlnapkaa.XFnExactMatrixMul
open Go.RowKit Go.Proofs.YtlololbhlnapkaaW.PrintWords Go.Proofs.YtlololbhlnapkaaW.PrintLast Go.Proofs.YtlololbhlnapkaaW.PrintMore
attribute [local go_sem] max2_int min2_int max_two min_two max_three min_three max_four min_four   -- for this text's walks alone
set_option linter.unusedVariables false
set_option linter.unusedSimpArgs false
def laws_FnExactMatrixMul.j0 : Nat → Bool → Int → Int → List Int → Int → Int → List Int → Int → Int → List Int → Int → Int → Int → List Int → Int → Option (Bool)
  | 0, _, _, _, _, _, _, _, _, _, _, _, _, _, _, _ => none
  | k + 1, x63, x184000, x184001, x184002, x185000, x185001, x185002, x204000, x204001, x204002, x204003, x223000, x223001, x223002, x223003 => if x63 = true then (none) else ((laws_markMatrixOut.f k x223000 x223001 x223002 x223003 1).bind fun bt241 => ((laws_heldMatrixOut.f k x223000 x223001 bt241.2 x223003 1).bind fun t243 => (if t243 < 0 then (none) else (if t243 = bt241.1 then ((laws_toMatrix.f k x184000 x184001 x184002).bind fun bt244 => ((laws_toMatrix.f k x185000 x185001 x185002).bind fun bt249 => ((impl_MatrixMul.f k bt244.1 bt244.2.1 bt244.2.2 bt249.1 bt249.2.1 bt249.2.2).bind fun bt254 => ((laws_eqMatrixOut.f k bt254.1 bt254.2.1 bt254.2.2.1 bt254.2.2.2 x204000 x204001 x204002 x204003).bind fun t261 => (if t261 = true then ((laws_heldMatrixOut.f k x223000 x223001 bt241.2 x223003 1).bind fun t262 => (if t262 < 0 then (none) else (if t262 = bt241.1 then (some true) else (none)))) else (none)))))) else (none)))))
def laws_FnExactMatrixMul.f (k : Nat) (a0_0 : Int) (a0_1 : Int) (l0_2 : List Int) (a1_0 : Int) (a1_1 : Int) (l1_2 : List Int) : Option (Bool) := (laws_szMatrix.f a0_0 a0_1 l0_2 1048576).bind fun t185 => (if t185 < 0 then (some true) else ((laws_szMatrix.f a1_0 a1_1 l1_2 t185).bind fun t186 => (if t186 < 0 then (some true) else ((laws_toMatrix.f k a0_0 a0_1 l0_2).bind fun bt187 => ((laws_toMatrix.f k a1_0 a1_1 l1_2).bind fun bt192 => ((spec_MatrixMul.f k bt187.1 bt187.2.1 bt187.2.2 bt192.1 bt192.2.1 bt192.2.2).bind fun bt197 => ((laws_toMatrix.f k a0_0 a0_1 l0_2).bind fun bt204 => ((laws_toMatrix.f k a1_0 a1_1 l1_2).bind fun bt210 => ((impl_MatrixMul.f k bt204.1 bt204.2.1 bt204.2.2 bt210.1 bt210.2.1 bt210.2.2).bind fun bt216 => ((laws_eqMatrixOut.f k bt216.1 bt216.2.1 bt216.2.2.1 bt216.2.2.2 bt197.1 bt197.2.1 bt197.2.2.1 bt197.2.2.2).bind fun t223 => (if t223 = true then ((laws_toMatrix.f k a0_0 a0_1 l0_2).bind fun bt224 => ((laws_eqMatrix.f k bt204.1 bt204.2.1 bt204.2.2 bt224.1 bt224.2.1 bt224.2.2).bind fun t229 => (if t229 = true then ((laws_toMatrix.f k a1_0 a1_1 l1_2).bind fun bt230 => ((laws_eqMatrix.f k bt210.1 bt210.2.1 bt210.2.2 bt230.1 bt230.2.1 bt230.2.2).bind fun t235 => (if t235 = true then ((laws_markMatrix.f k bt204.1 bt204.2.1 bt204.2.2 1).bind fun bt236 => ((laws_markMatrix.f k bt210.1 bt210.2.1 bt210.2.2 bt236.1).bind fun bt238 => (if bt238.1 < 0 then (laws_FnExactMatrixMul.j0 k true a0_0 a0_1 l0_2 a1_0 a1_1 l1_2 bt197.1 bt197.2.1 bt197.2.2.1 bt197.2.2.2 bt216.1 bt216.2.1 bt216.2.2.1 bt216.2.2.2) else ((laws_eqMatrixOut.f k bt216.1 bt216.2.1 bt216.2.2.1 bt216.2.2.2 bt197.1 bt197.2.1 bt197.2.2.1 bt197.2.2.2).bind fun t240 => (laws_FnExactMatrixMul.j0 k (!t240) a0_0 a0_1 l0_2 a1_0 a1_1 l1_2 bt197.1 bt197.2.1 bt197.2.2.1 bt197.2.2.2 bt216.1 bt216.2.1 bt216.2.2.1 bt216.2.2.2))))) else (none)))) else (none)))) else (none))))))))))))
set_option maxHeartbeats 8000000 in
set_option maxRecDepth 100000 in
theorem laws_FnExactMatrixMul.calls (k : Nat) (a0_0 : Int) (a0_1 : Int) (A0_2 : Option Addr) (c0_2 : Nat) (l0_2 : List Int) (a1_0 : Int) (a1_1 : Int) (A1_2 : Option Addr) (c1_2 : Nat) (l1_2 : List Int) (r : Bool) (w : World) (hr0_2 : Kd.C (Kd.int .i64) w A0_2 l0_2.length l0_2) (hc0_2 : l0_2.length ≤ c0_2) (hr1_2 : Kd.C (Kd.int .i64) w A1_2 l1_2.length l1_2) (hc1_2 : l1_2.length ≤ c1_2) (h : laws_FnExactMatrixMul.f k a0_0 a0_1 l0_2 a1_0 a1_1 l1_2 = some r) :
  Calls Try.prog 5 #[.agg #[.int .i64 a0_0, .int .i64 a0_1, .slice A0_2 l0_2.length c0_2], .agg #[.int .i64 a1_0, .int .i64 a1_1, .slice A1_2 l1_2.length c1_2]] w fun e w' => e = .returned (.bool r) ∧ Below w.heap.size w w' := by
 have hu24 := Try.underlying24
 have hu35 := Try.underlying35
 have hu27 := Try.underlying27
 have HR0_2 := Aside0.mk hr0_2
 have HC0_2 := Aside0.mk hc0_2
 clear hr0_2 hc0_2
 have HR1_2 := Aside0.mk hr1_2
 have HC1_2 := Aside0.mk hc1_2
 clear hr1_2 hc1_2
 have HB := Aside0.mk (Below.refl w.heap.size w)
 have H : ((laws_szMatrix.f a0_0 a0_1 l0_2 1048576).bind fun t185 => (if t185 < 0 then (some true) else ((laws_szMatrix.f a1_0 a1_1 l1_2 t185).bind fun t186 => (if t186 < 0 then (some true) else ((laws_toMatrix.f k a0_0 a0_1 l0_2).bind fun bt187 => ((laws_toMatrix.f k a1_0 a1_1 l1_2).bind fun bt192 => ((spec_MatrixMul.f k bt187.1 bt187.2.1 bt187.2.2 bt192.1 bt192.2.1 bt192.2.2).bind fun bt197 => ((laws_toMatrix.f k a0_0 a0_1 l0_2).bind fun bt204 => ((laws_toMatrix.f k a1_0 a1_1 l1_2).bind fun bt210 => ((impl_MatrixMul.f k bt204.1 bt204.2.1 bt204.2.2 bt210.1 bt210.2.1 bt210.2.2).bind fun bt216 => ((laws_eqMatrixOut.f k bt216.1 bt216.2.1 bt216.2.2.1 bt216.2.2.2 bt197.1 bt197.2.1 bt197.2.2.1 bt197.2.2.2).bind fun t223 => (if t223 = true then ((laws_toMatrix.f k a0_0 a0_1 l0_2).bind fun bt224 => ((laws_eqMatrix.f k bt204.1 bt204.2.1 bt204.2.2 bt224.1 bt224.2.1 bt224.2.2).bind fun t229 => (if t229 = true then ((laws_toMatrix.f k a1_0 a1_1 l1_2).bind fun bt230 => ((laws_eqMatrix.f k bt210.1 bt210.2.1 bt210.2.2 bt230.1 bt230.2.1 bt230.2.2).bind fun t235 => (if t235 = true then ((laws_markMatrix.f k bt204.1 bt204.2.1 bt204.2.2 1).bind fun bt236 => ((laws_markMatrix.f k bt210.1 bt210.2.1 bt210.2.2 bt236.1).bind fun bt238 => (if bt238.1 < 0 then (laws_FnExactMatrixMul.j0 k true a0_0 a0_1 l0_2 a1_0 a1_1 l1_2 bt197.1 bt197.2.1 bt197.2.2.1 bt197.2.2.2 bt216.1 bt216.2.1 bt216.2.2.1 bt216.2.2.2) else ((laws_eqMatrixOut.f k bt216.1 bt216.2.1 bt216.2.2.1 bt216.2.2.2 bt197.1 bt197.2.1 bt197.2.2.1 bt197.2.2.2).bind fun t240 => (laws_FnExactMatrixMul.j0 k (!t240) a0_0 a0_1 l0_2 a1_0 a1_1 l1_2 bt197.1 bt197.2.1 bt197.2.2.1 bt197.2.2.2 bt216.1 bt216.2.1 bt216.2.2.1 bt216.2.2.2))))) else (none)))) else (none)))) else (none))))))))))))) = some r := h
 clear h
 replace H := Option.bind_eq_some_iff.mp H
 obtain ⟨t185, A30, H⟩ := H
 replace H : (if t185 < 0 then (some true) else ((laws_szMatrix.f a1_0 a1_1 l1_2 t185).bind fun t186 => (if t186 < 0 then (some true) else ((laws_toMatrix.f k a0_0 a0_1 l0_2).bind fun bt187 => ((laws_toMatrix.f k a1_0 a1_1 l1_2).bind fun bt192 => ((spec_MatrixMul.f k bt187.1 bt187.2.1 bt187.2.2 bt192.1 bt192.2.1 bt192.2.2).bind fun bt197 => ((laws_toMatrix.f k a0_0 a0_1 l0_2).bind fun bt204 => ((laws_toMatrix.f k a1_0 a1_1 l1_2).bind fun bt210 => ((impl_MatrixMul.f k bt204.1 bt204.2.1 bt204.2.2 bt210.1 bt210.2.1 bt210.2.2).bind fun bt216 => ((laws_eqMatrixOut.f k bt216.1 bt216.2.1 bt216.2.2.1 bt216.2.2.2 bt197.1 bt197.2.1 bt197.2.2.1 bt197.2.2.2).bind fun t223 => (if t223 = true then ((laws_toMatrix.f k a0_0 a0_1 l0_2).bind fun bt224 => ((laws_eqMatrix.f k bt204.1 bt204.2.1 bt204.2.2 bt224.1 bt224.2.1 bt224.2.2).bind fun t229 => (if t229 = true then ((laws_toMatrix.f k a1_0 a1_1 l1_2).bind fun bt230 => ((laws_eqMatrix.f k bt210.1 bt210.2.1 bt210.2.2 bt230.1 bt230.2.1 bt230.2.2).bind fun t235 => (if t235 = true then ((laws_markMatrix.f k bt204.1 bt204.2.1 bt204.2.2 1).bind fun bt236 => ((laws_markMatrix.f k bt210.1 bt210.2.1 bt210.2.2 bt236.1).bind fun bt238 => (if bt238.1 < 0 then (laws_FnExactMatrixMul.j0 k true a0_0 a0_1 l0_2 a1_0 a1_1 l1_2 bt197.1 bt197.2.1 bt197.2.2.1 bt197.2.2.2 bt216.1 bt216.2.1 bt216.2.2.1 bt216.2.2.2) else ((laws_eqMatrixOut.f k bt216.1 bt216.2.1 bt216.2.2.1 bt216.2.2.2 bt197.1 bt197.2.1 bt197.2.2.1 bt197.2.2.2).bind fun t240 => (laws_FnExactMatrixMul.j0 k (!t240) a0_0 a0_1 l0_2 a1_0 a1_1 l1_2 bt197.1 bt197.2.1 bt197.2.2.1 bt197.2.2.2 bt216.1 bt216.2.1 bt216.2.2.1 bt216.2.2.2))))) else (none)))) else (none)))) else (none)))))))))))) = some r := H
 have A3 := Aside0.mk A30
 clear A30
 by_cases c4 : t185 < 0
 ·rw [if_pos c4] at H
  have c4b0 : decide (t185 < 0) = true := decide_eq_true c4
  clear c4
  obtain rfl := Option.some.inj H
  go_enter Try.func5, Try.ntmps5
  go_wp2_with (first | ((with_reducible refine gate_dst (N := 2) rfl ?_); refine box_event ?hg (N := 2) ?hd (cs := #[.int .i64 a0_0, .int .i64 a0_1, .slice A0_2 l0_2.length c0_2]) (t := 24) ?hr ?_; (case hd => rfl); (case hg => rfl); (case hr => first | (go_simp; done) | (go_simp; rfl)); intro gb183 hg w5 hbox hb; have n0_ := Aside0.mk (below_step (Cz.w HB.out) hb); have n1_ := Aside0.mk (hbox); have n2_ := Aside0.mk ((by rw [hg]; exact (below_size (Cz.w HB.out)) : w.heap.size ≤ gb183)); have n3_ := Aside0.mk ((by rw [hg]; exact (below_size (Cz.w HB.out)) : w.heap.size ≤ gb183)); clear HB; have HB := n0_; have BK183 := n1_; have GW183 := n2_; have GE183 := n3_; clear n0_ n1_ n2_ n3_; clear hb hbox hg) | ((with_reducible refine gate_dst (N := 3) rfl ?_); refine box_event ?hg (N := 3) ?hd (cs := #[.int .i64 a1_0, .int .i64 a1_1, .slice A1_2 l1_2.length c1_2]) (t := 24) ?hr ?_; (case hd => rfl); (case hg => rfl); (case hr => first | (go_simp; done) | (go_simp; rfl)); intro gb184 hg w6 hbox hb; have n0_ := Aside0.mk (blk_below (g := gb183) (o := .cells #[.int .i64 a0_0, .int .i64 a0_1, .slice A0_2 l0_2.length c0_2] 24 (0, 0)) (Cz.b BK183.out) hb); have n1_ := Aside0.mk (below_step (Cz.w HB.out) hb); have n2_ := Aside0.mk (hbox); have n3_ := Aside0.mk ((by rw [hg]; exact (below_size (Cz.w HB.out)) : w.heap.size ≤ gb184)); have n4_ := Aside0.mk ((by rw [hg]; exact (below_size (Cz.w HB.out)) : w.heap.size ≤ gb184)); have n5_ := Aside0.mk ((by rw [hg]; exact Nat.ne_of_lt (blk_lt (g := gb183) (o := .cells #[.int .i64 a0_0, .int .i64 a0_1, .slice A0_2 l0_2.length c0_2] 24 (0, 0)) (Cz.b BK183.out)) : gb183 ≠ gb184)); have n6_ := Aside0.mk ((by rw [hg]; exact Nat.ne_of_gt (blk_lt (g := gb183) (o := .cells #[.int .i64 a0_0, .int .i64 a0_1, .slice A0_2 l0_2.length c0_2] 24 (0, 0)) (Cz.b BK183.out)) : gb184 ≠ gb183)); clear BK183 HB; have BK183 := n0_; have HB := n1_; have BK184 := n2_; have GW184 := n3_; have GE184 := n4_; have NB183_184 := n5_; have NB184_183 := n6_; clear n0_ n1_ n2_ n3_ n4_ n5_ n6_; clear hb hbox hg; have hnb7 := NB183_184.out; have hnc7 := NB184_183.out; have hcz8_0 : w6.cell? ⟨gb183, 0, none⟩ = some (.int .i64 a0_0) := (blk_cell BK183.out 0).trans rfl; have hcz8_1 : w6.cell? ⟨gb183, 1, none⟩ = some (.int .i64 a0_1) := (blk_cell BK183.out 1).trans rfl; have hcz8_2 : w6.cell? ⟨gb183, 2, none⟩ = some (.slice A0_2 l0_2.length c0_2) := (blk_cell BK183.out 2).trans rfl; have hfz8_0 := blk_frozen BK183.out 0; have hfz8_1 := blk_frozen BK183.out 1; have hfz8_2 := blk_frozen BK183.out 2) | ((with_reducible refine gate_callee (f := 15) rfl ?_); refine goesL_ (some 16) rfl rfl Try.func15 (by kernel_rfl) rfl #[.agg #[.int .i64 a0_0, .int .i64 a0_1, .slice A0_2 l0_2.length c0_2], .int .i64 1048576] rfl (by (try simp only [List.map_toArray, List.map_cons, List.map_nil]); first | done | rfl | (simp only [List.length_drop, List.length_take]; rfl)) ?_; (with_reducible refine (laws_szMatrix.calls a0_0 a0_1 _ _ l0_2 1048576 t185 _ ?side1 ?side2 A3.out).mono ?_); (case side1 => exact Cz.c HR0_2.out HB.out); (case side2 => exact HC0_2.out); rintro e w9 ⟨rfl, hb⟩; refine ⟨_, rfl, ?_⟩; have n0_ := Aside0.mk (blk_below (g := gb183) (o := .cells #[.int .i64 a0_0, .int .i64 a0_1, .slice A0_2 l0_2.length c0_2] 24 (0, 0)) (Cz.b BK183.out) hb); have n1_ := Aside0.mk (blk_below (g := gb184) (o := .cells #[.int .i64 a1_0, .int .i64 a1_1, .slice A1_2 l1_2.length c1_2] 24 (0, 0)) (Cz.b BK184.out) hb); have n2_ := Aside0.mk (below_step (Cz.w HB.out) hb); clear BK183 BK184 HB; have BK183 := n0_; have BK184 := n1_; have HB := n2_; clear n0_ n1_ n2_; (try clear hb); (try clear hb2); (try clear hk); (try clear hi)))
  go_ret
  exact ⟨by first | rfl | (simp [errW_none, errW_some] <;> rfl) | (simp [*, errW_none, errW_some] <;> rfl), Cz.w HB.out⟩
 ·rw [if_neg c4] at H
  have c4b0 : decide (t185 < 0) = false := decide_eq_false c4
  clear c4
  replace H := Option.bind_eq_some_iff.mp H
  obtain ⟨t186, A100, H⟩ := H
  replace H : (if t186 < 0 then (some true) else ((laws_toMatrix.f k a0_0 a0_1 l0_2).bind fun bt187 => ((laws_toMatrix.f k a1_0 a1_1 l1_2).bind fun bt192 => ((spec_MatrixMul.f k bt187.1 bt187.2.1 bt187.2.2 bt192.1 bt192.2.1 bt192.2.2).bind fun bt197 => ((laws_toMatrix.f k a0_0 a0_1 l0_2).bind fun bt204 => ((laws_toMatrix.f k a1_0 a1_1 l1_2).bind fun bt210 => ((impl_MatrixMul.f k bt204.1 bt204.2.1 bt204.2.2 bt210.1 bt210.2.1 bt210.2.2).bind fun bt216 => ((laws_eqMatrixOut.f k bt216.1 bt216.2.1 bt216.2.2.1 bt216.2.2.2 bt197.1 bt197.2.1 bt197.2.2.1 bt197.2.2.2).bind fun t223 => (if t223 = true then ((laws_toMatrix.f k a0_0 a0_1 l0_2).bind fun bt224 => ((laws_eqMatrix.f k bt204.1 bt204.2.1 bt204.2.2 bt224.1 bt224.2.1 bt224.2.2).bind fun t229 => (if t229 = true then ((laws_toMatrix.f k a1_0 a1_1 l1_2).bind fun bt230 => ((laws_eqMatrix.f k bt210.1 bt210.2.1 bt210.2.2 bt230.1 bt230.2.1 bt230.2.2).bind fun t235 => (if t235 = true then ((laws_markMatrix.f k bt204.1 bt204.2.1 bt204.2.2 1).bind fun bt236 => ((laws_markMatrix.f k bt210.1 bt210.2.1 bt210.2.2 bt236.1).bind fun bt238 => (if bt238.1 < 0 then (laws_FnExactMatrixMul.j0 k true a0_0 a0_1 l0_2 a1_0 a1_1 l1_2 bt197.1 bt197.2.1 bt197.2.2.1 bt197.2.2.2 bt216.1 bt216.2.1 bt216.2.2.1 bt216.2.2.2) else ((laws_eqMatrixOut.f k bt216.1 bt216.2.1 bt216.2.2.1 bt216.2.2.2 bt197.1 bt197.2.1 bt197.2.2.1 bt197.2.2.2).bind fun t240 => (laws_FnExactMatrixMul.j0 k (!t240) a0_0 a0_1 l0_2 a1_0 a1_1 l1_2 bt197.1 bt197.2.1 bt197.2.2.1 bt197.2.2.2 bt216.1 bt216.2.1 bt216.2.2.1 bt216.2.2.2))))) else (none)))) else (none)))) else (none)))))))))) = some r := H
  have A10 := Aside0.mk A100
  clear A100
  by_cases c11 : t186 < 0
  ·rw [if_pos c11] at H
   have c11b0 : decide (t186 < 0) = true := decide_eq_true c11
   clear c11
   obtain rfl := Option.some.inj H
   go_enter Try.func5, Try.ntmps5
   go_wp2_with (first | ((with_reducible refine gate_dst (N := 2) rfl ?_); refine box_event ?hg (N := 2) ?hd (cs := #[.int .i64 a0_0, .int .i64 a0_1, .slice A0_2 l0_2.length c0_2]) (t := 24) ?hr ?_; (case hd => rfl); (case hg => rfl); (case hr => first | (go_simp; done) | (go_simp; rfl)); intro gb183 hg w12 hbox hb; have n0_ := Aside0.mk (below_step (Cz.w HB.out) hb); have n1_ := Aside0.mk (hbox); have n2_ := Aside0.mk ((by rw [hg]; exact (below_size (Cz.w HB.out)) : w.heap.size ≤ gb183)); have n3_ := Aside0.mk ((by rw [hg]; exact (below_size (Cz.w HB.out)) : w.heap.size ≤ gb183)); clear HB; have HB := n0_; have BK183 := n1_; have GW183 := n2_; have GE183 := n3_; clear n0_ n1_ n2_ n3_; clear hb hbox hg) | ((with_reducible refine gate_dst (N := 3) rfl ?_); refine box_event ?hg (N := 3) ?hd (cs := #[.int .i64 a1_0, .int .i64 a1_1, .slice A1_2 l1_2.length c1_2]) (t := 24) ?hr ?_; (case hd => rfl); (case hg => rfl); (case hr => first | (go_simp; done) | (go_simp; rfl)); intro gb184 hg w13 hbox hb; have n0_ := Aside0.mk (blk_below (g := gb183) (o := .cells #[.int .i64 a0_0, .int .i64 a0_1, .slice A0_2 l0_2.length c0_2] 24 (0, 0)) (Cz.b BK183.out) hb); have n1_ := Aside0.mk (below_step (Cz.w HB.out) hb); have n2_ := Aside0.mk (hbox); have n3_ := Aside0.mk ((by rw [hg]; exact (below_size (Cz.w HB.out)) : w.heap.size ≤ gb184)); have n4_ := Aside0.mk ((by rw [hg]; exact (below_size (Cz.w HB.out)) : w.heap.size ≤ gb184)); have n5_ := Aside0.mk ((by rw [hg]; exact Nat.ne_of_lt (blk_lt (g := gb183) (o := .cells #[.int .i64 a0_0, .int .i64 a0_1, .slice A0_2 l0_2.length c0_2] 24 (0, 0)) (Cz.b BK183.out)) : gb183 ≠ gb184)); have n6_ := Aside0.mk ((by rw [hg]; exact Nat.ne_of_gt (blk_lt (g := gb183) (o := .cells #[.int .i64 a0_0, .int .i64 a0_1, .slice A0_2 l0_2.length c0_2] 24 (0, 0)) (Cz.b BK183.out)) : gb184 ≠ gb183)); clear BK183 HB; have BK183 := n0_; have HB := n1_; have BK184 := n2_; have GW184 := n3_; have GE184 := n4_; have NB183_184 := n5_; have NB184_183 := n6_; clear n0_ n1_ n2_ n3_ n4_ n5_ n6_; clear hb hbox hg; have hnb14 := NB183_184.out; have hnc14 := NB184_183.out; have hcz15_0 : w13.cell? ⟨gb183, 0, none⟩ = some (.int .i64 a0_0) := (blk_cell BK183.out 0).trans rfl; have hcz15_1 : w13.cell? ⟨gb183, 1, none⟩ = some (.int .i64 a0_1) := (blk_cell BK183.out 1).trans rfl; have hcz15_2 : w13.cell? ⟨gb183, 2, none⟩ = some (.slice A0_2 l0_2.length c0_2) := (blk_cell BK183.out 2).trans rfl; have hfz15_0 := blk_frozen BK183.out 0; have hfz15_1 := blk_frozen BK183.out 1; have hfz15_2 := blk_frozen BK183.out 2) | ((with_reducible refine gate_callee (f := 15) rfl ?_); refine goesL_ (some 16) rfl rfl Try.func15 (by kernel_rfl) rfl #[.agg #[.int .i64 a0_0, .int .i64 a0_1, .slice A0_2 l0_2.length c0_2], .int .i64 1048576] rfl (by (try simp only [List.map_toArray, List.map_cons, List.map_nil]); first | done | rfl | (simp only [List.length_drop, List.length_take]; rfl)) ?_; (with_reducible refine (laws_szMatrix.calls a0_0 a0_1 _ _ l0_2 1048576 t185 _ ?side1 ?side2 A3.out).mono ?_); (case side1 => exact Cz.c HR0_2.out HB.out); (case side2 => exact HC0_2.out); rintro e w16 ⟨rfl, hb⟩; refine ⟨_, rfl, ?_⟩; have n0_ := Aside0.mk (blk_below (g := gb183) (o := .cells #[.int .i64 a0_0, .int .i64 a0_1, .slice A0_2 l0_2.length c0_2] 24 (0, 0)) (Cz.b BK183.out) hb); have n1_ := Aside0.mk (blk_below (g := gb184) (o := .cells #[.int .i64 a1_0, .int .i64 a1_1, .slice A1_2 l1_2.length c1_2] 24 (0, 0)) (Cz.b BK184.out) hb); have n2_ := Aside0.mk (below_step (Cz.w HB.out) hb); clear BK183 BK184 HB; have BK183 := n0_; have BK184 := n1_; have HB := n2_; clear n0_ n1_ n2_; (try clear hb); (try clear hb2); (try clear hk); (try clear hi); have hcz17_0 : w16.cell? ⟨gb184, 0, none⟩ = some (.int .i64 a1_0) := (blk_cell BK184.out 0).trans rfl; have hcz17_1 : w16.cell? ⟨gb184, 1, none⟩ = some (.int .i64 a1_1) := (blk_cell BK184.out 1).trans rfl; have hcz17_2 : w16.cell? ⟨gb184, 2, none⟩ = some (.slice A1_2 l1_2.length c1_2) := (blk_cell BK184.out 2).trans rfl; have hfz17_0 := blk_frozen BK184.out 0; have hfz17_1 := blk_frozen BK184.out 1; have hfz17_2 := blk_frozen BK184.out 2) | ((with_reducible refine gate_callee (f := 15) rfl ?_); refine goesL_ (some 21) rfl rfl Try.func15 (by kernel_rfl) rfl #[.agg #[.int .i64 a1_0, .int .i64 a1_1, .slice A1_2 l1_2.length c1_2], .int .i64 t185] rfl (by (try simp only [List.map_toArray, List.map_cons, List.map_nil]); first | done | rfl | (simp only [List.length_drop, List.length_take]; rfl)) ?_; (with_reducible refine (laws_szMatrix.calls a1_0 a1_1 _ _ l1_2 t185 t186 _ ?side1 ?side2 A10.out).mono ?_); (case side1 => exact Cz.c HR1_2.out HB.out); (case side2 => exact HC1_2.out); rintro e w18 ⟨rfl, hb⟩; refine ⟨_, rfl, ?_⟩; have n0_ := Aside0.mk (blk_below (g := gb183) (o := .cells #[.int .i64 a0_0, .int .i64 a0_1, .slice A0_2 l0_2.length c0_2] 24 (0, 0)) (Cz.b BK183.out) hb); have n1_ := Aside0.mk (blk_below (g := gb184) (o := .cells #[.int .i64 a1_0, .int .i64 a1_1, .slice A1_2 l1_2.length c1_2] 24 (0, 0)) (Cz.b BK184.out) hb); have n2_ := Aside0.mk (below_step (Cz.w HB.out) hb); clear BK183 BK184 HB; have BK183 := n0_; have BK184 := n1_; have HB := n2_; clear n0_ n1_ n2_; (try clear hb); (try clear hb2); (try clear hk); (try clear hi)))
   go_ret
   exact ⟨by first | rfl | (simp [errW_none, errW_some] <;> rfl) | (simp [*, errW_none, errW_some] <;> rfl), Cz.w HB.out⟩
  ·rw [if_neg c11] at H
   have c11b0 : decide (t186 < 0) = false := decide_eq_false c11
   clear c11
   replace H := Option.bind_eq_some_iff.mp H
   obtain ⟨⟨t187, t188, t189⟩, A190, H⟩ := H
   replace H : ((laws_toMatrix.f k a1_0 a1_1 l1_2).bind fun bt192 => ((spec_MatrixMul.f k t187 t188 t189 bt192.1 bt192.2.1 bt192.2.2).bind fun bt197 => ((laws_toMatrix.f k a0_0 a0_1 l0_2).bind fun bt204 => ((laws_toMatrix.f k a1_0 a1_1 l1_2).bind fun bt210 => ((impl_MatrixMul.f k bt204.1 bt204.2.1 bt204.2.2 bt210.1 bt210.2.1 bt210.2.2).bind fun bt216 => ((laws_eqMatrixOut.f k bt216.1 bt216.2.1 bt216.2.2.1 bt216.2.2.2 bt197.1 bt197.2.1 bt197.2.2.1 bt197.2.2.2).bind fun t223 => (if t223 = true then ((laws_toMatrix.f k a0_0 a0_1 l0_2).bind fun bt224 => ((laws_eqMatrix.f k bt204.1 bt204.2.1 bt204.2.2 bt224.1 bt224.2.1 bt224.2.2).bind fun t229 => (if t229 = true then ((laws_toMatrix.f k a1_0 a1_1 l1_2).bind fun bt230 => ((laws_eqMatrix.f k bt210.1 bt210.2.1 bt210.2.2 bt230.1 bt230.2.1 bt230.2.2).bind fun t235 => (if t235 = true then ((laws_markMatrix.f k bt204.1 bt204.2.1 bt204.2.2 1).bind fun bt236 => ((laws_markMatrix.f k bt210.1 bt210.2.1 bt210.2.2 bt236.1).bind fun bt238 => (if bt238.1 < 0 then (laws_FnExactMatrixMul.j0 k true a0_0 a0_1 l0_2 a1_0 a1_1 l1_2 bt197.1 bt197.2.1 bt197.2.2.1 bt197.2.2.2 bt216.1 bt216.2.1 bt216.2.2.1 bt216.2.2.2) else ((laws_eqMatrixOut.f k bt216.1 bt216.2.1 bt216.2.2.1 bt216.2.2.2 bt197.1 bt197.2.1 bt197.2.2.1 bt197.2.2.2).bind fun t240 => (laws_FnExactMatrixMul.j0 k (!t240) a0_0 a0_1 l0_2 a1_0 a1_1 l1_2 bt197.1 bt197.2.1 bt197.2.2.1 bt197.2.2.2 bt216.1 bt216.2.1 bt216.2.2.1 bt216.2.2.2))))) else (none)))) else (none)))) else (none)))))))) = some r := H
   have A19 := Aside0.mk A190
   clear A190
   replace H := Option.bind_eq_some_iff.mp H
   obtain ⟨⟨t192, t193, t194⟩, A200, H⟩ := H
   replace H : ((spec_MatrixMul.f k t187 t188 t189 t192 t193 t194).bind fun bt197 => ((laws_toMatrix.f k a0_0 a0_1 l0_2).bind fun bt204 => ((laws_toMatrix.f k a1_0 a1_1 l1_2).bind fun bt210 => ((impl_MatrixMul.f k bt204.1 bt204.2.1 bt204.2.2 bt210.1 bt210.2.1 bt210.2.2).bind fun bt216 => ((laws_eqMatrixOut.f k bt216.1 bt216.2.1 bt216.2.2.1 bt216.2.2.2 bt197.1 bt197.2.1 bt197.2.2.1 bt197.2.2.2).bind fun t223 => (if t223 = true then ((laws_toMatrix.f k a0_0 a0_1 l0_2).bind fun bt224 => ((laws_eqMatrix.f k bt204.1 bt204.2.1 bt204.2.2 bt224.1 bt224.2.1 bt224.2.2).bind fun t229 => (if t229 = true then ((laws_toMatrix.f k a1_0 a1_1 l1_2).bind fun bt230 => ((laws_eqMatrix.f k bt210.1 bt210.2.1 bt210.2.2 bt230.1 bt230.2.1 bt230.2.2).bind fun t235 => (if t235 = true then ((laws_markMatrix.f k bt204.1 bt204.2.1 bt204.2.2 1).bind fun bt236 => ((laws_markMatrix.f k bt210.1 bt210.2.1 bt210.2.2 bt236.1).bind fun bt238 => (if bt238.1 < 0 then (laws_FnExactMatrixMul.j0 k true a0_0 a0_1 l0_2 a1_0 a1_1 l1_2 bt197.1 bt197.2.1 bt197.2.2.1 bt197.2.2.2 bt216.1 bt216.2.1 bt216.2.2.1 bt216.2.2.2) else ((laws_eqMatrixOut.f k bt216.1 bt216.2.1 bt216.2.2.1 bt216.2.2.2 bt197.1 bt197.2.1 bt197.2.2.1 bt197.2.2.2).bind fun t240 => (laws_FnExactMatrixMul.j0 k (!t240) a0_0 a0_1 l0_2 a1_0 a1_1 l1_2 bt197.1 bt197.2.1 bt197.2.2.1 bt197.2.2.2 bt216.1 bt216.2.1 bt216.2.2.1 bt216.2.2.2))))) else (none)))) else (none)))) else (none))))))) = some r := H
   have A20 := Aside0.mk A200
   clear A200
   replace H := Option.bind_eq_some_iff.mp H
   obtain ⟨⟨t197, t198, t199, t202⟩, A210, H⟩ := H
   replace H : ((laws_toMatrix.f k a0_0 a0_1 l0_2).bind fun bt204 => ((laws_toMatrix.f k a1_0 a1_1 l1_2).bind fun bt210 => ((impl_MatrixMul.f k bt204.1 bt204.2.1 bt204.2.2 bt210.1 bt210.2.1 bt210.2.2).bind fun bt216 => ((laws_eqMatrixOut.f k bt216.1 bt216.2.1 bt216.2.2.1 bt216.2.2.2 t197 t198 t199 t202).bind fun t223 => (if t223 = true then ((laws_toMatrix.f k a0_0 a0_1 l0_2).bind fun bt224 => ((laws_eqMatrix.f k bt204.1 bt204.2.1 bt204.2.2 bt224.1 bt224.2.1 bt224.2.2).bind fun t229 => (if t229 = true then ((laws_toMatrix.f k a1_0 a1_1 l1_2).bind fun bt230 => ((laws_eqMatrix.f k bt210.1 bt210.2.1 bt210.2.2 bt230.1 bt230.2.1 bt230.2.2).bind fun t235 => (if t235 = true then ((laws_markMatrix.f k bt204.1 bt204.2.1 bt204.2.2 1).bind fun bt236 => ((laws_markMatrix.f k bt210.1 bt210.2.1 bt210.2.2 bt236.1).bind fun bt238 => (if bt238.1 < 0 then (laws_FnExactMatrixMul.j0 k true a0_0 a0_1 l0_2 a1_0 a1_1 l1_2 t197 t198 t199 t202 bt216.1 bt216.2.1 bt216.2.2.1 bt216.2.2.2) else ((laws_eqMatrixOut.f k bt216.1 bt216.2.1 bt216.2.2.1 bt216.2.2.2 t197 t198 t199 t202).bind fun t240 => (laws_FnExactMatrixMul.j0 k (!t240) a0_0 a0_1 l0_2 a1_0 a1_1 l1_2 t197 t198 t199 t202 bt216.1 bt216.2.1 bt216.2.2.1 bt216.2.2.2))))) else (none)))) else (none)))) else (none)))))) = some r := H
   have A21 := Aside0.mk A210
   clear A210
   replace H := Option.bind_eq_some_iff.mp H
   obtain ⟨⟨t204, t205, t206⟩, A220, H⟩ := H
   replace H : ((laws_toMatrix.f k a1_0 a1_1 l1_2).bind fun bt210 => ((impl_MatrixMul.f k t204 t205 t206 bt210.1 bt210.2.1 bt210.2.2).bind fun bt216 => ((laws_eqMatrixOut.f k bt216.1 bt216.2.1 bt216.2.2.1 bt216.2.2.2 t197 t198 t199 t202).bind fun t223 => (if t223 = true then ((laws_toMatrix.f k a0_0 a0_1 l0_2).bind fun bt224 => ((laws_eqMatrix.f k t204 t205 t206 bt224.1 bt224.2.1 bt224.2.2).bind fun t229 => (if t229 = true then ((laws_toMatrix.f k a1_0 a1_1 l1_2).bind fun bt230 => ((laws_eqMatrix.f k bt210.1 bt210.2.1 bt210.2.2 bt230.1 bt230.2.1 bt230.2.2).bind fun t235 => (if t235 = true then ((laws_markMatrix.f k t204 t205 t206 1).bind fun bt236 => ((laws_markMatrix.f k bt210.1 bt210.2.1 bt210.2.2 bt236.1).bind fun bt238 => (if bt238.1 < 0 then (laws_FnExactMatrixMul.j0 k true a0_0 a0_1 l0_2 a1_0 a1_1 l1_2 t197 t198 t199 t202 bt216.1 bt216.2.1 bt216.2.2.1 bt216.2.2.2) else ((laws_eqMatrixOut.f k bt216.1 bt216.2.1 bt216.2.2.1 bt216.2.2.2 t197 t198 t199 t202).bind fun t240 => (laws_FnExactMatrixMul.j0 k (!t240) a0_0 a0_1 l0_2 a1_0 a1_1 l1_2 t197 t198 t199 t202 bt216.1 bt216.2.1 bt216.2.2.1 bt216.2.2.2))))) else (none)))) else (none)))) else (none))))) = some r := H
   have A22 := Aside0.mk A220
   clear A220
   replace H := Option.bind_eq_some_iff.mp H
   obtain ⟨⟨t210, t211, t212⟩, A230, H⟩ := H
   replace H : ((impl_MatrixMul.f k t204 t205 t206 t210 t211 t212).bind fun bt216 => ((laws_eqMatrixOut.f k bt216.1 bt216.2.1 bt216.2.2.1 bt216.2.2.2 t197 t198 t199 t202).bind fun t223 => (if t223 = true then ((laws_toMatrix.f k a0_0 a0_1 l0_2).bind fun bt224 => ((laws_eqMatrix.f k t204 t205 t206 bt224.1 bt224.2.1 bt224.2.2).bind fun t229 => (if t229 = true then ((laws_toMatrix.f k a1_0 a1_1 l1_2).bind fun bt230 => ((laws_eqMatrix.f k t210 t211 t212 bt230.1 bt230.2.1 bt230.2.2).bind fun t235 => (if t235 = true then ((laws_markMatrix.f k t204 t205 t206 1).bind fun bt236 => ((laws_markMatrix.f k t210 t211 t212 bt236.1).bind fun bt238 => (if bt238.1 < 0 then (laws_FnExactMatrixMul.j0 k true a0_0 a0_1 l0_2 a1_0 a1_1 l1_2 t197 t198 t199 t202 bt216.1 bt216.2.1 bt216.2.2.1 bt216.2.2.2) else ((laws_eqMatrixOut.f k bt216.1 bt216.2.1 bt216.2.2.1 bt216.2.2.2 t197 t198 t199 t202).bind fun t240 => (laws_FnExactMatrixMul.j0 k (!t240) a0_0 a0_1 l0_2 a1_0 a1_1 l1_2 t197 t198 t199 t202 bt216.1 bt216.2.1 bt216.2.2.1 bt216.2.2.2))))) else (none)))) else (none)))) else (none)))) = some r := H
   have A23 := Aside0.mk A230
   clear A230
   replace H := Option.bind_eq_some_iff.mp H
   obtain ⟨⟨t216, t217, t218, t221⟩, A240, H⟩ := H
   replace H : ((laws_eqMatrixOut.f k t216 t217 t218 t221 t197 t198 t199 t202).bind fun t223 => (if t223 = true then ((laws_toMatrix.f k a0_0 a0_1 l0_2).bind fun bt224 => ((laws_eqMatrix.f k t204 t205 t206 bt224.1 bt224.2.1 bt224.2.2).bind fun t229 => (if t229 = true then ((laws_toMatrix.f k a1_0 a1_1 l1_2).bind fun bt230 => ((laws_eqMatrix.f k t210 t211 t212 bt230.1 bt230.2.1 bt230.2.2).bind fun t235 => (if t235 = true then ((laws_markMatrix.f k t204 t205 t206 1).bind fun bt236 => ((laws_markMatrix.f k t210 t211 t212 bt236.1).bind fun bt238 => (if bt238.1 < 0 then (laws_FnExactMatrixMul.j0 k true a0_0 a0_1 l0_2 a1_0 a1_1 l1_2 t197 t198 t199 t202 t216 t217 t218 t221) else ((laws_eqMatrixOut.f k t216 t217 t218 t221 t197 t198 t199 t202).bind fun t240 => (laws_FnExactMatrixMul.j0 k (!t240) a0_0 a0_1 l0_2 a1_0 a1_1 l1_2 t197 t198 t199 t202 t216 t217 t218 t221))))) else (none)))) else (none)))) else (none))) = some r := H
   have A24 := Aside0.mk A240
   clear A240
   replace H := Option.bind_eq_some_iff.mp H
   obtain ⟨t223, A250, H⟩ := H
   replace H : (if t223 = true then ((laws_toMatrix.f k a0_0 a0_1 l0_2).bind fun bt224 => ((laws_eqMatrix.f k t204 t205 t206 bt224.1 bt224.2.1 bt224.2.2).bind fun t229 => (if t229 = true then ((laws_toMatrix.f k a1_0 a1_1 l1_2).bind fun bt230 => ((laws_eqMatrix.f k t210 t211 t212 bt230.1 bt230.2.1 bt230.2.2).bind fun t235 => (if t235 = true then ((laws_markMatrix.f k t204 t205 t206 1).bind fun bt236 => ((laws_markMatrix.f k t210 t211 t212 bt236.1).bind fun bt238 => (if bt238.1 < 0 then (laws_FnExactMatrixMul.j0 k true a0_0 a0_1 l0_2 a1_0 a1_1 l1_2 t197 t198 t199 t202 t216 t217 t218 t221) else ((laws_eqMatrixOut.f k t216 t217 t218 t221 t197 t198 t199 t202).bind fun t240 => (laws_FnExactMatrixMul.j0 k (!t240) a0_0 a0_1 l0_2 a1_0 a1_1 l1_2 t197 t198 t199 t202 t216 t217 t218 t221))))) else (none)))) else (none)))) else (none)) = some r := H
   have A25 := Aside0.mk A250
   clear A250
   by_cases c26 : t223 = true
   ·subst c26
    have H1 : ((laws_toMatrix.f k a0_0 a0_1 l0_2).bind fun bt224 => ((laws_eqMatrix.f k t204 t205 t206 bt224.1 bt224.2.1 bt224.2.2).bind fun t229 => (if t229 = true then ((laws_toMatrix.f k a1_0 a1_1 l1_2).bind fun bt230 => ((laws_eqMatrix.f k t210 t211 t212 bt230.1 bt230.2.1 bt230.2.2).bind fun t235 => (if t235 = true then ((laws_markMatrix.f k t204 t205 t206 1).bind fun bt236 => ((laws_markMatrix.f k t210 t211 t212 bt236.1).bind fun bt238 => (if bt238.1 < 0 then (laws_FnExactMatrixMul.j0 k true a0_0 a0_1 l0_2 a1_0 a1_1 l1_2 t197 t198 t199 t202 t216 t217 t218 t221) else ((laws_eqMatrixOut.f k t216 t217 t218 t221 t197 t198 t199 t202).bind fun t240 => (laws_FnExactMatrixMul.j0 k (!t240) a0_0 a0_1 l0_2 a1_0 a1_1 l1_2 t197 t198 t199 t202 t216 t217 t218 t221))))) else (none)))) else (none)))) = some r := by rw [if_pos rfl] at H; exact H
    clear H
    have H := H1
    clear H1
    replace H := Option.bind_eq_some_iff.mp H
    obtain ⟨⟨t224, t225, t226⟩, A270, H⟩ := H
    replace H : ((laws_eqMatrix.f k t204 t205 t206 t224 t225 t226).bind fun t229 => (if t229 = true then ((laws_toMatrix.f k a1_0 a1_1 l1_2).bind fun bt230 => ((laws_eqMatrix.f k t210 t211 t212 bt230.1 bt230.2.1 bt230.2.2).bind fun t235 => (if t235 = true then ((laws_markMatrix.f k t204 t205 t206 1).bind fun bt236 => ((laws_markMatrix.f k t210 t211 t212 bt236.1).bind fun bt238 => (if bt238.1 < 0 then (laws_FnExactMatrixMul.j0 k true a0_0 a0_1 l0_2 a1_0 a1_1 l1_2 t197 t198 t199 t202 t216 t217 t218 t221) else ((laws_eqMatrixOut.f k t216 t217 t218 t221 t197 t198 t199 t202).bind fun t240 => (laws_FnExactMatrixMul.j0 k (!t240) a0_0 a0_1 l0_2 a1_0 a1_1 l1_2 t197 t198 t199 t202 t216 t217 t218 t221))))) else (none)))) else (none))) = some r := H
    have A27 := Aside0.mk A270
    clear A270
    replace H := Option.bind_eq_some_iff.mp H
    obtain ⟨t229, A280, H⟩ := H
    replace H : (if t229 = true then ((laws_toMatrix.f k a1_0 a1_1 l1_2).bind fun bt230 => ((laws_eqMatrix.f k t210 t211 t212 bt230.1 bt230.2.1 bt230.2.2).bind fun t235 => (if t235 = true then ((laws_markMatrix.f k t204 t205 t206 1).bind fun bt236 => ((laws_markMatrix.f k t210 t211 t212 bt236.1).bind fun bt238 => (if bt238.1 < 0 then (laws_FnExactMatrixMul.j0 k true a0_0 a0_1 l0_2 a1_0 a1_1 l1_2 t197 t198 t199 t202 t216 t217 t218 t221) else ((laws_eqMatrixOut.f k t216 t217 t218 t221 t197 t198 t199 t202).bind fun t240 => (laws_FnExactMatrixMul.j0 k (!t240) a0_0 a0_1 l0_2 a1_0 a1_1 l1_2 t197 t198 t199 t202 t216 t217 t218 t221))))) else (none)))) else (none)) = some r := H
    have A28 := Aside0.mk A280
    clear A280
    by_cases c29 : t229 = true
    ·subst c29
     have H1 : ((laws_toMatrix.f k a1_0 a1_1 l1_2).bind fun bt230 => ((laws_eqMatrix.f k t210 t211 t212 bt230.1 bt230.2.1 bt230.2.2).bind fun t235 => (if t235 = true then ((laws_markMatrix.f k t204 t205 t206 1).bind fun bt236 => ((laws_markMatrix.f k t210 t211 t212 bt236.1).bind fun bt238 => (if bt238.1 < 0 then (laws_FnExactMatrixMul.j0 k true a0_0 a0_1 l0_2 a1_0 a1_1 l1_2 t197 t198 t199 t202 t216 t217 t218 t221) else ((laws_eqMatrixOut.f k t216 t217 t218 t221 t197 t198 t199 t202).bind fun t240 => (laws_FnExactMatrixMul.j0 k (!t240) a0_0 a0_1 l0_2 a1_0 a1_1 l1_2 t197 t198 t199 t202 t216 t217 t218 t221))))) else (none)))) = some r := by rw [if_pos rfl] at H; exact H
     clear H
     have H := H1
     clear H1
     replace H := Option.bind_eq_some_iff.mp H
     obtain ⟨⟨t230, t231, t232⟩, A300, H⟩ := H
     replace H : ((laws_eqMatrix.f k t210 t211 t212 t230 t231 t232).bind fun t235 => (if t235 = true then ((laws_markMatrix.f k t204 t205 t206 1).bind fun bt236 => ((laws_markMatrix.f k t210 t211 t212 bt236.1).bind fun bt238 => (if bt238.1 < 0 then (laws_FnExactMatrixMul.j0 k true a0_0 a0_1 l0_2 a1_0 a1_1 l1_2 t197 t198 t199 t202 t216 t217 t218 t221) else ((laws_eqMatrixOut.f k t216 t217 t218 t221 t197 t198 t199 t202).bind fun t240 => (laws_FnExactMatrixMul.j0 k (!t240) a0_0 a0_1 l0_2 a1_0 a1_1 l1_2 t197 t198 t199 t202 t216 t217 t218 t221))))) else (none))) = some r := H
     have A30 := Aside0.mk A300
     clear A300
     replace H := Option.bind_eq_some_iff.mp H
     obtain ⟨t235, A310, H⟩ := H
     replace H : (if t235 = true then ((laws_markMatrix.f k t204 t205 t206 1).bind fun bt236 => ((laws_markMatrix.f k t210 t211 t212 bt236.1).bind fun bt238 => (if bt238.1 < 0 then (laws_FnExactMatrixMul.j0 k true a0_0 a0_1 l0_2 a1_0 a1_1 l1_2 t197 t198 t199 t202 t216 t217 t218 t221) else ((laws_eqMatrixOut.f k t216 t217 t218 t221 t197 t198 t199 t202).bind fun t240 => (laws_FnExactMatrixMul.j0 k (!t240) a0_0 a0_1 l0_2 a1_0 a1_1 l1_2 t197 t198 t199 t202 t216 t217 t218 t221))))) else (none)) = some r := H
     have A31 := Aside0.mk A310
     clear A310
     by_cases c32 : t235 = true
     ·subst c32
      have H1 : ((laws_markMatrix.f k t204 t205 t206 1).bind fun bt236 => ((laws_markMatrix.f k t210 t211 t212 bt236.1).bind fun bt238 => (if bt238.1 < 0 then (laws_FnExactMatrixMul.j0 k true a0_0 a0_1 l0_2 a1_0 a1_1 l1_2 t197 t198 t199 t202 t216 t217 t218 t221) else ((laws_eqMatrixOut.f k t216 t217 t218 t221 t197 t198 t199 t202).bind fun t240 => (laws_FnExactMatrixMul.j0 k (!t240) a0_0 a0_1 l0_2 a1_0 a1_1 l1_2 t197 t198 t199 t202 t216 t217 t218 t221))))) = some r := by rw [if_pos rfl] at H; exact H
      clear H
      have H := H1
      clear H1
      replace H := Option.bind_eq_some_iff.mp H
      obtain ⟨⟨t236, t237⟩, A330, H⟩ := H
      replace H : ((laws_markMatrix.f k t210 t211 t212 t236).bind fun bt238 => (if bt238.1 < 0 then (laws_FnExactMatrixMul.j0 k true a0_0 a0_1 l0_2 a1_0 a1_1 l1_2 t197 t198 t199 t202 t216 t217 t218 t221) else ((laws_eqMatrixOut.f k t216 t217 t218 t221 t197 t198 t199 t202).bind fun t240 => (laws_FnExactMatrixMul.j0 k (!t240) a0_0 a0_1 l0_2 a1_0 a1_1 l1_2 t197 t198 t199 t202 t216 t217 t218 t221)))) = some r := H
      have A33 := Aside0.mk A330
      clear A330
      replace H := Option.bind_eq_some_iff.mp H
      obtain ⟨⟨t238, t239⟩, A340, H⟩ := H
      replace H : (if t238 < 0 then (laws_FnExactMatrixMul.j0 k true a0_0 a0_1 l0_2 a1_0 a1_1 l1_2 t197 t198 t199 t202 t216 t217 t218 t221) else ((laws_eqMatrixOut.f k t216 t217 t218 t221 t197 t198 t199 t202).bind fun t240 => (laws_FnExactMatrixMul.j0 k (!t240) a0_0 a0_1 l0_2 a1_0 a1_1 l1_2 t197 t198 t199 t202 t216 t217 t218 t221))) = some r := H
      have A34 := Aside0.mk A340
      clear A340
      have HC35 := Aside0.mk H
      clear H
      go_enter Try.func5, Try.ntmps5
      try go_wp2_with (first | ((with_reducible refine gate_dst (N := 2) rfl ?_); refine box_event ?hg (N := 2) ?hd (cs := #[.int .i64 a0_0, .int .i64 a0_1, .slice A0_2 l0_2.length c0_2]) (t := 24) ?hr ?_; (case hd => rfl); (case hg => rfl); (case hr => first | (go_simp; done) | (go_simp; rfl)); intro gb183 hg w36 hbox hb; have n0_ := Aside0.mk (below_step (Cz.w HB.out) hb); have n1_ := Aside0.mk (hbox); have n2_ := Aside0.mk ((by rw [hg]; exact (below_size (Cz.w HB.out)) : w.heap.size ≤ gb183)); have n3_ := Aside0.mk ((by rw [hg]; exact (below_size (Cz.w HB.out)) : w.heap.size ≤ gb183)); clear HB; have HB := n0_; have BK183 := n1_; have GW183 := n2_; have GE183 := n3_; clear n0_ n1_ n2_ n3_; clear hb hbox hg) | ((with_reducible refine gate_dst (N := 3) rfl ?_); refine box_event ?hg (N := 3) ?hd (cs := #[.int .i64 a1_0, .int .i64 a1_1, .slice A1_2 l1_2.length c1_2]) (t := 24) ?hr ?_; (case hd => rfl); (case hg => rfl); (case hr => first | (go_simp; done) | (go_simp; rfl)); intro gb184 hg w37 hbox hb; have n0_ := Aside0.mk (blk_below (g := gb183) (o := .cells #[.int .i64 a0_0, .int .i64 a0_1, .slice A0_2 l0_2.length c0_2] 24 (0, 0)) (Cz.b BK183.out) hb); have n1_ := Aside0.mk (below_step (Cz.w HB.out) hb); have n2_ := Aside0.mk (hbox); have n3_ := Aside0.mk ((by rw [hg]; exact (below_size (Cz.w HB.out)) : w.heap.size ≤ gb184)); have n4_ := Aside0.mk ((by rw [hg]; exact (below_size (Cz.w HB.out)) : w.heap.size ≤ gb184)); have n5_ := Aside0.mk ((by rw [hg]; exact Nat.ne_of_lt (blk_lt (g := gb183) (o := .cells #[.int .i64 a0_0, .int .i64 a0_1, .slice A0_2 l0_2.length c0_2] 24 (0, 0)) (Cz.b BK183.out)) : gb183 ≠ gb184)); have n6_ := Aside0.mk ((by rw [hg]; exact Nat.ne_of_gt (blk_lt (g := gb183) (o := .cells #[.int .i64 a0_0, .int .i64 a0_1, .slice A0_2 l0_2.length c0_2] 24 (0, 0)) (Cz.b BK183.out)) : gb184 ≠ gb183)); clear BK183 HB; have BK183 := n0_; have HB := n1_; have BK184 := n2_; have GW184 := n3_; have GE184 := n4_; have NB183_184 := n5_; have NB184_183 := n6_; clear n0_ n1_ n2_ n3_ n4_ n5_ n6_; clear hb hbox hg; have hnb38 := NB183_184.out; have hnc38 := NB184_183.out; have hcz39_0 : w37.cell? ⟨gb183, 0, none⟩ = some (.int .i64 a0_0) := (blk_cell BK183.out 0).trans rfl; have hcz39_1 : w37.cell? ⟨gb183, 1, none⟩ = some (.int .i64 a0_1) := (blk_cell BK183.out 1).trans rfl; have hcz39_2 : w37.cell? ⟨gb183, 2, none⟩ = some (.slice A0_2 l0_2.length c0_2) := (blk_cell BK183.out 2).trans rfl; have hfz39_0 := blk_frozen BK183.out 0; have hfz39_1 := blk_frozen BK183.out 1; have hfz39_2 := blk_frozen BK183.out 2) | ((with_reducible refine gate_callee (f := 15) rfl ?_); refine goesL_ (some 16) rfl rfl Try.func15 (by kernel_rfl) rfl #[.agg #[.int .i64 a0_0, .int .i64 a0_1, .slice A0_2 l0_2.length c0_2], .int .i64 1048576] rfl (by (try simp only [List.map_toArray, List.map_cons, List.map_nil]); first | done | rfl | (simp only [List.length_drop, List.length_take]; rfl)) ?_; (with_reducible refine (laws_szMatrix.calls a0_0 a0_1 _ _ l0_2 1048576 t185 _ ?side1 ?side2 A3.out).mono ?_); (case side1 => exact Cz.c HR0_2.out HB.out); (case side2 => exact HC0_2.out); rintro e w40 ⟨rfl, hb⟩; refine ⟨_, rfl, ?_⟩; have n0_ := Aside0.mk (blk_below (g := gb183) (o := .cells #[.int .i64 a0_0, .int .i64 a0_1, .slice A0_2 l0_2.length c0_2] 24 (0, 0)) (Cz.b BK183.out) hb); have n1_ := Aside0.mk (blk_below (g := gb184) (o := .cells #[.int .i64 a1_0, .int .i64 a1_1, .slice A1_2 l1_2.length c1_2] 24 (0, 0)) (Cz.b BK184.out) hb); have n2_ := Aside0.mk (below_step (Cz.w HB.out) hb); clear BK183 BK184 HB; have BK183 := n0_; have BK184 := n1_; have HB := n2_; clear n0_ n1_ n2_; (try clear hb); (try clear hb2); (try clear hk); (try clear hi); have hcz41_0 : w40.cell? ⟨gb184, 0, none⟩ = some (.int .i64 a1_0) := (blk_cell BK184.out 0).trans rfl; have hcz41_1 : w40.cell? ⟨gb184, 1, none⟩ = some (.int .i64 a1_1) := (blk_cell BK184.out 1).trans rfl; have hcz41_2 : w40.cell? ⟨gb184, 2, none⟩ = some (.slice A1_2 l1_2.length c1_2) := (blk_cell BK184.out 2).trans rfl; have hfz41_0 := blk_frozen BK184.out 0; have hfz41_1 := blk_frozen BK184.out 1; have hfz41_2 := blk_frozen BK184.out 2) | ((with_reducible refine gate_callee (f := 15) rfl ?_); refine goesL_ (some 21) rfl rfl Try.func15 (by kernel_rfl) rfl #[.agg #[.int .i64 a1_0, .int .i64 a1_1, .slice A1_2 l1_2.length c1_2], .int .i64 t185] rfl (by (try simp only [List.map_toArray, List.map_cons, List.map_nil]); first | done | rfl | (simp only [List.length_drop, List.length_take]; rfl)) ?_; (with_reducible refine (laws_szMatrix.calls a1_0 a1_1 _ _ l1_2 t185 t186 _ ?side1 ?side2 A10.out).mono ?_); (case side1 => exact Cz.c HR1_2.out HB.out); (case side2 => exact HC1_2.out); rintro e w42 ⟨rfl, hb⟩; refine ⟨_, rfl, ?_⟩; have n0_ := Aside0.mk (blk_below (g := gb183) (o := .cells #[.int .i64 a0_0, .int .i64 a0_1, .slice A0_2 l0_2.length c0_2] 24 (0, 0)) (Cz.b BK183.out) hb); have n1_ := Aside0.mk (blk_below (g := gb184) (o := .cells #[.int .i64 a1_0, .int .i64 a1_1, .slice A1_2 l1_2.length c1_2] 24 (0, 0)) (Cz.b BK184.out) hb); have n2_ := Aside0.mk (below_step (Cz.w HB.out) hb); clear BK183 BK184 HB; have BK183 := n0_; have BK184 := n1_; have HB := n2_; clear n0_ n1_ n2_; (try clear hb); (try clear hb2); (try clear hk); (try clear hi)))
      have n0_ := Aside0.mk (blk_drew BK183.out)
      have n1_ := Aside0.mk (blk_drew BK184.out)
      have n2_ := Aside0.mk (below_drew1 HB.out)
      clear BK183 BK184 HB
      have BK183 := n0_
      have BK184 := n1_
      have HB := n2_
      clear n0_ n1_ n2_
      refine start_ (n := 7) (S := fun w' => w'.cell? ⟨gb183, 0, none⟩ = some (.int .i64 a0_0) ∧ w'.cell? ⟨gb183, 1, none⟩ = some (.int .i64 a0_1) ∧ w'.cell? ⟨gb183, 2, none⟩ = some (.slice A0_2 l0_2.length c0_2) ∧ w'.cell? ⟨gb184, 0, none⟩ = some (.int .i64 a1_0) ∧ w'.cell? ⟨gb184, 1, none⟩ = some (.int .i64 a1_1) ∧ w'.cell? ⟨gb184, 2, none⟩ = some (.slice A1_2 l1_2.length c1_2)) (ds := []) #[false, false, false, false, false, false, false] (by kernel_rfl) rfl rfl ⟨(blk_cell BK183.out 0).trans rfl, (blk_cell BK183.out 1).trans rfl, (blk_cell BK183.out 2).trans rfl, (blk_cell BK184.out 0).trans rfl, (blk_cell BK184.out 1).trans rfl, (blk_cell BK184.out 2).trans rfl⟩ (fun hHeld => ?_)
      generalize w42.drew = w43 at BK183 BK184 HB hHeld ⊢
      refine take_ (i := 0) (N := some 24) (v := ?_) (a' := ?_) #[true, false, false, false, false, false, false] rfl rfl (by kernel_rfl) (fun _ _ _ h => h) (Or.inl ⟨by rfl, ?_⟩) hHeld ?_ ?_
      rotate_left
      ·rintro w' ⟨s0, s1, s2, s3, s4, s5⟩
       go_simp
       with_reducible rfl
      rotate_left
      ·simp only [Act.put, List.setIfInBounds_toArray, List.set_cons_zero, List.set_cons_succ, i64_w, i32_w]
       rfl
      refine take_ (i := 2) (N := some 26) (v := ?_) (a' := ?_) #[true, false, true, false, false, false, false] rfl rfl (by kernel_rfl) (fun _ _ _ h => h) (Or.inl ⟨by rfl, ?_⟩) hHeld ?_ ?_
      rotate_left
      ·rintro w' ⟨s0, s1, s2, s3, s4, s5⟩
       go_simp
       with_reducible rfl
      rotate_left
      ·simp only [Act.put, List.setIfInBounds_toArray, List.set_cons_zero, List.set_cons_succ, i64_w, i32_w]
       rfl
      refine join_ (σ := Value × Value × Value × Nat) 1 #[true, true, true, true, true, true, false] (fun s_ => [(25, .agg #[.int .i64 t187, .int .i64 t188, s_.1]), (27, .agg #[.int .i64 t192, .int .i64 t193, s_.2.1]), (28, .agg #[.int .i64 t197, .int .i64 t198, s_.2.2.1, .int .i64 t202]), (6, .pointer (some ⟨s_.2.2.2, 0, none⟩))]) (fun s_ w' => (w'.cell? ⟨gb183, 0, none⟩ = some (.int .i64 a0_0) ∧ w'.cell? ⟨gb183, 1, none⟩ = some (.int .i64 a0_1) ∧ w'.cell? ⟨gb183, 2, none⟩ = some (.slice A0_2 l0_2.length c0_2) ∧ w'.cell? ⟨gb184, 0, none⟩ = some (.int .i64 a1_0) ∧ w'.cell? ⟨gb184, 1, none⟩ = some (.int .i64 a1_1) ∧ w'.cell? ⟨gb184, 2, none⟩ = some (.slice A1_2 l1_2.length c1_2)) ∧ (Kd.R (Kd.int .i64) 2 w' w.heap.size (fun k_ => some k_ ≠ (s_.2.1 : Value).ownBlock ∧ some k_ ≠ (s_.2.2.1 : Value).ownBlock) s_.1 t189) ∧ (Kd.R (Kd.int .i64) 2 w' w.heap.size (fun k_ => some k_ ≠ (s_.1 : Value).ownBlock ∧ some k_ ≠ (s_.2.2.1 : Value).ownBlock) s_.2.1 t194) ∧ (Kd.R (Kd.int .i64) 2 w' w.heap.size (fun k_ => some k_ ≠ (s_.1 : Value).ownBlock ∧ some k_ ≠ (s_.2.1 : Value).ownBlock) s_.2.2.1 t199) ∧ (w'.heap[gb183]? = some (.cells #[.int .i64 a0_0, .int .i64 a0_1, .slice A0_2 l0_2.length c0_2] 24 (0, 0))) ∧ (w'.heap[gb184]? = some (.cells #[.int .i64 a1_0, .int .i64 a1_1, .slice A1_2 l1_2.length c1_2] 24 (0, 0))) ∧ (w'.heap[s_.2.2.2]? = some (.cells #[.int .i64 0, .int .i64 0, .slice none 0 0, .int .i64 0] 35 (0, 0))) ∧ (w.heap.size ≤ s_.2.2.2) ∧ (w.heap.size ≤ s_.2.2.2) ∧ (gb183 ≠ s_.2.2.2) ∧ (s_.2.2.2 ≠ gb183) ∧ (gb184 ≠ s_.2.2.2) ∧ (s_.2.2.2 ≠ gb184) ∧ (Below w.heap.size w w')) ?_ ?_
      rotate_left
      ·intro hCont
       refine two_ (i := 1) (j := 5) (Ni := some 25) (Nj := some 6) #[true, true, true, false, false, false, false] #[true, false, true, false, false, true, false] rfl rfl rfl rfl (by kernel_rfl) (by decide) (by decide) (fun K hK => ?_) (fun K hK => ?_)
       ·skip
        refine goes_ Try.func17 (by kernel_rfl) rfl #[.agg #[.int .i64 a0_0, .int .i64 a0_1, .slice A0_2 l0_2.length c0_2]] (by rfl) rfl rfl (by (try simp only [List.map_toArray, List.map_cons, List.map_nil]); first | done | rfl | (simp only [List.length_drop, List.length_take]; rfl)) ?_
        with_reducible refine (laws_toMatrix.calls k a0_0 a0_1 _ _ l0_2 t187 t188 t189 _ ?side1 ?side2 A19.out).mono ?_
        (case side1 => exact Cz.c HR0_2.out HB.out)
        (case side2 => exact HC0_2.out)
        rintro e w44 ⟨v190, rfl, ho0, hb⟩
        refine ⟨_, rfl, ?_⟩
        have n0_ := Aside0.mk (Kd.R_lower ho0 (below_size (Cz.w HB.out)))
        have n1_ := Aside0.mk (blk_below (g := gb183) (o := .cells #[.int .i64 a0_0, .int .i64 a0_1, .slice A0_2 l0_2.length c0_2] 24 (0, 0)) (Cz.b BK183.out) hb)
        have n2_ := Aside0.mk (blk_below (g := gb184) (o := .cells #[.int .i64 a1_0, .int .i64 a1_1, .slice A1_2 l1_2.length c1_2] 24 (0, 0)) (Cz.b BK184.out) hb)
        have n3_ := Aside0.mk (below_step (Cz.w HB.out) hb)
        clear BK183 BK184 HB
        have HO191 := n0_
        have BK183 := n1_
        have BK184 := n2_
        have HB := n3_
        clear n0_ n1_ n2_ n3_
        (try clear hb)
        (try clear hb2)
        (try clear hk)
        (try clear hi)
        (try clear ho0)
        refine hK.out _ _ ⟨(blk_cell BK183.out 0).trans rfl, (blk_cell BK183.out 1).trans rfl, (blk_cell BK183.out 2).trans rfl, (blk_cell BK184.out 0).trans rfl, (blk_cell BK184.out 1).trans rfl, (blk_cell BK184.out 2).trans rfl⟩ (fun hHeld => ?_)
        clear hK K
        refine norm_ (a' := ?_) ?_ ?_
        rotate_left
        ·show Act.put _ (some 25) _ = _
         simp only [Act.put, List.setIfInBounds_toArray, List.set_cons_zero, List.set_cons_succ, i64_w, i32_w]
         rfl
        refine two_ (i := 3) (j := 5) (Ni := some 27) (Nj := some 6) #[true, true, true, true, false, false, false] #[true, true, true, false, false, true, false] rfl rfl rfl rfl (by kernel_rfl) (by decide) (by decide) (fun K hK => ?_) (fun K hK => ?_)
        ·skip
         refine goes_ Try.func17 (by kernel_rfl) rfl #[.agg #[.int .i64 a1_0, .int .i64 a1_1, .slice A1_2 l1_2.length c1_2]] (by rfl) rfl rfl (by (try simp only [List.map_toArray, List.map_cons, List.map_nil]); first | done | rfl | (simp only [List.length_drop, List.length_take]; rfl)) ?_
         with_reducible refine (laws_toMatrix.calls k a1_0 a1_1 _ _ l1_2 t192 t193 t194 _ ?side1 ?side2 A20.out).mono ?_
         (case side1 => exact Cz.c HR1_2.out HB.out)
         (case side2 => exact HC1_2.out)
         rintro e w45 ⟨v195, rfl, ho0, hb⟩
         refine ⟨_, rfl, ?_⟩
         have n0_ := Aside0.mk (Kd.R_elder' (Cz.r HO191.out) (Kd.R_base ho0) hb)
         have n1_ := Aside0.mk (Kd.R_lower (Kd.R_new' ho0 (Kd.R_lt (Cz.r HO191.out))) (below_size (Cz.w HB.out)))
         have n2_ := Aside0.mk (blk_below (g := gb183) (o := .cells #[.int .i64 a0_0, .int .i64 a0_1, .slice A0_2 l0_2.length c0_2] 24 (0, 0)) (Cz.b BK183.out) hb)
         have n3_ := Aside0.mk (blk_below (g := gb184) (o := .cells #[.int .i64 a1_0, .int .i64 a1_1, .slice A1_2 l1_2.length c1_2] 24 (0, 0)) (Cz.b BK184.out) hb)
         have n4_ := Aside0.mk (below_step (Cz.w HB.out) hb)
         clear HO191 BK183 BK184 HB
         have HO191 := n0_
         have HO196 := n1_
         have BK183 := n2_
         have BK184 := n3_
         have HB := n4_
         clear n0_ n1_ n2_ n3_ n4_
         (try clear hb)
         (try clear hb2)
         (try clear hk)
         (try clear hi)
         (try clear ho0)
         obtain ⟨Ao46, co46, eo46⟩ := Kd.R_slice HO191.out
         (first | subst eo46 | (injection eo46 with f1_ f2_ f3_; have f4_ := f1_.symm; have f5_ := f3_.symm; clear f1_ f2_ f3_; subst f4_; subst f5_))
         obtain ⟨Ao47, co47, eo47⟩ := Kd.R_slice HO196.out
         (first | subst eo47 | (injection eo47 with f1_ f2_ f3_; have f4_ := f1_.symm; have f5_ := f3_.symm; clear f1_ f2_ f3_; subst f4_; subst f5_))
         refine hK.out _ _ ⟨(blk_cell BK183.out 0).trans rfl, (blk_cell BK183.out 1).trans rfl, (blk_cell BK183.out 2).trans rfl, (blk_cell BK184.out 0).trans rfl, (blk_cell BK184.out 1).trans rfl, (blk_cell BK184.out 2).trans rfl⟩ (fun hHeld => ?_)
         clear hK K
         refine norm_ (a' := ?_) ?_ ?_
         rotate_left
         ·show Act.put _ (some 27) _ = _
          simp only [Act.put, List.setIfInBounds_toArray, List.set_cons_zero, List.set_cons_succ, i64_w, i32_w]
          rfl
         refine two_ (i := 4) (j := 5) (Ni := some 28) (Nj := some 6) #[true, true, true, true, true, false, false] #[true, true, true, true, false, true, false] rfl rfl rfl rfl (by kernel_rfl) (by decide) (by decide) (fun K hK => ?_) (fun K hK => ?_)
         ·skip
          refine goes_ Try.func30 (by kernel_rfl) rfl #[.agg #[.int .i64 t187, .int .i64 t188, .slice Ao46 t189.length co46], .agg #[.int .i64 t192, .int .i64 t193, .slice Ao47 t194.length co47]] (by rfl) rfl rfl (by (try simp only [List.map_toArray, List.map_cons, List.map_nil]); first | done | rfl | (simp only [List.length_drop, List.length_take]; rfl)) ?_
          with_reducible refine (spec_MatrixMul.calls k t187 t188 _ _ t189 t192 t193 _ _ t194 t197 t198 t199 t202 _ ?side1 ?side2 ?side3 ?side4 A21.out).mono ?_
          (case side1 => repeat (first | exact (Kd.R_reads' HO191.out).2.2 | (with_reducible refine Kd.C_alloc ?_ _) | (with_reducible refine Kd.C_drewN ?_ _) | (with_reducible refine Kd.C_drew ?_)))
          (case side2 => exact (Kd.R_reads' HO191.out).2.1)
          (case side3 => repeat (first | exact (Kd.R_reads' HO196.out).2.2 | (with_reducible refine Kd.C_alloc ?_ _) | (with_reducible refine Kd.C_drewN ?_ _) | (with_reducible refine Kd.C_drew ?_)))
          (case side4 => exact (Kd.R_reads' HO196.out).2.1)
          rintro e w48 ⟨v200, rfl, ho0, hb⟩
          refine ⟨_, rfl, ?_⟩
          have n0_ := Aside0.mk (Kd.R_elder' (Cz.r HO191.out) (Kd.R_base ho0) hb)
          have n1_ := Aside0.mk (Kd.R_elder' (Cz.r HO196.out) (Kd.R_base ho0) hb)
          have n2_ := Aside0.mk (Kd.R_lower (Kd.R_new' (Kd.R_new' ho0 (Kd.R_lt (Cz.r HO191.out))) (Kd.R_lt (Cz.r HO196.out))) (below_size (Cz.w HB.out)))
          have n3_ := Aside0.mk (blk_below (g := gb183) (o := .cells #[.int .i64 a0_0, .int .i64 a0_1, .slice A0_2 l0_2.length c0_2] 24 (0, 0)) (Cz.b BK183.out) hb)
          have n4_ := Aside0.mk (blk_below (g := gb184) (o := .cells #[.int .i64 a1_0, .int .i64 a1_1, .slice A1_2 l1_2.length c1_2] 24 (0, 0)) (Cz.b BK184.out) hb)
          have n5_ := Aside0.mk (below_step (Cz.w HB.out) hb)
          clear HO191 HO196 BK183 BK184 HB
          have HO191 := n0_
          have HO196 := n1_
          have HO201 := n2_
          have BK183 := n3_
          have BK184 := n4_
          have HB := n5_
          clear n0_ n1_ n2_ n3_ n4_ n5_
          (try clear hb)
          (try clear hb2)
          (try clear hk)
          (try clear hi)
          (try clear ho0)
          refine hK.out _ _ ⟨(blk_cell BK183.out 0).trans rfl, (blk_cell BK183.out 1).trans rfl, (blk_cell BK183.out 2).trans rfl, (blk_cell BK184.out 0).trans rfl, (blk_cell BK184.out 1).trans rfl, (blk_cell BK184.out 2).trans rfl⟩ (fun hHeld => ?_)
          clear hK K
          refine norm_ (a' := ?_) ?_ ?_
          rotate_left
          ·show Act.put _ (some 28) _ = _
           simp only [Act.put, List.setIfInBounds_toArray, List.set_cons_zero, List.set_cons_succ, i64_w, i32_w]
           rfl
          refine one_ (i := 5) (N := some 6) #[true, true, true, true, true, true, false] rfl rfl (by kernel_rfl) (by decide) (fun K hK => ?_)
          refine box_step ?hg (N := 6) ?hd (cs := #[.int .i64 0, .int .i64 0, .slice none 0 0, .int .i64 0]) (t := 35) ?hr ?_; (case hd => rfl); (case hg => rfl); (case hr => first | (go_simp; done) | (go_simp; rfl))
          intro gb203 hg w49 hbox hb
          have n0_ := Aside0.mk (Kd.R_below (Cz.r HO191.out) hb)
          have n1_ := Aside0.mk (Kd.R_below (Cz.r HO196.out) hb)
          have n2_ := Aside0.mk (Kd.R_below (Cz.r HO201.out) hb)
          have n3_ := Aside0.mk (blk_below (g := gb183) (o := .cells #[.int .i64 a0_0, .int .i64 a0_1, .slice A0_2 l0_2.length c0_2] 24 (0, 0)) (Cz.b BK183.out) hb)
          have n4_ := Aside0.mk (blk_below (g := gb184) (o := .cells #[.int .i64 a1_0, .int .i64 a1_1, .slice A1_2 l1_2.length c1_2] 24 (0, 0)) (Cz.b BK184.out) hb)
          have n5_ := Aside0.mk (below_step (Cz.w HB.out) hb)
          have n6_ := Aside0.mk (hbox)
          have n7_ := Aside0.mk ((by rw [hg]; exact (below_size (Cz.w HB.out)) : w.heap.size ≤ gb203))
          have n8_ := Aside0.mk ((by rw [hg]; exact (below_size (Cz.w HB.out)) : w.heap.size ≤ gb203))
          have n9_ := Aside0.mk ((by rw [hg]; exact Nat.ne_of_lt (blk_lt (g := gb183) (o := .cells #[.int .i64 a0_0, .int .i64 a0_1, .slice A0_2 l0_2.length c0_2] 24 (0, 0)) (Cz.b BK183.out)) : gb183 ≠ gb203))
          have n10_ := Aside0.mk ((by rw [hg]; exact Nat.ne_of_gt (blk_lt (g := gb183) (o := .cells #[.int .i64 a0_0, .int .i64 a0_1, .slice A0_2 l0_2.length c0_2] 24 (0, 0)) (Cz.b BK183.out)) : gb203 ≠ gb183))
          have n11_ := Aside0.mk ((by rw [hg]; exact Nat.ne_of_lt (blk_lt (g := gb184) (o := .cells #[.int .i64 a1_0, .int .i64 a1_1, .slice A1_2 l1_2.length c1_2] 24 (0, 0)) (Cz.b BK184.out)) : gb184 ≠ gb203))
          have n12_ := Aside0.mk ((by rw [hg]; exact Nat.ne_of_gt (blk_lt (g := gb184) (o := .cells #[.int .i64 a1_0, .int .i64 a1_1, .slice A1_2 l1_2.length c1_2] 24 (0, 0)) (Cz.b BK184.out)) : gb203 ≠ gb184))
          clear HO191 HO196 HO201 BK183 BK184 HB
          have HO191 := n0_
          have HO196 := n1_
          have HO201 := n2_
          have BK183 := n3_
          have BK184 := n4_
          have HB := n5_
          have BK203 := n6_
          have GW203 := n7_
          have GE203 := n8_
          have NB183_203 := n9_
          have NB203_183 := n10_
          have NB184_203 := n11_
          have NB203_184 := n12_
          clear n0_ n1_ n2_ n3_ n4_ n5_ n6_ n7_ n8_ n9_ n10_ n11_ n12_
          clear hb hbox hg
          refine hK.out _ _ ⟨(blk_cell BK183.out 0).trans rfl, (blk_cell BK183.out 1).trans rfl, (blk_cell BK183.out 2).trans rfl, (blk_cell BK184.out 0).trans rfl, (blk_cell BK184.out 1).trans rfl, (blk_cell BK184.out 2).trans rfl⟩ (fun hHeld => ?_)
          clear hK K
          refine norm_ (a' := ?_) ?_ ?_
          rotate_left
          ·show Act.put _ (some 6) _ = _
           simp only [Act.put, List.setIfInBounds_toArray, List.set_cons_zero, List.set_cons_succ, i64_w, i32_w]
           rfl
          exact norm_ (by simp only [putAll, Act.put, List.setIfInBounds_toArray, List.set_cons_zero, List.set_cons_succ]) (hCont (.slice Ao46 t189.length co46, .slice Ao47 t194.length co47, v200, gb203) _ ⟨hHeld, (Cz.m HO191.out), (Cz.m HO196.out), (Cz.m HO201.out), (Cz.b BK183.out), (Cz.b BK184.out), (Cz.b BK203.out), GW203.out, GE203.out, NB183_203.out, NB203_183.out, NB184_203.out, NB203_184.out, (Cz.w HB.out)⟩)
         ·skip
          refine box_step ?hg (N := 6) ?hd (cs := #[.int .i64 0, .int .i64 0, .slice none 0 0, .int .i64 0]) (t := 35) ?hr ?_; (case hd => rfl); (case hg => rfl); (case hr => first | (go_simp; done) | (go_simp; rfl))
          intro gb203 hg w46 hbox hb
          have n0_ := Aside0.mk (Kd.R_below (Cz.r HO191.out) hb)
          have n1_ := Aside0.mk (Kd.R_below (Cz.r HO196.out) hb)
          have n2_ := Aside0.mk (blk_below (g := gb183) (o := .cells #[.int .i64 a0_0, .int .i64 a0_1, .slice A0_2 l0_2.length c0_2] 24 (0, 0)) (Cz.b BK183.out) hb)
          have n3_ := Aside0.mk (blk_below (g := gb184) (o := .cells #[.int .i64 a1_0, .int .i64 a1_1, .slice A1_2 l1_2.length c1_2] 24 (0, 0)) (Cz.b BK184.out) hb)
          have n4_ := Aside0.mk (below_step (Cz.w HB.out) hb)
          have n5_ := Aside0.mk (hbox)
          have n6_ := Aside0.mk ((by rw [hg]; exact (below_size (Cz.w HB.out)) : w.heap.size ≤ gb203))
          have n7_ := Aside0.mk ((by rw [hg]; exact (below_size (Cz.w HB.out)) : w.heap.size ≤ gb203))
          have n8_ := Aside0.mk ((by rw [hg]; exact Nat.ne_of_lt (blk_lt (g := gb183) (o := .cells #[.int .i64 a0_0, .int .i64 a0_1, .slice A0_2 l0_2.length c0_2] 24 (0, 0)) (Cz.b BK183.out)) : gb183 ≠ gb203))
          have n9_ := Aside0.mk ((by rw [hg]; exact Nat.ne_of_gt (blk_lt (g := gb183) (o := .cells #[.int .i64 a0_0, .int .i64 a0_1, .slice A0_2 l0_2.length c0_2] 24 (0, 0)) (Cz.b BK183.out)) : gb203 ≠ gb183))
          have n10_ := Aside0.mk ((by rw [hg]; exact Nat.ne_of_lt (blk_lt (g := gb184) (o := .cells #[.int .i64 a1_0, .int .i64 a1_1, .slice A1_2 l1_2.length c1_2] 24 (0, 0)) (Cz.b BK184.out)) : gb184 ≠ gb203))
          have n11_ := Aside0.mk ((by rw [hg]; exact Nat.ne_of_gt (blk_lt (g := gb184) (o := .cells #[.int .i64 a1_0, .int .i64 a1_1, .slice A1_2 l1_2.length c1_2] 24 (0, 0)) (Cz.b BK184.out)) : gb203 ≠ gb184))
          clear HO191 HO196 BK183 BK184 HB
          have HO191 := n0_
          have HO196 := n1_
          have BK183 := n2_
          have BK184 := n3_
          have HB := n4_
          have BK203 := n5_
          have GW203 := n6_
          have GE203 := n7_
          have NB183_203 := n8_
          have NB203_183 := n9_
          have NB184_203 := n10_
          have NB203_184 := n11_
          clear n0_ n1_ n2_ n3_ n4_ n5_ n6_ n7_ n8_ n9_ n10_ n11_
          clear hb hbox hg
          obtain ⟨Ao47, co47, eo47⟩ := Kd.R_slice HO191.out
          (first | subst eo47 | (injection eo47 with f1_ f2_ f3_; have f4_ := f1_.symm; have f5_ := f3_.symm; clear f1_ f2_ f3_; subst f4_; subst f5_))
          obtain ⟨Ao48, co48, eo48⟩ := Kd.R_slice HO196.out
          (first | subst eo48 | (injection eo48 with f1_ f2_ f3_; have f4_ := f1_.symm; have f5_ := f3_.symm; clear f1_ f2_ f3_; subst f4_; subst f5_))
          refine hK.out _ _ ⟨(blk_cell BK183.out 0).trans rfl, (blk_cell BK183.out 1).trans rfl, (blk_cell BK183.out 2).trans rfl, (blk_cell BK184.out 0).trans rfl, (blk_cell BK184.out 1).trans rfl, (blk_cell BK184.out 2).trans rfl⟩ (fun hHeld => ?_)
          clear hK K
          refine norm_ (a' := ?_) ?_ ?_
          rotate_left
          ·show Act.put _ (some 6) _ = _
           simp only [Act.put, List.setIfInBounds_toArray, List.set_cons_zero, List.set_cons_succ, i64_w, i32_w]
           rfl
          refine one_ (i := 4) (N := some 28) #[true, true, true, true, true, true, false] rfl rfl (by kernel_rfl) (by decide) (fun K hK => ?_)
          refine goes_ Try.func30 (by kernel_rfl) rfl #[.agg #[.int .i64 t187, .int .i64 t188, .slice Ao47 t189.length co47], .agg #[.int .i64 t192, .int .i64 t193, .slice Ao48 t194.length co48]] (by rfl) rfl rfl (by (try simp only [List.map_toArray, List.map_cons, List.map_nil]); first | done | rfl | (simp only [List.length_drop, List.length_take]; rfl)) ?_
          with_reducible refine (spec_MatrixMul.calls k t187 t188 _ _ t189 t192 t193 _ _ t194 t197 t198 t199 t202 _ ?side1 ?side2 ?side3 ?side4 A21.out).mono ?_
          (case side1 => repeat (first | exact (Kd.R_reads' HO191.out).2.2 | (with_reducible refine Kd.C_alloc ?_ _) | (with_reducible refine Kd.C_drewN ?_ _) | (with_reducible refine Kd.C_drew ?_)))
          (case side2 => exact (Kd.R_reads' HO191.out).2.1)
          (case side3 => repeat (first | exact (Kd.R_reads' HO196.out).2.2 | (with_reducible refine Kd.C_alloc ?_ _) | (with_reducible refine Kd.C_drewN ?_ _) | (with_reducible refine Kd.C_drew ?_)))
          (case side4 => exact (Kd.R_reads' HO196.out).2.1)
          rintro e w49 ⟨v200, rfl, ho0, hb⟩
          refine ⟨_, rfl, ?_⟩
          have n0_ := Aside0.mk (Kd.R_elder' (Cz.r HO191.out) (Kd.R_base ho0) hb)
          have n1_ := Aside0.mk (Kd.R_elder' (Cz.r HO196.out) (Kd.R_base ho0) hb)
          have n2_ := Aside0.mk (Kd.R_lower (Kd.R_new' (Kd.R_new' ho0 (Kd.R_lt (Cz.r HO191.out))) (Kd.R_lt (Cz.r HO196.out))) (below_size (Cz.w HB.out)))
          have n3_ := Aside0.mk (blk_below (g := gb183) (o := .cells #[.int .i64 a0_0, .int .i64 a0_1, .slice A0_2 l0_2.length c0_2] 24 (0, 0)) (Cz.b BK183.out) hb)
          have n4_ := Aside0.mk (blk_below (g := gb184) (o := .cells #[.int .i64 a1_0, .int .i64 a1_1, .slice A1_2 l1_2.length c1_2] 24 (0, 0)) (Cz.b BK184.out) hb)
          have n5_ := Aside0.mk (blk_below (g := gb203) (o := .cells #[.int .i64 0, .int .i64 0, .slice none 0 0, .int .i64 0] 35 (0, 0)) (Cz.b BK203.out) hb)
          have n6_ := Aside0.mk (below_step (Cz.w HB.out) hb)
          clear HO191 HO196 BK183 BK184 BK203 HB
          have HO191 := n0_
          have HO196 := n1_
          have HO201 := n2_
          have BK183 := n3_
          have BK184 := n4_
          have BK203 := n5_
          have HB := n6_
          clear n0_ n1_ n2_ n3_ n4_ n5_ n6_
          (try clear hb)
          (try clear hb2)
          (try clear hk)
          (try clear hi)
          (try clear ho0)
          refine hK.out _ _ ⟨(blk_cell BK183.out 0).trans rfl, (blk_cell BK183.out 1).trans rfl, (blk_cell BK183.out 2).trans rfl, (blk_cell BK184.out 0).trans rfl, (blk_cell BK184.out 1).trans rfl, (blk_cell BK184.out 2).trans rfl⟩ (fun hHeld => ?_)
          clear hK K
          refine norm_ (a' := ?_) ?_ ?_
          rotate_left
          ·show Act.put _ (some 28) _ = _
           simp only [Act.put, List.setIfInBounds_toArray, List.set_cons_zero, List.set_cons_succ, i64_w, i32_w]
           rfl
          exact norm_ (by simp only [putAll, Act.put, List.setIfInBounds_toArray, List.set_cons_zero, List.set_cons_succ]) (hCont (.slice Ao47 t189.length co47, .slice Ao48 t194.length co48, v200, gb203) _ ⟨hHeld, (Cz.m HO191.out), (Cz.m HO196.out), (Cz.m HO201.out), (Cz.b BK183.out), (Cz.b BK184.out), (Cz.b BK203.out), GW203.out, GE203.out, NB183_203.out, NB203_183.out, NB184_203.out, NB203_184.out, (Cz.w HB.out)⟩)
        ·skip
         refine box_step ?hg (N := 6) ?hd (cs := #[.int .i64 0, .int .i64 0, .slice none 0 0, .int .i64 0]) (t := 35) ?hr ?_; (case hd => rfl); (case hg => rfl); (case hr => first | (go_simp; done) | (go_simp; rfl))
         intro gb203 hg w45 hbox hb
         have n0_ := Aside0.mk (Kd.R_below (Cz.r HO191.out) hb)
         have n1_ := Aside0.mk (blk_below (g := gb183) (o := .cells #[.int .i64 a0_0, .int .i64 a0_1, .slice A0_2 l0_2.length c0_2] 24 (0, 0)) (Cz.b BK183.out) hb)
         have n2_ := Aside0.mk (blk_below (g := gb184) (o := .cells #[.int .i64 a1_0, .int .i64 a1_1, .slice A1_2 l1_2.length c1_2] 24 (0, 0)) (Cz.b BK184.out) hb)
         have n3_ := Aside0.mk (below_step (Cz.w HB.out) hb)
         have n4_ := Aside0.mk (hbox)
         have n5_ := Aside0.mk ((by rw [hg]; exact (below_size (Cz.w HB.out)) : w.heap.size ≤ gb203))
         have n6_ := Aside0.mk ((by rw [hg]; exact (below_size (Cz.w HB.out)) : w.heap.size ≤ gb203))
         have n7_ := Aside0.mk ((by rw [hg]; exact Nat.ne_of_lt (blk_lt (g := gb183) (o := .cells #[.int .i64 a0_0, .int .i64 a0_1, .slice A0_2 l0_2.length c0_2] 24 (0, 0)) (Cz.b BK183.out)) : gb183 ≠ gb203))
         have n8_ := Aside0.mk ((by rw [hg]; exact Nat.ne_of_gt (blk_lt (g := gb183) (o := .cells #[.int .i64 a0_0, .int .i64 a0_1, .slice A0_2 l0_2.length c0_2] 24 (0, 0)) (Cz.b BK183.out)) : gb203 ≠ gb183))
         have n9_ := Aside0.mk ((by rw [hg]; exact Nat.ne_of_lt (blk_lt (g := gb184) (o := .cells #[.int .i64 a1_0, .int .i64 a1_1, .slice A1_2 l1_2.length c1_2] 24 (0, 0)) (Cz.b BK184.out)) : gb184 ≠ gb203))
         have n10_ := Aside0.mk ((by rw [hg]; exact Nat.ne_of_gt (blk_lt (g := gb184) (o := .cells #[.int .i64 a1_0, .int .i64 a1_1, .slice A1_2 l1_2.length c1_2] 24 (0, 0)) (Cz.b BK184.out)) : gb203 ≠ gb184))
         clear HO191 BK183 BK184 HB
         have HO191 := n0_
         have BK183 := n1_
         have BK184 := n2_
         have HB := n3_
         have BK203 := n4_
         have GW203 := n5_
         have GE203 := n6_
         have NB183_203 := n7_
         have NB203_183 := n8_
         have NB184_203 := n9_
         have NB203_184 := n10_
         clear n0_ n1_ n2_ n3_ n4_ n5_ n6_ n7_ n8_ n9_ n10_
         clear hb hbox hg
         refine hK.out _ _ ⟨(blk_cell BK183.out 0).trans rfl, (blk_cell BK183.out 1).trans rfl, (blk_cell BK183.out 2).trans rfl, (blk_cell BK184.out 0).trans rfl, (blk_cell BK184.out 1).trans rfl, (blk_cell BK184.out 2).trans rfl⟩ (fun hHeld => ?_)
         clear hK K
         refine norm_ (a' := ?_) ?_ ?_
         rotate_left
         ·show Act.put _ (some 6) _ = _
          simp only [Act.put, List.setIfInBounds_toArray, List.set_cons_zero, List.set_cons_succ, i64_w, i32_w]
          rfl
         refine one_ (i := 3) (N := some 27) #[true, true, true, true, false, true, false] rfl rfl (by kernel_rfl) (by decide) (fun K hK => ?_)
         refine goes_ Try.func17 (by kernel_rfl) rfl #[.agg #[.int .i64 a1_0, .int .i64 a1_1, .slice A1_2 l1_2.length c1_2]] (by rfl) rfl rfl (by (try simp only [List.map_toArray, List.map_cons, List.map_nil]); first | done | rfl | (simp only [List.length_drop, List.length_take]; rfl)) ?_
         with_reducible refine (laws_toMatrix.calls k a1_0 a1_1 _ _ l1_2 t192 t193 t194 _ ?side1 ?side2 A20.out).mono ?_
         (case side1 => exact Cz.c HR1_2.out HB.out)
         (case side2 => exact HC1_2.out)
         rintro e w46 ⟨v195, rfl, ho0, hb⟩
         refine ⟨_, rfl, ?_⟩
         have n0_ := Aside0.mk (Kd.R_elder' (Cz.r HO191.out) (Kd.R_base ho0) hb)
         have n1_ := Aside0.mk (Kd.R_lower (Kd.R_new' ho0 (Kd.R_lt (Cz.r HO191.out))) (below_size (Cz.w HB.out)))
         have n2_ := Aside0.mk (blk_below (g := gb183) (o := .cells #[.int .i64 a0_0, .int .i64 a0_1, .slice A0_2 l0_2.length c0_2] 24 (0, 0)) (Cz.b BK183.out) hb)
         have n3_ := Aside0.mk (blk_below (g := gb184) (o := .cells #[.int .i64 a1_0, .int .i64 a1_1, .slice A1_2 l1_2.length c1_2] 24 (0, 0)) (Cz.b BK184.out) hb)
         have n4_ := Aside0.mk (blk_below (g := gb203) (o := .cells #[.int .i64 0, .int .i64 0, .slice none 0 0, .int .i64 0] 35 (0, 0)) (Cz.b BK203.out) hb)
         have n5_ := Aside0.mk (below_step (Cz.w HB.out) hb)
         clear HO191 BK183 BK184 BK203 HB
         have HO191 := n0_
         have HO196 := n1_
         have BK183 := n2_
         have BK184 := n3_
         have BK203 := n4_
         have HB := n5_
         clear n0_ n1_ n2_ n3_ n4_ n5_
         (try clear hb)
         (try clear hb2)
         (try clear hk)
         (try clear hi)
         (try clear ho0)
         obtain ⟨Ao47, co47, eo47⟩ := Kd.R_slice HO191.out
         (first | subst eo47 | (injection eo47 with f1_ f2_ f3_; have f4_ := f1_.symm; have f5_ := f3_.symm; clear f1_ f2_ f3_; subst f4_; subst f5_))
         obtain ⟨Ao48, co48, eo48⟩ := Kd.R_slice HO196.out
         (first | subst eo48 | (injection eo48 with f1_ f2_ f3_; have f4_ := f1_.symm; have f5_ := f3_.symm; clear f1_ f2_ f3_; subst f4_; subst f5_))
         refine hK.out _ _ ⟨(blk_cell BK183.out 0).trans rfl, (blk_cell BK183.out 1).trans rfl, (blk_cell BK183.out 2).trans rfl, (blk_cell BK184.out 0).trans rfl, (blk_cell BK184.out 1).trans rfl, (blk_cell BK184.out 2).trans rfl⟩ (fun hHeld => ?_)
         clear hK K
         refine norm_ (a' := ?_) ?_ ?_
         rotate_left
         ·show Act.put _ (some 27) _ = _
          simp only [Act.put, List.setIfInBounds_toArray, List.set_cons_zero, List.set_cons_succ, i64_w, i32_w]
          rfl
         refine one_ (i := 4) (N := some 28) #[true, true, true, true, true, true, false] rfl rfl (by kernel_rfl) (by decide) (fun K hK => ?_)
         refine goes_ Try.func30 (by kernel_rfl) rfl #[.agg #[.int .i64 t187, .int .i64 t188, .slice Ao47 t189.length co47], .agg #[.int .i64 t192, .int .i64 t193, .slice Ao48 t194.length co48]] (by rfl) rfl rfl (by (try simp only [List.map_toArray, List.map_cons, List.map_nil]); first | done | rfl | (simp only [List.length_drop, List.length_take]; rfl)) ?_
         with_reducible refine (spec_MatrixMul.calls k t187 t188 _ _ t189 t192 t193 _ _ t194 t197 t198 t199 t202 _ ?side1 ?side2 ?side3 ?side4 A21.out).mono ?_
         (case side1 => repeat (first | exact (Kd.R_reads' HO191.out).2.2 | (with_reducible refine Kd.C_alloc ?_ _) | (with_reducible refine Kd.C_drewN ?_ _) | (with_reducible refine Kd.C_drew ?_)))
         (case side2 => exact (Kd.R_reads' HO191.out).2.1)
         (case side3 => repeat (first | exact (Kd.R_reads' HO196.out).2.2 | (with_reducible refine Kd.C_alloc ?_ _) | (with_reducible refine Kd.C_drewN ?_ _) | (with_reducible refine Kd.C_drew ?_)))
         (case side4 => exact (Kd.R_reads' HO196.out).2.1)
         rintro e w49 ⟨v200, rfl, ho0, hb⟩
         refine ⟨_, rfl, ?_⟩
         have n0_ := Aside0.mk (Kd.R_elder' (Cz.r HO191.out) (Kd.R_base ho0) hb)
         have n1_ := Aside0.mk (Kd.R_elder' (Cz.r HO196.out) (Kd.R_base ho0) hb)
         have n2_ := Aside0.mk (Kd.R_lower (Kd.R_new' (Kd.R_new' ho0 (Kd.R_lt (Cz.r HO191.out))) (Kd.R_lt (Cz.r HO196.out))) (below_size (Cz.w HB.out)))
         have n3_ := Aside0.mk (blk_below (g := gb183) (o := .cells #[.int .i64 a0_0, .int .i64 a0_1, .slice A0_2 l0_2.length c0_2] 24 (0, 0)) (Cz.b BK183.out) hb)
         have n4_ := Aside0.mk (blk_below (g := gb184) (o := .cells #[.int .i64 a1_0, .int .i64 a1_1, .slice A1_2 l1_2.length c1_2] 24 (0, 0)) (Cz.b BK184.out) hb)
         have n5_ := Aside0.mk (blk_below (g := gb203) (o := .cells #[.int .i64 0, .int .i64 0, .slice none 0 0, .int .i64 0] 35 (0, 0)) (Cz.b BK203.out) hb)
         have n6_ := Aside0.mk (below_step (Cz.w HB.out) hb)
         clear HO191 HO196 BK183 BK184 BK203 HB
         have HO191 := n0_
         have HO196 := n1_
         have HO201 := n2_
         have BK183 := n3_
         have BK184 := n4_
         have BK203 := n5_
         have HB := n6_
         clear n0_ n1_ n2_ n3_ n4_ n5_ n6_
         (try clear hb)
         (try clear hb2)
         (try clear hk)
         (try clear hi)
         (try clear ho0)
         refine hK.out _ _ ⟨(blk_cell BK183.out 0).trans rfl, (blk_cell BK183.out 1).trans rfl, (blk_cell BK183.out 2).trans rfl, (blk_cell BK184.out 0).trans rfl, (blk_cell BK184.out 1).trans rfl, (blk_cell BK184.out 2).trans rfl⟩ (fun hHeld => ?_)
         clear hK K
         refine norm_ (a' := ?_) ?_ ?_
         rotate_left
         ·show Act.put _ (some 28) _ = _
          simp only [Act.put, List.setIfInBounds_toArray, List.set_cons_zero, List.set_cons_succ, i64_w, i32_w]
          rfl
         exact norm_ (by simp only [putAll, Act.put, List.setIfInBounds_toArray, List.set_cons_zero, List.set_cons_succ]) (hCont (.slice Ao47 t189.length co47, .slice Ao48 t194.length co48, v200, gb203) _ ⟨hHeld, (Cz.m HO191.out), (Cz.m HO196.out), (Cz.m HO201.out), (Cz.b BK183.out), (Cz.b BK184.out), (Cz.b BK203.out), GW203.out, GE203.out, NB183_203.out, NB203_183.out, NB184_203.out, NB203_184.out, (Cz.w HB.out)⟩)
       ·skip
        refine box_step ?hg (N := 6) ?hd (cs := #[.int .i64 0, .int .i64 0, .slice none 0 0, .int .i64 0]) (t := 35) ?hr ?_; (case hd => rfl); (case hg => rfl); (case hr => first | (go_simp; done) | (go_simp; rfl))
        intro gb203 hg w44 hbox hb
        have n0_ := Aside0.mk (blk_below (g := gb183) (o := .cells #[.int .i64 a0_0, .int .i64 a0_1, .slice A0_2 l0_2.length c0_2] 24 (0, 0)) (Cz.b BK183.out) hb)
        have n1_ := Aside0.mk (blk_below (g := gb184) (o := .cells #[.int .i64 a1_0, .int .i64 a1_1, .slice A1_2 l1_2.length c1_2] 24 (0, 0)) (Cz.b BK184.out) hb)
        have n2_ := Aside0.mk (below_step (Cz.w HB.out) hb)
        have n3_ := Aside0.mk (hbox)
        have n4_ := Aside0.mk ((by rw [hg]; exact (below_size (Cz.w HB.out)) : w.heap.size ≤ gb203))
        have n5_ := Aside0.mk ((by rw [hg]; exact (below_size (Cz.w HB.out)) : w.heap.size ≤ gb203))
        have n6_ := Aside0.mk ((by rw [hg]; exact Nat.ne_of_lt (blk_lt (g := gb183) (o := .cells #[.int .i64 a0_0, .int .i64 a0_1, .slice A0_2 l0_2.length c0_2] 24 (0, 0)) (Cz.b BK183.out)) : gb183 ≠ gb203))
        have n7_ := Aside0.mk ((by rw [hg]; exact Nat.ne_of_gt (blk_lt (g := gb183) (o := .cells #[.int .i64 a0_0, .int .i64 a0_1, .slice A0_2 l0_2.length c0_2] 24 (0, 0)) (Cz.b BK183.out)) : gb203 ≠ gb183))
        have n8_ := Aside0.mk ((by rw [hg]; exact Nat.ne_of_lt (blk_lt (g := gb184) (o := .cells #[.int .i64 a1_0, .int .i64 a1_1, .slice A1_2 l1_2.length c1_2] 24 (0, 0)) (Cz.b BK184.out)) : gb184 ≠ gb203))
        have n9_ := Aside0.mk ((by rw [hg]; exact Nat.ne_of_gt (blk_lt (g := gb184) (o := .cells #[.int .i64 a1_0, .int .i64 a1_1, .slice A1_2 l1_2.length c1_2] 24 (0, 0)) (Cz.b BK184.out)) : gb203 ≠ gb184))
        clear BK183 BK184 HB
        have BK183 := n0_
        have BK184 := n1_
        have HB := n2_
        have BK203 := n3_
        have GW203 := n4_
        have GE203 := n5_
        have NB183_203 := n6_
        have NB203_183 := n7_
        have NB184_203 := n8_
        have NB203_184 := n9_
        clear n0_ n1_ n2_ n3_ n4_ n5_ n6_ n7_ n8_ n9_
        clear hb hbox hg
        refine hK.out _ _ ⟨(blk_cell BK183.out 0).trans rfl, (blk_cell BK183.out 1).trans rfl, (blk_cell BK183.out 2).trans rfl, (blk_cell BK184.out 0).trans rfl, (blk_cell BK184.out 1).trans rfl, (blk_cell BK184.out 2).trans rfl⟩ (fun hHeld => ?_)
        clear hK K
        refine norm_ (a' := ?_) ?_ ?_
        rotate_left
        ·show Act.put _ (some 6) _ = _
         simp only [Act.put, List.setIfInBounds_toArray, List.set_cons_zero, List.set_cons_succ, i64_w, i32_w]
         rfl
        refine one_ (i := 1) (N := some 25) #[true, true, true, false, false, true, false] rfl rfl (by kernel_rfl) (by decide) (fun K hK => ?_)
        refine goes_ Try.func17 (by kernel_rfl) rfl #[.agg #[.int .i64 a0_0, .int .i64 a0_1, .slice A0_2 l0_2.length c0_2]] (by rfl) rfl rfl (by (try simp only [List.map_toArray, List.map_cons, List.map_nil]); first | done | rfl | (simp only [List.length_drop, List.length_take]; rfl)) ?_
        with_reducible refine (laws_toMatrix.calls k a0_0 a0_1 _ _ l0_2 t187 t188 t189 _ ?side1 ?side2 A19.out).mono ?_
        (case side1 => exact Cz.c HR0_2.out HB.out)
        (case side2 => exact HC0_2.out)
        rintro e w45 ⟨v190, rfl, ho0, hb⟩
        refine ⟨_, rfl, ?_⟩
        have n0_ := Aside0.mk (Kd.R_lower ho0 (below_size (Cz.w HB.out)))
        have n1_ := Aside0.mk (blk_below (g := gb183) (o := .cells #[.int .i64 a0_0, .int .i64 a0_1, .slice A0_2 l0_2.length c0_2] 24 (0, 0)) (Cz.b BK183.out) hb)
        have n2_ := Aside0.mk (blk_below (g := gb184) (o := .cells #[.int .i64 a1_0, .int .i64 a1_1, .slice A1_2 l1_2.length c1_2] 24 (0, 0)) (Cz.b BK184.out) hb)
        have n3_ := Aside0.mk (blk_below (g := gb203) (o := .cells #[.int .i64 0, .int .i64 0, .slice none 0 0, .int .i64 0] 35 (0, 0)) (Cz.b BK203.out) hb)
        have n4_ := Aside0.mk (below_step (Cz.w HB.out) hb)
        clear BK183 BK184 BK203 HB
        have HO191 := n0_
        have BK183 := n1_
        have BK184 := n2_
        have BK203 := n3_
        have HB := n4_
        clear n0_ n1_ n2_ n3_ n4_
        (try clear hb)
        (try clear hb2)
        (try clear hk)
        (try clear hi)
        (try clear ho0)
        refine hK.out _ _ ⟨(blk_cell BK183.out 0).trans rfl, (blk_cell BK183.out 1).trans rfl, (blk_cell BK183.out 2).trans rfl, (blk_cell BK184.out 0).trans rfl, (blk_cell BK184.out 1).trans rfl, (blk_cell BK184.out 2).trans rfl⟩ (fun hHeld => ?_)
        clear hK K
        refine norm_ (a' := ?_) ?_ ?_
        rotate_left
        ·show Act.put _ (some 25) _ = _
         simp only [Act.put, List.setIfInBounds_toArray, List.set_cons_zero, List.set_cons_succ, i64_w, i32_w]
         rfl
        refine one_ (i := 3) (N := some 27) #[true, true, true, true, false, true, false] rfl rfl (by kernel_rfl) (by decide) (fun K hK => ?_)
        refine goes_ Try.func17 (by kernel_rfl) rfl #[.agg #[.int .i64 a1_0, .int .i64 a1_1, .slice A1_2 l1_2.length c1_2]] (by rfl) rfl rfl (by (try simp only [List.map_toArray, List.map_cons, List.map_nil]); first | done | rfl | (simp only [List.length_drop, List.length_take]; rfl)) ?_
        with_reducible refine (laws_toMatrix.calls k a1_0 a1_1 _ _ l1_2 t192 t193 t194 _ ?side1 ?side2 A20.out).mono ?_
        (case side1 => exact Cz.c HR1_2.out HB.out)
        (case side2 => exact HC1_2.out)
        rintro e w46 ⟨v195, rfl, ho0, hb⟩
        refine ⟨_, rfl, ?_⟩
        have n0_ := Aside0.mk (Kd.R_elder' (Cz.r HO191.out) (Kd.R_base ho0) hb)
        have n1_ := Aside0.mk (Kd.R_lower (Kd.R_new' ho0 (Kd.R_lt (Cz.r HO191.out))) (below_size (Cz.w HB.out)))
        have n2_ := Aside0.mk (blk_below (g := gb183) (o := .cells #[.int .i64 a0_0, .int .i64 a0_1, .slice A0_2 l0_2.length c0_2] 24 (0, 0)) (Cz.b BK183.out) hb)
        have n3_ := Aside0.mk (blk_below (g := gb184) (o := .cells #[.int .i64 a1_0, .int .i64 a1_1, .slice A1_2 l1_2.length c1_2] 24 (0, 0)) (Cz.b BK184.out) hb)
        have n4_ := Aside0.mk (blk_below (g := gb203) (o := .cells #[.int .i64 0, .int .i64 0, .slice none 0 0, .int .i64 0] 35 (0, 0)) (Cz.b BK203.out) hb)
        have n5_ := Aside0.mk (below_step (Cz.w HB.out) hb)
        clear HO191 BK183 BK184 BK203 HB
        have HO191 := n0_
        have HO196 := n1_
        have BK183 := n2_
        have BK184 := n3_
        have BK203 := n4_
        have HB := n5_
        clear n0_ n1_ n2_ n3_ n4_ n5_
        (try clear hb)
        (try clear hb2)
        (try clear hk)
        (try clear hi)
        (try clear ho0)
        obtain ⟨Ao47, co47, eo47⟩ := Kd.R_slice HO191.out
        (first | subst eo47 | (injection eo47 with f1_ f2_ f3_; have f4_ := f1_.symm; have f5_ := f3_.symm; clear f1_ f2_ f3_; subst f4_; subst f5_))
        obtain ⟨Ao48, co48, eo48⟩ := Kd.R_slice HO196.out
        (first | subst eo48 | (injection eo48 with f1_ f2_ f3_; have f4_ := f1_.symm; have f5_ := f3_.symm; clear f1_ f2_ f3_; subst f4_; subst f5_))
        refine hK.out _ _ ⟨(blk_cell BK183.out 0).trans rfl, (blk_cell BK183.out 1).trans rfl, (blk_cell BK183.out 2).trans rfl, (blk_cell BK184.out 0).trans rfl, (blk_cell BK184.out 1).trans rfl, (blk_cell BK184.out 2).trans rfl⟩ (fun hHeld => ?_)
        clear hK K
        refine norm_ (a' := ?_) ?_ ?_
        rotate_left
        ·show Act.put _ (some 27) _ = _
         simp only [Act.put, List.setIfInBounds_toArray, List.set_cons_zero, List.set_cons_succ, i64_w, i32_w]
         rfl
        refine one_ (i := 4) (N := some 28) #[true, true, true, true, true, true, false] rfl rfl (by kernel_rfl) (by decide) (fun K hK => ?_)
        refine goes_ Try.func30 (by kernel_rfl) rfl #[.agg #[.int .i64 t187, .int .i64 t188, .slice Ao47 t189.length co47], .agg #[.int .i64 t192, .int .i64 t193, .slice Ao48 t194.length co48]] (by rfl) rfl rfl (by (try simp only [List.map_toArray, List.map_cons, List.map_nil]); first | done | rfl | (simp only [List.length_drop, List.length_take]; rfl)) ?_
        with_reducible refine (spec_MatrixMul.calls k t187 t188 _ _ t189 t192 t193 _ _ t194 t197 t198 t199 t202 _ ?side1 ?side2 ?side3 ?side4 A21.out).mono ?_
        (case side1 => repeat (first | exact (Kd.R_reads' HO191.out).2.2 | (with_reducible refine Kd.C_alloc ?_ _) | (with_reducible refine Kd.C_drewN ?_ _) | (with_reducible refine Kd.C_drew ?_)))
        (case side2 => exact (Kd.R_reads' HO191.out).2.1)
        (case side3 => repeat (first | exact (Kd.R_reads' HO196.out).2.2 | (with_reducible refine Kd.C_alloc ?_ _) | (with_reducible refine Kd.C_drewN ?_ _) | (with_reducible refine Kd.C_drew ?_)))
        (case side4 => exact (Kd.R_reads' HO196.out).2.1)
        rintro e w49 ⟨v200, rfl, ho0, hb⟩
        refine ⟨_, rfl, ?_⟩
        have n0_ := Aside0.mk (Kd.R_elder' (Cz.r HO191.out) (Kd.R_base ho0) hb)
        have n1_ := Aside0.mk (Kd.R_elder' (Cz.r HO196.out) (Kd.R_base ho0) hb)
        have n2_ := Aside0.mk (Kd.R_lower (Kd.R_new' (Kd.R_new' ho0 (Kd.R_lt (Cz.r HO191.out))) (Kd.R_lt (Cz.r HO196.out))) (below_size (Cz.w HB.out)))
        have n3_ := Aside0.mk (blk_below (g := gb183) (o := .cells #[.int .i64 a0_0, .int .i64 a0_1, .slice A0_2 l0_2.length c0_2] 24 (0, 0)) (Cz.b BK183.out) hb)
        have n4_ := Aside0.mk (blk_below (g := gb184) (o := .cells #[.int .i64 a1_0, .int .i64 a1_1, .slice A1_2 l1_2.length c1_2] 24 (0, 0)) (Cz.b BK184.out) hb)
        have n5_ := Aside0.mk (blk_below (g := gb203) (o := .cells #[.int .i64 0, .int .i64 0, .slice none 0 0, .int .i64 0] 35 (0, 0)) (Cz.b BK203.out) hb)
        have n6_ := Aside0.mk (below_step (Cz.w HB.out) hb)
        clear HO191 HO196 BK183 BK184 BK203 HB
        have HO191 := n0_
        have HO196 := n1_
        have HO201 := n2_
        have BK183 := n3_
        have BK184 := n4_
        have BK203 := n5_
        have HB := n6_
        clear n0_ n1_ n2_ n3_ n4_ n5_ n6_
        (try clear hb)
        (try clear hb2)
        (try clear hk)
        (try clear hi)
        (try clear ho0)
        refine hK.out _ _ ⟨(blk_cell BK183.out 0).trans rfl, (blk_cell BK183.out 1).trans rfl, (blk_cell BK183.out 2).trans rfl, (blk_cell BK184.out 0).trans rfl, (blk_cell BK184.out 1).trans rfl, (blk_cell BK184.out 2).trans rfl⟩ (fun hHeld => ?_)
        clear hK K
        refine norm_ (a' := ?_) ?_ ?_
        rotate_left
        ·show Act.put _ (some 28) _ = _
         simp only [Act.put, List.setIfInBounds_toArray, List.set_cons_zero, List.set_cons_succ, i64_w, i32_w]
         rfl
        exact norm_ (by simp only [putAll, Act.put, List.setIfInBounds_toArray, List.set_cons_zero, List.set_cons_succ]) (hCont (.slice Ao47 t189.length co47, .slice Ao48 t194.length co48, v200, gb203) _ ⟨hHeld, (Cz.m HO191.out), (Cz.m HO196.out), (Cz.m HO201.out), (Cz.b BK183.out), (Cz.b BK184.out), (Cz.b BK203.out), GW203.out, GE203.out, NB183_203.out, NB203_183.out, NB184_203.out, NB203_184.out, (Cz.w HB.out)⟩)
      rintro ⟨v190, v195, v200, gb203⟩ w50 ⟨hS_, h0_, h1_, h2_, h3_, h4_, h5_, h6_, h7_, h8_, h9_, h10_, h11_, h12_⟩
      have n0_ : Aside0 (Kd.R (Kd.int .i64) 2 w50 w.heap.size (fun k_ => some k_ ≠ (v195 : Value).ownBlock ∧ some k_ ≠ (v200 : Value).ownBlock) v190 t189) := ⟨h0_⟩
      have n1_ : Aside0 (Kd.R (Kd.int .i64) 2 w50 w.heap.size (fun k_ => some k_ ≠ (v190 : Value).ownBlock ∧ some k_ ≠ (v200 : Value).ownBlock) v195 t194) := ⟨h1_⟩
      have n2_ : Aside0 (Kd.R (Kd.int .i64) 2 w50 w.heap.size (fun k_ => some k_ ≠ (v190 : Value).ownBlock ∧ some k_ ≠ (v195 : Value).ownBlock) v200 t199) := ⟨h2_⟩
      have n3_ : Aside0 (w50.heap[gb183]? = some (.cells #[.int .i64 a0_0, .int .i64 a0_1, .slice A0_2 l0_2.length c0_2] 24 (0, 0))) := ⟨h3_⟩
      have n4_ : Aside0 (w50.heap[gb184]? = some (.cells #[.int .i64 a1_0, .int .i64 a1_1, .slice A1_2 l1_2.length c1_2] 24 (0, 0))) := ⟨h4_⟩
      have n5_ : Aside0 (w50.heap[gb203]? = some (.cells #[.int .i64 0, .int .i64 0, .slice none 0 0, .int .i64 0] 35 (0, 0))) := ⟨h5_⟩
      have n6_ : Aside0 (w.heap.size ≤ gb203) := ⟨h6_⟩
      have n7_ : Aside0 (w.heap.size ≤ gb203) := ⟨h7_⟩
      have n8_ : Aside0 (gb183 ≠ gb203) := ⟨h8_⟩
      have n9_ : Aside0 (gb203 ≠ gb183) := ⟨h9_⟩
      have n10_ : Aside0 (gb184 ≠ gb203) := ⟨h10_⟩
      have n11_ : Aside0 (gb203 ≠ gb184) := ⟨h11_⟩
      have n12_ : Aside0 (Below w.heap.size w w50) := ⟨h12_⟩
      clear BK183 BK184 HB
      clear h0_ h1_ h2_ h3_ h4_ h5_ h6_ h7_ h8_ h9_ h10_ h11_ h12_
      have HO191 := n0_
      have HO196 := n1_
      have HO201 := n2_
      have BK183 := n3_
      have BK184 := n4_
      have BK203 := n5_
      have GW203 := n6_
      have GE203 := n7_
      have NB183_203 := n8_
      have NB203_183 := n9_
      have NB184_203 := n10_
      have NB203_184 := n11_
      have HB := n12_
      clear n0_ n1_ n2_ n3_ n4_ n5_ n6_ n7_ n8_ n9_ n10_ n11_ n12_
      have hHeld : w50.cell? ⟨gb183, 0, none⟩ = some (.int .i64 a0_0) ∧ w50.cell? ⟨gb183, 1, none⟩ = some (.int .i64 a0_1) ∧ w50.cell? ⟨gb183, 2, none⟩ = some (.slice A0_2 l0_2.length c0_2) ∧ w50.cell? ⟨gb184, 0, none⟩ = some (.int .i64 a1_0) ∧ w50.cell? ⟨gb184, 1, none⟩ = some (.int .i64 a1_1) ∧ w50.cell? ⟨gb184, 2, none⟩ = some (.slice A1_2 l1_2.length c1_2) := hS_
      obtain ⟨Ao53, co53, eo53⟩ := Kd.R_slice HO201.out
      (first | subst eo53 | (injection eo53 with f1_ f2_ f3_; have f4_ := f1_.symm; have f5_ := f3_.symm; clear f1_ f2_ f3_; subst f4_; subst f5_))
      refine norm_ (a' := ?_) ?_ ?_
      rotate_left
      ·simp only [putAll, Act.put, List.setIfInBounds_toArray, List.set_cons_zero, List.set_cons_succ]
       rfl
      refine one_ (i := 6) (N := none) #[true, true, true, true, true, true, true] rfl rfl (by kernel_rfl) (by decide) (fun K hK => ?_)
      have hs51 : w50.cell? ⟨gb203, 0, none⟩ = some (.int .i64 0) := (blk_cell BK203.out 0).trans rfl
      have hfs51 := blk_frozen BK203.out 0
      have hns51_0 := NB183_203.out
      have hns51_1 := NB184_203.out
      have hms51_0 := NB203_183.out
      have hms51_1 := NB203_184.out
      have hs52 : w50.cell? ⟨gb203, 1, none⟩ = some (.int .i64 0) := (blk_cell BK203.out 1).trans rfl
      have hfs52 := blk_frozen BK203.out 1
      have hns52_0 := NB183_203.out
      have hns52_1 := NB184_203.out
      have hms52_0 := NB203_183.out
      have hms52_1 := NB203_184.out
      have hs54 : w50.cell? ⟨gb203, 2, none⟩ = some (.slice none 0 0) := (blk_cell BK203.out 2).trans rfl
      have hfs54 := blk_frozen BK203.out 2
      have hns54_0 := NB183_203.out
      have hns54_1 := NB184_203.out
      have hms54_0 := NB203_183.out
      have hms54_1 := NB203_184.out
      have hs55 : w50.cell? ⟨gb203, 3, none⟩ = some (.int .i64 0) := (blk_cell BK203.out 3).trans rfl
      have hfs55 := blk_frozen BK203.out 3
      have hns55_0 := NB183_203.out
      have hns55_1 := NB184_203.out
      have hms55_0 := NB203_183.out
      have hms55_1 := NB203_184.out
      refine skip_ (w1 := ?_) (by rfl) rfl ?_ ?_
      rotate_left
      ·go_simp
       rfl
      refine hK.out _ _ ⟨((cell_far (p := ⟨gb203, _, none⟩) NB183_203.out _).trans (((cell_far (p := ⟨gb203, _, none⟩) NB183_203.out _).trans (((cell_far (p := ⟨gb203, _, none⟩) NB183_203.out _).trans (((cell_far (p := ⟨gb203, _, none⟩) NB183_203.out _).trans (hHeld.1)))))))), ((cell_far (p := ⟨gb203, _, none⟩) NB183_203.out _).trans (((cell_far (p := ⟨gb203, _, none⟩) NB183_203.out _).trans (((cell_far (p := ⟨gb203, _, none⟩) NB183_203.out _).trans (((cell_far (p := ⟨gb203, _, none⟩) NB183_203.out _).trans (hHeld.2.1)))))))), ((cell_far (p := ⟨gb203, _, none⟩) NB183_203.out _).trans (((cell_far (p := ⟨gb203, _, none⟩) NB183_203.out _).trans (((cell_far (p := ⟨gb203, _, none⟩) NB183_203.out _).trans (((cell_far (p := ⟨gb203, _, none⟩) NB183_203.out _).trans (hHeld.2.2.1)))))))), ((cell_far (p := ⟨gb203, _, none⟩) NB184_203.out _).trans (((cell_far (p := ⟨gb203, _, none⟩) NB184_203.out _).trans (((cell_far (p := ⟨gb203, _, none⟩) NB184_203.out _).trans (((cell_far (p := ⟨gb203, _, none⟩) NB184_203.out _).trans (hHeld.2.2.2.1)))))))), ((cell_far (p := ⟨gb203, _, none⟩) NB184_203.out _).trans (((cell_far (p := ⟨gb203, _, none⟩) NB184_203.out _).trans (((cell_far (p := ⟨gb203, _, none⟩) NB184_203.out _).trans (((cell_far (p := ⟨gb203, _, none⟩) NB184_203.out _).trans (hHeld.2.2.2.2.1)))))))), ((cell_far (p := ⟨gb203, _, none⟩) NB184_203.out _).trans (((cell_far (p := ⟨gb203, _, none⟩) NB184_203.out _).trans (((cell_far (p := ⟨gb203, _, none⟩) NB184_203.out _).trans (((cell_far (p := ⟨gb203, _, none⟩) NB184_203.out _).trans (hHeld.2.2.2.2.2))))))))⟩ (fun hHeld => ?_)
      clear hK K
      refine done_ (by kernel_rfl) ?_
      have hnb56 := NB183_203.out
      have hnc56 := NB203_183.out
      have hcz57_0 : w50.cell? ⟨gb183, 0, none⟩ = some (.int .i64 a0_0) := (blk_cell BK183.out 0).trans rfl
      have hcz57_1 : w50.cell? ⟨gb183, 1, none⟩ = some (.int .i64 a0_1) := (blk_cell BK183.out 1).trans rfl
      have hcz57_2 : w50.cell? ⟨gb183, 2, none⟩ = some (.slice A0_2 l0_2.length c0_2) := (blk_cell BK183.out 2).trans rfl
      have hfz57_0 := blk_frozen BK183.out 0
      have hfz57_1 := blk_frozen BK183.out 1
      have hfz57_2 := blk_frozen BK183.out 2
      try go_wp2_with (first | ((with_reducible refine gate_callee (f := 17) rfl ?_); refine goesL_ (some 30) rfl rfl Try.func17 (by kernel_rfl) rfl #[.agg #[.int .i64 a0_0, .int .i64 a0_1, .slice A0_2 l0_2.length c0_2]] rfl (by (try simp only [List.map_toArray, List.map_cons, List.map_nil]); first | done | rfl | (simp only [List.length_drop, List.length_take]; rfl)) ?_; (with_reducible refine (laws_toMatrix.calls k a0_0 a0_1 _ _ l0_2 t204 t205 t206 _ ?side1 ?side2 A22.out).mono ?_); (case side1 => exact Kd.C_below HR0_2.out (Cz.w HB.out)); (case side2 => exact HC0_2.out); rintro e w58 ⟨v207, rfl, ho0, hb⟩; refine ⟨_, rfl, ?_⟩; have n0_ := Aside0.mk (Kd.R_elder' (Cz.q4 HO191.out BK203.out) (Kd.R_base ho0) hb); have n1_ := Aside0.mk (Kd.R_elder' (Cz.q4 HO196.out BK203.out) (Kd.R_base ho0) hb); have n2_ := Aside0.mk (Kd.R_elder' (Cz.q4 HO201.out BK203.out) (Kd.R_base ho0) hb); have n3_ := Aside0.mk (Kd.R_lower (Kd.R_new' (Kd.R_new' (Kd.R_new' ho0 (Kd.R_lt (Cz.q4 HO191.out BK203.out))) (Kd.R_lt (Cz.q4 HO196.out BK203.out))) (Kd.R_lt (Cz.q4 HO201.out BK203.out))) (below_size (Cz.w HB.out))); have n4_ := Aside0.mk (blk_below (g := gb183) (o := .cells #[.int .i64 a0_0, .int .i64 a0_1, .slice A0_2 l0_2.length c0_2] 24 (0, 0)) (Cz.f BK183.out NB183_203.out) hb); have n5_ := Aside0.mk (blk_below (g := gb184) (o := .cells #[.int .i64 a1_0, .int .i64 a1_1, .slice A1_2 l1_2.length c1_2] 24 (0, 0)) (Cz.f BK184.out NB184_203.out) hb); have n6_ := Aside0.mk (blk_below (g := gb203) (o := .cells #[.int .i64 t197, .int .i64 t198, .slice Ao53 t199.length co53, .int .i64 t202] 35 (0, 0)) (Cz.p4 BK203.out) hb); have n7_ := Aside0.mk (below_step (Cz.w HB.out) hb); clear HO191 HO196 HO201 BK183 BK184 BK203 HB; have HO191 := n0_; have HO196 := n1_; have HO201 := n2_; have HO208 := n3_; have BK183 := n4_; have BK184 := n5_; have BK203 := n6_; have HB := n7_; clear n0_ n1_ n2_ n3_ n4_ n5_ n6_ n7_; (try clear hb); (try clear hb2); (try clear hk); (try clear hi); (try clear ho0)) | ((with_reducible refine gate_dst (N := 7) rfl ?_); refine box_event ?hg (N := 7) ?hd (cs := #[.int .i64 0, .int .i64 0, .slice none 0 0]) (t := 27) ?hr ?_; (case hd => rfl); (case hg => rfl); (case hr => first | (go_simp; done) | (go_simp; rfl)); intro gb209 hg w59 hbox hb; have n0_ := Aside0.mk (Kd.R_below (Cz.r HO191.out) hb); have n1_ := Aside0.mk (Kd.R_below (Cz.r HO196.out) hb); have n2_ := Aside0.mk (Kd.R_below (Cz.r HO201.out) hb); have n3_ := Aside0.mk (Kd.R_below (Cz.r HO208.out) hb); have n4_ := Aside0.mk (blk_below (g := gb183) (o := .cells #[.int .i64 a0_0, .int .i64 a0_1, .slice A0_2 l0_2.length c0_2] 24 (0, 0)) (Cz.b BK183.out) hb); have n5_ := Aside0.mk (blk_below (g := gb184) (o := .cells #[.int .i64 a1_0, .int .i64 a1_1, .slice A1_2 l1_2.length c1_2] 24 (0, 0)) (Cz.b BK184.out) hb); have n6_ := Aside0.mk (blk_below (g := gb203) (o := .cells #[.int .i64 t197, .int .i64 t198, .slice Ao53 t199.length co53, .int .i64 t202] 35 (0, 0)) (Cz.b BK203.out) hb); have n7_ := Aside0.mk (below_step (Cz.w HB.out) hb); have n8_ := Aside0.mk (hbox); have n9_ := Aside0.mk ((by rw [hg]; exact (below_size (Cz.w HB.out)) : w.heap.size ≤ gb209)); have n10_ := Aside0.mk ((by rw [hg]; exact (below_size (Cz.w HB.out)) : w.heap.size ≤ gb209)); have n11_ := Aside0.mk ((by rw [hg]; exact Nat.ne_of_lt (blk_lt (g := gb183) (o := .cells #[.int .i64 a0_0, .int .i64 a0_1, .slice A0_2 l0_2.length c0_2] 24 (0, 0)) (Cz.b BK183.out)) : gb183 ≠ gb209)); have n12_ := Aside0.mk ((by rw [hg]; exact Nat.ne_of_gt (blk_lt (g := gb183) (o := .cells #[.int .i64 a0_0, .int .i64 a0_1, .slice A0_2 l0_2.length c0_2] 24 (0, 0)) (Cz.b BK183.out)) : gb209 ≠ gb183)); have n13_ := Aside0.mk ((by rw [hg]; exact Nat.ne_of_lt (blk_lt (g := gb184) (o := .cells #[.int .i64 a1_0, .int .i64 a1_1, .slice A1_2 l1_2.length c1_2] 24 (0, 0)) (Cz.b BK184.out)) : gb184 ≠ gb209)); have n14_ := Aside0.mk ((by rw [hg]; exact Nat.ne_of_gt (blk_lt (g := gb184) (o := .cells #[.int .i64 a1_0, .int .i64 a1_1, .slice A1_2 l1_2.length c1_2] 24 (0, 0)) (Cz.b BK184.out)) : gb209 ≠ gb184)); have n15_ := Aside0.mk ((by rw [hg]; exact Nat.ne_of_lt (blk_lt (g := gb203) (o := .cells #[.int .i64 t197, .int .i64 t198, .slice Ao53 t199.length co53, .int .i64 t202] 35 (0, 0)) (Cz.b BK203.out)) : gb203 ≠ gb209)); have n16_ := Aside0.mk ((by rw [hg]; exact Nat.ne_of_gt (blk_lt (g := gb203) (o := .cells #[.int .i64 t197, .int .i64 t198, .slice Ao53 t199.length co53, .int .i64 t202] 35 (0, 0)) (Cz.b BK203.out)) : gb209 ≠ gb203)); clear HO191 HO196 HO201 HO208 BK183 BK184 BK203 HB; have HO191 := n0_; have HO196 := n1_; have HO201 := n2_; have HO208 := n3_; have BK183 := n4_; have BK184 := n5_; have BK203 := n6_; have HB := n7_; have BK209 := n8_; have GW209 := n9_; have GE209 := n10_; have NB183_209 := n11_; have NB209_183 := n12_; have NB184_209 := n13_; have NB209_184 := n14_; have NB203_209 := n15_; have NB209_203 := n16_; clear n0_ n1_ n2_ n3_ n4_ n5_ n6_ n7_ n8_ n9_ n10_ n11_ n12_ n13_ n14_ n15_ n16_; clear hb hbox hg; have hnb60 := NB209_183.out; have hnc60 := NB183_209.out; have hnb61 := NB209_184.out; have hnc61 := NB184_209.out; have hnb62 := NB209_203.out; have hnc62 := NB203_209.out; have hcz63_0 : w59.cell? ⟨gb209, 0, none⟩ = some (.int .i64 0) := (blk_cell BK209.out 0).trans rfl; have hcz63_1 : w59.cell? ⟨gb209, 1, none⟩ = some (.int .i64 0) := (blk_cell BK209.out 1).trans rfl; have hcz63_2 : w59.cell? ⟨gb209, 2, none⟩ = some (.slice none 0 0) := (blk_cell BK209.out 2).trans rfl; have hfz63_0 := blk_frozen BK209.out 0; have hfz63_1 := blk_frozen BK209.out 1; have hfz63_2 := blk_frozen BK209.out 2; obtain ⟨Ao64, co64, eo64⟩ := Kd.R_slice HO208.out; subst eo64; have hnb65 := NB184_203.out; have hnc65 := NB203_184.out; have hcz66_0 : w59.cell? ⟨gb184, 0, none⟩ = some (.int .i64 a1_0) := (blk_cell BK184.out 0).trans rfl; have hcz66_1 : w59.cell? ⟨gb184, 1, none⟩ = some (.int .i64 a1_1) := (blk_cell BK184.out 1).trans rfl; have hcz66_2 : w59.cell? ⟨gb184, 2, none⟩ = some (.slice A1_2 l1_2.length c1_2) := (blk_cell BK184.out 2).trans rfl; have hfz66_0 := blk_frozen BK184.out 0; have hfz66_1 := blk_frozen BK184.out 1; have hfz66_2 := blk_frozen BK184.out 2) | ((with_reducible refine gate_callee (f := 17) rfl ?_); refine goesL_ (some 32) rfl rfl Try.func17 (by kernel_rfl) rfl #[.agg #[.int .i64 a1_0, .int .i64 a1_1, .slice A1_2 l1_2.length c1_2]] rfl (by (try simp only [List.map_toArray, List.map_cons, List.map_nil]); first | done | rfl | (simp only [List.length_drop, List.length_take]; rfl)) ?_; (with_reducible refine (laws_toMatrix.calls k a1_0 a1_1 _ _ l1_2 t210 t211 t212 _ ?side1 ?side2 A23.out).mono ?_); (case side1 => exact Kd.C_below HR1_2.out (Cz.w HB.out)); (case side2 => exact HC1_2.out); rintro e w67 ⟨v213, rfl, ho0, hb⟩; refine ⟨_, rfl, ?_⟩; have n0_ := Aside0.mk (Kd.R_elder' (Cz.q3 HO191.out BK209.out) (Kd.R_base ho0) hb); have n1_ := Aside0.mk (Kd.R_elder' (Cz.q3 HO196.out BK209.out) (Kd.R_base ho0) hb); have n2_ := Aside0.mk (Kd.R_elder' (Cz.q3 HO201.out BK209.out) (Kd.R_base ho0) hb); have n3_ := Aside0.mk (Kd.R_elder' (Cz.q3 HO208.out BK209.out) (Kd.R_base ho0) hb); have n4_ := Aside0.mk (Kd.R_lower (Kd.R_new' (Kd.R_new' (Kd.R_new' (Kd.R_new' ho0 (Kd.R_lt (Cz.q3 HO191.out BK209.out))) (Kd.R_lt (Cz.q3 HO196.out BK209.out))) (Kd.R_lt (Cz.q3 HO201.out BK209.out))) (Kd.R_lt (Cz.q3 HO208.out BK209.out))) (below_size (Cz.w HB.out))); have n5_ := Aside0.mk (blk_below (g := gb183) (o := .cells #[.int .i64 a0_0, .int .i64 a0_1, .slice A0_2 l0_2.length c0_2] 24 (0, 0)) (Cz.f BK183.out NB183_209.out) hb); have n6_ := Aside0.mk (blk_below (g := gb184) (o := .cells #[.int .i64 a1_0, .int .i64 a1_1, .slice A1_2 l1_2.length c1_2] 24 (0, 0)) (Cz.f BK184.out NB184_209.out) hb); have n7_ := Aside0.mk (blk_below (g := gb203) (o := .cells #[.int .i64 t197, .int .i64 t198, .slice Ao53 t199.length co53, .int .i64 t202] 35 (0, 0)) (Cz.f BK203.out NB203_209.out) hb); have n8_ := Aside0.mk (blk_below (g := gb209) (o := .cells #[.int .i64 t204, .int .i64 t205, .slice Ao64 t206.length co64] 27 (0, 0)) (Cz.p3 BK209.out) hb); have n9_ := Aside0.mk (below_step (Cz.w HB.out) hb); clear HO191 HO196 HO201 HO208 BK183 BK184 BK203 BK209 HB; have HO191 := n0_; have HO196 := n1_; have HO201 := n2_; have HO208 := n3_; have HO214 := n4_; have BK183 := n5_; have BK184 := n6_; have BK203 := n7_; have BK209 := n8_; have HB := n9_; clear n0_ n1_ n2_ n3_ n4_ n5_ n6_ n7_ n8_ n9_; (try clear hb); (try clear hb2); (try clear hk); (try clear hi); (try clear ho0)) | ((with_reducible refine gate_dst (N := 8) rfl ?_); refine box_event ?hg (N := 8) ?hd (cs := #[.int .i64 0, .int .i64 0, .slice none 0 0]) (t := 27) ?hr ?_; (case hd => rfl); (case hg => rfl); (case hr => first | (go_simp; done) | (go_simp; rfl)); intro gb215 hg w68 hbox hb; have n0_ := Aside0.mk (Kd.R_below (Cz.r HO191.out) hb); have n1_ := Aside0.mk (Kd.R_below (Cz.r HO196.out) hb); have n2_ := Aside0.mk (Kd.R_below (Cz.r HO201.out) hb); have n3_ := Aside0.mk (Kd.R_below (Cz.r HO208.out) hb); have n4_ := Aside0.mk (Kd.R_below (Cz.r HO214.out) hb); have n5_ := Aside0.mk (blk_below (g := gb183) (o := .cells #[.int .i64 a0_0, .int .i64 a0_1, .slice A0_2 l0_2.length c0_2] 24 (0, 0)) (Cz.b BK183.out) hb); have n6_ := Aside0.mk (blk_below (g := gb184) (o := .cells #[.int .i64 a1_0, .int .i64 a1_1, .slice A1_2 l1_2.length c1_2] 24 (0, 0)) (Cz.b BK184.out) hb); have n7_ := Aside0.mk (blk_below (g := gb203) (o := .cells #[.int .i64 t197, .int .i64 t198, .slice Ao53 t199.length co53, .int .i64 t202] 35 (0, 0)) (Cz.b BK203.out) hb); have n8_ := Aside0.mk (blk_below (g := gb209) (o := .cells #[.int .i64 t204, .int .i64 t205, .slice Ao64 t206.length co64] 27 (0, 0)) (Cz.b BK209.out) hb); have n9_ := Aside0.mk (below_step (Cz.w HB.out) hb); have n10_ := Aside0.mk (hbox); have n11_ := Aside0.mk ((by rw [hg]; exact (below_size (Cz.w HB.out)) : w.heap.size ≤ gb215)); have n12_ := Aside0.mk ((by rw [hg]; exact (below_size (Cz.w HB.out)) : w.heap.size ≤ gb215)); have n13_ := Aside0.mk ((by rw [hg]; exact Nat.ne_of_lt (blk_lt (g := gb183) (o := .cells #[.int .i64 a0_0, .int .i64 a0_1, .slice A0_2 l0_2.length c0_2] 24 (0, 0)) (Cz.b BK183.out)) : gb183 ≠ gb215)); have n14_ := Aside0.mk ((by rw [hg]; exact Nat.ne_of_gt (blk_lt (g := gb183) (o := .cells #[.int .i64 a0_0, .int .i64 a0_1, .slice A0_2 l0_2.length c0_2] 24 (0, 0)) (Cz.b BK183.out)) : gb215 ≠ gb183)); have n15_ := Aside0.mk ((by rw [hg]; exact Nat.ne_of_lt (blk_lt (g := gb184) (o := .cells #[.int .i64 a1_0, .int .i64 a1_1, .slice A1_2 l1_2.length c1_2] 24 (0, 0)) (Cz.b BK184.out)) : gb184 ≠ gb215)); have n16_ := Aside0.mk ((by rw [hg]; exact Nat.ne_of_gt (blk_lt (g := gb184) (o := .cells #[.int .i64 a1_0, .int .i64 a1_1, .slice A1_2 l1_2.length c1_2] 24 (0, 0)) (Cz.b BK184.out)) : gb215 ≠ gb184)); have n17_ := Aside0.mk ((by rw [hg]; exact Nat.ne_of_lt (blk_lt (g := gb203) (o := .cells #[.int .i64 t197, .int .i64 t198, .slice Ao53 t199.length co53, .int .i64 t202] 35 (0, 0)) (Cz.b BK203.out)) : gb203 ≠ gb215)); have n18_ := Aside0.mk ((by rw [hg]; exact Nat.ne_of_gt (blk_lt (g := gb203) (o := .cells #[.int .i64 t197, .int .i64 t198, .slice Ao53 t199.length co53, .int .i64 t202] 35 (0, 0)) (Cz.b BK203.out)) : gb215 ≠ gb203)); have n19_ := Aside0.mk ((by rw [hg]; exact Nat.ne_of_lt (blk_lt (g := gb209) (o := .cells #[.int .i64 t204, .int .i64 t205, .slice Ao64 t206.length co64] 27 (0, 0)) (Cz.b BK209.out)) : gb209 ≠ gb215)); have n20_ := Aside0.mk ((by rw [hg]; exact Nat.ne_of_gt (blk_lt (g := gb209) (o := .cells #[.int .i64 t204, .int .i64 t205, .slice Ao64 t206.length co64] 27 (0, 0)) (Cz.b BK209.out)) : gb215 ≠ gb209)); clear HO191 HO196 HO201 HO208 HO214 BK183 BK184 BK203 BK209 HB; have HO191 := n0_; have HO196 := n1_; have HO201 := n2_; have HO208 := n3_; have HO214 := n4_; have BK183 := n5_; have BK184 := n6_; have BK203 := n7_; have BK209 := n8_; have HB := n9_; have BK215 := n10_; have GW215 := n11_; have GE215 := n12_; have NB183_215 := n13_; have NB215_183 := n14_; have NB184_215 := n15_; have NB215_184 := n16_; have NB203_215 := n17_; have NB215_203 := n18_; have NB209_215 := n19_; have NB215_209 := n20_; clear n0_ n1_ n2_ n3_ n4_ n5_ n6_ n7_ n8_ n9_ n10_ n11_ n12_ n13_ n14_ n15_ n16_ n17_ n18_ n19_ n20_; clear hb hbox hg; have hnb69 := NB215_183.out; have hnc69 := NB183_215.out; have hnb70 := NB215_184.out; have hnc70 := NB184_215.out; have hnb71 := NB215_203.out; have hnc71 := NB203_215.out; have hnb72 := NB215_209.out; have hnc72 := NB209_215.out; have hcz73_0 : w68.cell? ⟨gb215, 0, none⟩ = some (.int .i64 0) := (blk_cell BK215.out 0).trans rfl; have hcz73_1 : w68.cell? ⟨gb215, 1, none⟩ = some (.int .i64 0) := (blk_cell BK215.out 1).trans rfl; have hcz73_2 : w68.cell? ⟨gb215, 2, none⟩ = some (.slice none 0 0) := (blk_cell BK215.out 2).trans rfl; have hfz73_0 := blk_frozen BK215.out 0; have hfz73_1 := blk_frozen BK215.out 1; have hfz73_2 := blk_frozen BK215.out 2; obtain ⟨Ao74, co74, eo74⟩ := Kd.R_slice HO214.out; subst eo74; have hcz75_0 : w68.cell? ⟨gb209, 0, none⟩ = some (.int .i64 t204) := (blk_cell BK209.out 0).trans rfl; have hcz75_1 : w68.cell? ⟨gb209, 1, none⟩ = some (.int .i64 t205) := (blk_cell BK209.out 1).trans rfl; have hcz75_2 : w68.cell? ⟨gb209, 2, none⟩ = some (.slice Ao64 t206.length co64) := (blk_cell BK209.out 2).trans rfl; have hfz75_0 := blk_frozen BK209.out 0; have hfz75_1 := blk_frozen BK209.out 1; have hfz75_2 := blk_frozen BK209.out 2) | ((with_reducible refine gate_callee (f := 31) rfl ?_); refine goesL_ (some 35) rfl rfl Try.func31 (by kernel_rfl) rfl #[.agg #[.int .i64 t204, .int .i64 t205, .slice Ao64 t206.length co64], .agg #[.int .i64 t210, .int .i64 t211, .slice Ao74 t212.length co74]] rfl (by (try simp only [List.map_toArray, List.map_cons, List.map_nil]); first | done | rfl | (simp only [List.length_drop, List.length_take]; rfl)) ?_; (with_reducible refine (impl_MatrixMul.calls k t204 t205 _ _ t206 t210 t211 _ _ t212 t216 t217 t218 t221 _ ?side1 ?side2 ?side3 ?side4 A24.out).mono ?_); (case side1 => refine (Kd.R_reads' (e := 2) (base := w.heap.size) (ok := fun k_ => ((((True ∧ some k_ ≠ (v190 : Value).ownBlock) ∧ some k_ ≠ (v195 : Value).ownBlock) ∧ some k_ ≠ (.slice Ao53 t199.length co53 : Value).ownBlock) ∧ some k_ ≠ (.slice Ao74 t212.length co74 : Value).ownBlock)) (n := t206.length) (c := co64) ?_).2.2; exact (Cz.q3 HO208.out BK215.out)); (case side2 => exact (Kd.R_reads' HO208.out).2.1); (case side3 => refine (Kd.R_reads' (e := 2) (base := w.heap.size) (ok := fun k_ => ((((True ∧ some k_ ≠ (v190 : Value).ownBlock) ∧ some k_ ≠ (v195 : Value).ownBlock) ∧ some k_ ≠ (.slice Ao53 t199.length co53 : Value).ownBlock) ∧ some k_ ≠ (.slice Ao64 t206.length co64 : Value).ownBlock)) (n := t212.length) (c := co74) ?_).2.2; exact (Cz.q3 HO214.out BK215.out)); (case side4 => exact (Kd.R_reads' HO214.out).2.1); rintro e w76 ⟨v219, rfl, ho0, hb⟩; refine ⟨_, rfl, ?_⟩; have n0_ := Aside0.mk (Kd.R_elder' (Cz.q3 HO191.out BK215.out) (Kd.R_base ho0) hb); have n1_ := Aside0.mk (Kd.R_elder' (Cz.q3 HO196.out BK215.out) (Kd.R_base ho0) hb); have n2_ := Aside0.mk (Kd.R_elder' (Cz.q3 HO201.out BK215.out) (Kd.R_base ho0) hb); have n3_ := Aside0.mk (Kd.R_elder' (Cz.q3 HO208.out BK215.out) (Kd.R_base ho0) hb); have n4_ := Aside0.mk (Kd.R_elder' (Cz.q3 HO214.out BK215.out) (Kd.R_base ho0) hb); have n5_ := Aside0.mk (Kd.R_lower (Kd.R_new' (Kd.R_new' (Kd.R_new' (Kd.R_new' (Kd.R_new' ho0 (Kd.R_lt (Cz.q3 HO191.out BK215.out))) (Kd.R_lt (Cz.q3 HO196.out BK215.out))) (Kd.R_lt (Cz.q3 HO201.out BK215.out))) (Kd.R_lt (Cz.q3 HO208.out BK215.out))) (Kd.R_lt (Cz.q3 HO214.out BK215.out))) (below_size (Cz.w HB.out))); have n6_ := Aside0.mk (blk_below (g := gb183) (o := .cells #[.int .i64 a0_0, .int .i64 a0_1, .slice A0_2 l0_2.length c0_2] 24 (0, 0)) (Cz.f BK183.out NB183_215.out) hb); have n7_ := Aside0.mk (blk_below (g := gb184) (o := .cells #[.int .i64 a1_0, .int .i64 a1_1, .slice A1_2 l1_2.length c1_2] 24 (0, 0)) (Cz.f BK184.out NB184_215.out) hb); have n8_ := Aside0.mk (blk_below (g := gb203) (o := .cells #[.int .i64 t197, .int .i64 t198, .slice Ao53 t199.length co53, .int .i64 t202] 35 (0, 0)) (Cz.f BK203.out NB203_215.out) hb); have n9_ := Aside0.mk (blk_below (g := gb209) (o := .cells #[.int .i64 t204, .int .i64 t205, .slice Ao64 t206.length co64] 27 (0, 0)) (Cz.f BK209.out NB209_215.out) hb); have n10_ := Aside0.mk (blk_below (g := gb215) (o := .cells #[.int .i64 t210, .int .i64 t211, .slice Ao74 t212.length co74] 27 (0, 0)) (Cz.p3 BK215.out) hb); have n11_ := Aside0.mk (below_step (Cz.w HB.out) hb); clear HO191 HO196 HO201 HO208 HO214 BK183 BK184 BK203 BK209 BK215 HB; have HO191 := n0_; have HO196 := n1_; have HO201 := n2_; have HO208 := n3_; have HO214 := n4_; have HO220 := n5_; have BK183 := n6_; have BK184 := n7_; have BK203 := n8_; have BK209 := n9_; have BK215 := n10_; have HB := n11_; clear n0_ n1_ n2_ n3_ n4_ n5_ n6_ n7_ n8_ n9_ n10_ n11_; (try clear hb); (try clear hb2); (try clear hk); (try clear hi); (try clear ho0)) | ((with_reducible refine gate_dst (N := 9) rfl ?_); refine box_event ?hg (N := 9) ?hd (cs := #[.int .i64 0, .int .i64 0, .slice none 0 0, .int .i64 0]) (t := 35) ?hr ?_; (case hd => rfl); (case hg => rfl); (case hr => first | (go_simp; done) | (go_simp; rfl)); intro gb222 hg w77 hbox hb; have n0_ := Aside0.mk (Kd.R_below (Cz.r HO191.out) hb); have n1_ := Aside0.mk (Kd.R_below (Cz.r HO196.out) hb); have n2_ := Aside0.mk (Kd.R_below (Cz.r HO201.out) hb); have n3_ := Aside0.mk (Kd.R_below (Cz.r HO208.out) hb); have n4_ := Aside0.mk (Kd.R_below (Cz.r HO214.out) hb); have n5_ := Aside0.mk (Kd.R_below (Cz.r HO220.out) hb); have n6_ := Aside0.mk (blk_below (g := gb183) (o := .cells #[.int .i64 a0_0, .int .i64 a0_1, .slice A0_2 l0_2.length c0_2] 24 (0, 0)) (Cz.b BK183.out) hb); have n7_ := Aside0.mk (blk_below (g := gb184) (o := .cells #[.int .i64 a1_0, .int .i64 a1_1, .slice A1_2 l1_2.length c1_2] 24 (0, 0)) (Cz.b BK184.out) hb); have n8_ := Aside0.mk (blk_below (g := gb203) (o := .cells #[.int .i64 t197, .int .i64 t198, .slice Ao53 t199.length co53, .int .i64 t202] 35 (0, 0)) (Cz.b BK203.out) hb); have n9_ := Aside0.mk (blk_below (g := gb209) (o := .cells #[.int .i64 t204, .int .i64 t205, .slice Ao64 t206.length co64] 27 (0, 0)) (Cz.b BK209.out) hb); have n10_ := Aside0.mk (blk_below (g := gb215) (o := .cells #[.int .i64 t210, .int .i64 t211, .slice Ao74 t212.length co74] 27 (0, 0)) (Cz.b BK215.out) hb); have n11_ := Aside0.mk (below_step (Cz.w HB.out) hb); have n12_ := Aside0.mk (hbox); have n13_ := Aside0.mk ((by rw [hg]; exact (below_size (Cz.w HB.out)) : w.heap.size ≤ gb222)); have n14_ := Aside0.mk ((by rw [hg]; exact (below_size (Cz.w HB.out)) : w.heap.size ≤ gb222)); have n15_ := Aside0.mk ((by rw [hg]; exact Nat.ne_of_lt (blk_lt (g := gb183) (o := .cells #[.int .i64 a0_0, .int .i64 a0_1, .slice A0_2 l0_2.length c0_2] 24 (0, 0)) (Cz.b BK183.out)) : gb183 ≠ gb222)); have n16_ := Aside0.mk ((by rw [hg]; exact Nat.ne_of_gt (blk_lt (g := gb183) (o := .cells #[.int .i64 a0_0, .int .i64 a0_1, .slice A0_2 l0_2.length c0_2] 24 (0, 0)) (Cz.b BK183.out)) : gb222 ≠ gb183)); have n17_ := Aside0.mk ((by rw [hg]; exact Nat.ne_of_lt (blk_lt (g := gb184) (o := .cells #[.int .i64 a1_0, .int .i64 a1_1, .slice A1_2 l1_2.length c1_2] 24 (0, 0)) (Cz.b BK184.out)) : gb184 ≠ gb222)); have n18_ := Aside0.mk ((by rw [hg]; exact Nat.ne_of_gt (blk_lt (g := gb184) (o := .cells #[.int .i64 a1_0, .int .i64 a1_1, .slice A1_2 l1_2.length c1_2] 24 (0, 0)) (Cz.b BK184.out)) : gb222 ≠ gb184)); have n19_ := Aside0.mk ((by rw [hg]; exact Nat.ne_of_lt (blk_lt (g := gb203) (o := .cells #[.int .i64 t197, .int .i64 t198, .slice Ao53 t199.length co53, .int .i64 t202] 35 (0, 0)) (Cz.b BK203.out)) : gb203 ≠ gb222)); have n20_ := Aside0.mk ((by rw [hg]; exact Nat.ne_of_gt (blk_lt (g := gb203) (o := .cells #[.int .i64 t197, .int .i64 t198, .slice Ao53 t199.length co53, .int .i64 t202] 35 (0, 0)) (Cz.b BK203.out)) : gb222 ≠ gb203)); have n21_ := Aside0.mk ((by rw [hg]; exact Nat.ne_of_lt (blk_lt (g := gb209) (o := .cells #[.int .i64 t204, .int .i64 t205, .slice Ao64 t206.length co64] 27 (0, 0)) (Cz.b BK209.out)) : gb209 ≠ gb222)); have n22_ := Aside0.mk ((by rw [hg]; exact Nat.ne_of_gt (blk_lt (g := gb209) (o := .cells #[.int .i64 t204, .int .i64 t205, .slice Ao64 t206.length co64] 27 (0, 0)) (Cz.b BK209.out)) : gb222 ≠ gb209)); have n23_ := Aside0.mk ((by rw [hg]; exact Nat.ne_of_lt (blk_lt (g := gb215) (o := .cells #[.int .i64 t210, .int .i64 t211, .slice Ao74 t212.length co74] 27 (0, 0)) (Cz.b BK215.out)) : gb215 ≠ gb222)); have n24_ := Aside0.mk ((by rw [hg]; exact Nat.ne_of_gt (blk_lt (g := gb215) (o := .cells #[.int .i64 t210, .int .i64 t211, .slice Ao74 t212.length co74] 27 (0, 0)) (Cz.b BK215.out)) : gb222 ≠ gb215)); clear HO191 HO196 HO201 HO208 HO214 HO220 BK183 BK184 BK203 BK209 BK215 HB; have HO191 := n0_; have HO196 := n1_; have HO201 := n2_; have HO208 := n3_; have HO214 := n4_; have HO220 := n5_; have BK183 := n6_; have BK184 := n7_; have BK203 := n8_; have BK209 := n9_; have BK215 := n10_; have HB := n11_; have BK222 := n12_; have GW222 := n13_; have GE222 := n14_; have NB183_222 := n15_; have NB222_183 := n16_; have NB184_222 := n17_; have NB222_184 := n18_; have NB203_222 := n19_; have NB222_203 := n20_; have NB209_222 := n21_; have NB222_209 := n22_; have NB215_222 := n23_; have NB222_215 := n24_; clear n0_ n1_ n2_ n3_ n4_ n5_ n6_ n7_ n8_ n9_ n10_ n11_ n12_ n13_ n14_ n15_ n16_ n17_ n18_ n19_ n20_ n21_ n22_ n23_ n24_; clear hb hbox hg; have hnb78 := NB222_183.out; have hnc78 := NB183_222.out; have hnb79 := NB222_184.out; have hnc79 := NB184_222.out; have hnb80 := NB222_203.out; have hnc80 := NB203_222.out; have hnb81 := NB222_209.out; have hnc81 := NB209_222.out; have hnb82 := NB222_215.out; have hnc82 := NB215_222.out; have hcz83_0 : w77.cell? ⟨gb222, 0, none⟩ = some (.int .i64 0) := (blk_cell BK222.out 0).trans rfl; have hcz83_1 : w77.cell? ⟨gb222, 1, none⟩ = some (.int .i64 0) := (blk_cell BK222.out 1).trans rfl; have hcz83_2 : w77.cell? ⟨gb222, 2, none⟩ = some (.slice none 0 0) := (blk_cell BK222.out 2).trans rfl; have hcz83_3 : w77.cell? ⟨gb222, 3, none⟩ = some (.int .i64 0) := (blk_cell BK222.out 3).trans rfl; have hfz83_0 := blk_frozen BK222.out 0; have hfz83_1 := blk_frozen BK222.out 1; have hfz83_2 := blk_frozen BK222.out 2; have hfz83_3 := blk_frozen BK222.out 3; obtain ⟨Ao84, co84, eo84⟩ := Kd.R_slice HO220.out; subst eo84; have hcz85_0 : w77.cell? ⟨gb203, 0, none⟩ = some (.int .i64 t197) := (blk_cell BK203.out 0).trans rfl; have hcz85_1 : w77.cell? ⟨gb203, 1, none⟩ = some (.int .i64 t198) := (blk_cell BK203.out 1).trans rfl; have hcz85_2 : w77.cell? ⟨gb203, 2, none⟩ = some (.slice Ao53 t199.length co53) := (blk_cell BK203.out 2).trans rfl; have hcz85_3 : w77.cell? ⟨gb203, 3, none⟩ = some (.int .i64 t202) := (blk_cell BK203.out 3).trans rfl; have hfz85_0 := blk_frozen BK203.out 0; have hfz85_1 := blk_frozen BK203.out 1; have hfz85_2 := blk_frozen BK203.out 2; have hfz85_3 := blk_frozen BK203.out 3) | ((with_reducible refine gate_callee (f := 32) rfl ?_); refine goesL_ (some 38) rfl rfl Try.func32 (by kernel_rfl) rfl #[.agg #[.int .i64 t216, .int .i64 t217, .slice Ao84 t218.length co84, .int .i64 t221], .agg #[.int .i64 t197, .int .i64 t198, .slice Ao53 t199.length co53, .int .i64 t202]] rfl (by (try simp only [List.map_toArray, List.map_cons, List.map_nil]); first | done | rfl | (simp only [List.length_drop, List.length_take]; rfl)) ?_; (with_reducible refine (laws_eqMatrixOut.calls k t216 t217 _ _ t218 t221 t197 t198 _ _ t199 t202 true _ ?side1 ?side2 ?side3 ?side4 A25.out).mono ?_); (case side1 => refine (Kd.R_reads' (e := 2) (base := w.heap.size) (ok := fun k_ => (((((True ∧ some k_ ≠ (v190 : Value).ownBlock) ∧ some k_ ≠ (v195 : Value).ownBlock) ∧ some k_ ≠ (.slice Ao53 t199.length co53 : Value).ownBlock) ∧ some k_ ≠ (.slice Ao64 t206.length co64 : Value).ownBlock) ∧ some k_ ≠ (.slice Ao74 t212.length co74 : Value).ownBlock)) (n := t218.length) (c := co84) ?_).2.2; exact (Cz.q4 HO220.out BK222.out)); (case side2 => exact (Kd.R_reads' HO220.out).2.1); (case side3 => refine (Kd.R_reads' (e := 2) (base := w.heap.size) (ok := fun k_ => ((((some k_ ≠ (v190 : Value).ownBlock ∧ some k_ ≠ (v195 : Value).ownBlock) ∧ some k_ ≠ (.slice Ao64 t206.length co64 : Value).ownBlock) ∧ some k_ ≠ (.slice Ao74 t212.length co74 : Value).ownBlock) ∧ some k_ ≠ (.slice Ao84 t218.length co84 : Value).ownBlock)) (n := t199.length) (c := co53) ?_).2.2; exact (Cz.q4 HO201.out BK222.out)); (case side4 => exact (Kd.R_reads' HO201.out).2.1); rintro e w86 ⟨rfl, hb⟩; refine ⟨_, rfl, ?_⟩; have n0_ := Aside0.mk (Kd.R_below (Cz.q4 HO191.out BK222.out) hb); have n1_ := Aside0.mk (Kd.R_below (Cz.q4 HO196.out BK222.out) hb); have n2_ := Aside0.mk (Kd.R_below (Cz.q4 HO201.out BK222.out) hb); have n3_ := Aside0.mk (Kd.R_below (Cz.q4 HO208.out BK222.out) hb); have n4_ := Aside0.mk (Kd.R_below (Cz.q4 HO214.out BK222.out) hb); have n5_ := Aside0.mk (Kd.R_below (Cz.q4 HO220.out BK222.out) hb); have n6_ := Aside0.mk (blk_below (g := gb183) (o := .cells #[.int .i64 a0_0, .int .i64 a0_1, .slice A0_2 l0_2.length c0_2] 24 (0, 0)) (Cz.f BK183.out NB183_222.out) hb); have n7_ := Aside0.mk (blk_below (g := gb184) (o := .cells #[.int .i64 a1_0, .int .i64 a1_1, .slice A1_2 l1_2.length c1_2] 24 (0, 0)) (Cz.f BK184.out NB184_222.out) hb); have n8_ := Aside0.mk (blk_below (g := gb203) (o := .cells #[.int .i64 t197, .int .i64 t198, .slice Ao53 t199.length co53, .int .i64 t202] 35 (0, 0)) (Cz.f BK203.out NB203_222.out) hb); have n9_ := Aside0.mk (blk_below (g := gb209) (o := .cells #[.int .i64 t204, .int .i64 t205, .slice Ao64 t206.length co64] 27 (0, 0)) (Cz.f BK209.out NB209_222.out) hb); have n10_ := Aside0.mk (blk_below (g := gb215) (o := .cells #[.int .i64 t210, .int .i64 t211, .slice Ao74 t212.length co74] 27 (0, 0)) (Cz.f BK215.out NB215_222.out) hb); have n11_ := Aside0.mk (blk_below (g := gb222) (o := .cells #[.int .i64 t216, .int .i64 t217, .slice Ao84 t218.length co84, .int .i64 t221] 35 (0, 0)) (Cz.p4 BK222.out) hb); have n12_ := Aside0.mk (below_step (Cz.w HB.out) hb); clear HO191 HO196 HO201 HO208 HO214 HO220 BK183 BK184 BK203 BK209 BK215 BK222 HB; have HO191 := n0_; have HO196 := n1_; have HO201 := n2_; have HO208 := n3_; have HO214 := n4_; have HO220 := n5_; have BK183 := n6_; have BK184 := n7_; have BK203 := n8_; have BK209 := n9_; have BK215 := n10_; have BK222 := n11_; have HB := n12_; clear n0_ n1_ n2_ n3_ n4_ n5_ n6_ n7_ n8_ n9_ n10_ n11_ n12_; (try clear hb); (try clear hb2); (try clear hk); (try clear hi)))
      have n0_ := Aside0.mk (Kd.R_drew HO191.out)
      have n1_ := Aside0.mk (Kd.R_drew HO196.out)
      have n2_ := Aside0.mk (Kd.R_drew HO201.out)
      have n3_ := Aside0.mk (Kd.R_drew HO208.out)
      have n4_ := Aside0.mk (Kd.R_drew HO214.out)
      have n5_ := Aside0.mk (Kd.R_drew HO220.out)
      have n6_ := Aside0.mk (blk_drew BK183.out)
      have n7_ := Aside0.mk (blk_drew BK184.out)
      have n8_ := Aside0.mk (blk_drew BK203.out)
      have n9_ := Aside0.mk (blk_drew BK209.out)
      have n10_ := Aside0.mk (blk_drew BK215.out)
      have n11_ := Aside0.mk (blk_drew BK222.out)
      have n12_ := Aside0.mk (below_drew1 HB.out)
      clear HO191 HO196 HO201 HO208 HO214 HO220 BK183 BK184 BK203 BK209 BK215 BK222 HB
      have HO191 := n0_
      have HO196 := n1_
      have HO201 := n2_
      have HO208 := n3_
      have HO214 := n4_
      have HO220 := n5_
      have BK183 := n6_
      have BK184 := n7_
      have BK203 := n8_
      have BK209 := n9_
      have BK215 := n10_
      have BK222 := n11_
      have HB := n12_
      clear n0_ n1_ n2_ n3_ n4_ n5_ n6_ n7_ n8_ n9_ n10_ n11_ n12_
      refine start_ (n := 5) (S := fun w' => w'.cell? ⟨gb209, 0, none⟩ = some (.int .i64 t204) ∧ w'.cell? ⟨gb209, 1, none⟩ = some (.int .i64 t205) ∧ w'.cell? ⟨gb209, 2, none⟩ = some (.slice Ao64 t206.length co64) ∧ w'.cell? ⟨gb183, 0, none⟩ = some (.int .i64 a0_0) ∧ w'.cell? ⟨gb183, 1, none⟩ = some (.int .i64 a0_1) ∧ w'.cell? ⟨gb183, 2, none⟩ = some (.slice A0_2 l0_2.length c0_2)) (ds := []) #[false, false, false, false, false] (by kernel_rfl) rfl rfl ⟨(blk_cell BK209.out 0).trans rfl, (blk_cell BK209.out 1).trans rfl, (blk_cell BK209.out 2).trans rfl, (blk_cell BK183.out 0).trans rfl, (blk_cell BK183.out 1).trans rfl, (blk_cell BK183.out 2).trans rfl⟩ (fun hHeld => ?_)
      generalize w86.drew = w87 at HO191 HO196 HO201 HO208 HO214 HO220 BK183 BK184 BK203 BK209 BK215 BK222 HB hHeld ⊢
      refine take_ (i := 0) (N := some 40) (v := ?_) (a' := ?_) #[true, false, false, false, false] rfl rfl (by kernel_rfl) (fun _ _ _ h => h) (Or.inl ⟨by rfl, ?_⟩) hHeld ?_ ?_
      rotate_left
      ·rintro w' ⟨s0, s1, s2, s3, s4, s5⟩
       go_simp
       with_reducible rfl
      rotate_left
      ·simp only [Act.put, List.setIfInBounds_toArray, List.set_cons_zero, List.set_cons_succ, i64_w, i32_w]
       rfl
      refine take_ (i := 1) (N := some 41) (v := ?_) (a' := ?_) #[true, true, false, false, false] rfl rfl (by kernel_rfl) (fun _ _ _ h => h) (Or.inl ⟨by rfl, ?_⟩) hHeld ?_ ?_
      rotate_left
      ·rintro w' ⟨s0, s1, s2, s3, s4, s5⟩
       go_simp
       with_reducible rfl
      rotate_left
      ·simp only [Act.put, List.setIfInBounds_toArray, List.set_cons_zero, List.set_cons_succ, i64_w, i32_w]
       rfl
      refine one_ (i := 2) (N := some 42) #[true, true, true, false, false] rfl rfl (by kernel_rfl) (by decide) (fun K hK => ?_)
      refine goes_ Try.func17 (by kernel_rfl) rfl #[.agg #[.int .i64 a0_0, .int .i64 a0_1, .slice A0_2 l0_2.length c0_2]] (by rfl) rfl rfl (by (try simp only [List.map_toArray, List.map_cons, List.map_nil]); first | done | rfl | (simp only [List.length_drop, List.length_take]; rfl)) ?_
      with_reducible refine (laws_toMatrix.calls k a0_0 a0_1 _ _ l0_2 t224 t225 t226 _ ?side1 ?side2 A27.out).mono ?_
      (case side1 => exact Cz.c HR0_2.out HB.out)
      (case side2 => exact HC0_2.out)
      rintro e w88 ⟨v227, rfl, ho0, hb⟩
      refine ⟨_, rfl, ?_⟩
      have n0_ := Aside0.mk (Kd.R_elder' (Cz.r HO191.out) (Kd.R_base ho0) hb)
      have n1_ := Aside0.mk (Kd.R_elder' (Cz.r HO196.out) (Kd.R_base ho0) hb)
      have n2_ := Aside0.mk (Kd.R_elder' (Cz.r HO201.out) (Kd.R_base ho0) hb)
      have n3_ := Aside0.mk (Kd.R_elder' (Cz.r HO208.out) (Kd.R_base ho0) hb)
      have n4_ := Aside0.mk (Kd.R_elder' (Cz.r HO214.out) (Kd.R_base ho0) hb)
      have n5_ := Aside0.mk (Kd.R_elder' (Cz.r HO220.out) (Kd.R_base ho0) hb)
      have n6_ := Aside0.mk (Kd.R_lower (Kd.R_new' (Kd.R_new' (Kd.R_new' (Kd.R_new' (Kd.R_new' (Kd.R_new' ho0 (Kd.R_lt (Cz.r HO191.out))) (Kd.R_lt (Cz.r HO196.out))) (Kd.R_lt (Cz.r HO201.out))) (Kd.R_lt (Cz.r HO208.out))) (Kd.R_lt (Cz.r HO214.out))) (Kd.R_lt (Cz.r HO220.out))) (below_size (Cz.w HB.out)))
      have n7_ := Aside0.mk (blk_below (g := gb183) (o := .cells #[.int .i64 a0_0, .int .i64 a0_1, .slice A0_2 l0_2.length c0_2] 24 (0, 0)) (Cz.b BK183.out) hb)
      have n8_ := Aside0.mk (blk_below (g := gb184) (o := .cells #[.int .i64 a1_0, .int .i64 a1_1, .slice A1_2 l1_2.length c1_2] 24 (0, 0)) (Cz.b BK184.out) hb)
      have n9_ := Aside0.mk (blk_below (g := gb203) (o := .cells #[.int .i64 t197, .int .i64 t198, .slice Ao53 t199.length co53, .int .i64 t202] 35 (0, 0)) (Cz.b BK203.out) hb)
      have n10_ := Aside0.mk (blk_below (g := gb209) (o := .cells #[.int .i64 t204, .int .i64 t205, .slice Ao64 t206.length co64] 27 (0, 0)) (Cz.b BK209.out) hb)
      have n11_ := Aside0.mk (blk_below (g := gb215) (o := .cells #[.int .i64 t210, .int .i64 t211, .slice Ao74 t212.length co74] 27 (0, 0)) (Cz.b BK215.out) hb)
      have n12_ := Aside0.mk (blk_below (g := gb222) (o := .cells #[.int .i64 t216, .int .i64 t217, .slice Ao84 t218.length co84, .int .i64 t221] 35 (0, 0)) (Cz.b BK222.out) hb)
      have n13_ := Aside0.mk (below_step (Cz.w HB.out) hb)
      clear HO191 HO196 HO201 HO208 HO214 HO220 BK183 BK184 BK203 BK209 BK215 BK222 HB
      have HO191 := n0_
      have HO196 := n1_
      have HO201 := n2_
      have HO208 := n3_
      have HO214 := n4_
      have HO220 := n5_
      have HO228 := n6_
      have BK183 := n7_
      have BK184 := n8_
      have BK203 := n9_
      have BK209 := n10_
      have BK215 := n11_
      have BK222 := n12_
      have HB := n13_
      clear n0_ n1_ n2_ n3_ n4_ n5_ n6_ n7_ n8_ n9_ n10_ n11_ n12_ n13_
      (try clear hb)
      (try clear hb2)
      (try clear hk)
      (try clear hi)
      (try clear ho0)
      obtain ⟨Ao89, co89, eo89⟩ := Kd.R_slice HO228.out
      (first | subst eo89 | (injection eo89 with f1_ f2_ f3_; have f4_ := f1_.symm; have f5_ := f3_.symm; clear f1_ f2_ f3_; subst f4_; subst f5_))
      refine hK.out _ _ ⟨(blk_cell BK209.out 0).trans rfl, (blk_cell BK209.out 1).trans rfl, (blk_cell BK209.out 2).trans rfl, (blk_cell BK183.out 0).trans rfl, (blk_cell BK183.out 1).trans rfl, (blk_cell BK183.out 2).trans rfl⟩ (fun hHeld => ?_)
      clear hK K
      refine norm_ (a' := ?_) ?_ ?_
      rotate_left
      ·show Act.put _ (some 42) _ = _
       simp only [Act.put, List.setIfInBounds_toArray, List.set_cons_zero, List.set_cons_succ, i64_w, i32_w]
       rfl
      refine one_ (i := 3) (N := some 43) #[true, true, true, true, false] rfl rfl (by kernel_rfl) (by decide) (fun K hK => ?_)
      refine goes_ Try.func19 (by kernel_rfl) rfl #[.agg #[.int .i64 t204, .int .i64 t205, .slice Ao64 t206.length co64], .agg #[.int .i64 t224, .int .i64 t225, .slice Ao89 t226.length co89]] (by rfl) rfl rfl (by (try simp only [List.map_toArray, List.map_cons, List.map_nil]); first | done | rfl | (simp only [List.length_drop, List.length_take]; rfl)) ?_
      with_reducible refine (laws_eqMatrix.calls k t204 t205 _ _ t206 t224 t225 _ _ t226 true _ ?side1 ?side2 ?side3 ?side4 A28.out).mono ?_
      (case side1 => repeat (first | exact (Kd.R_reads' HO208.out).2.2 | (with_reducible refine Kd.C_alloc ?_ _) | (with_reducible refine Kd.C_drewN ?_ _) | (with_reducible refine Kd.C_drew ?_)))
      (case side2 => exact (Kd.R_reads' HO208.out).2.1)
      (case side3 => repeat (first | exact (Kd.R_reads' HO228.out).2.2 | (with_reducible refine Kd.C_alloc ?_ _) | (with_reducible refine Kd.C_drewN ?_ _) | (with_reducible refine Kd.C_drew ?_)))
      (case side4 => exact (Kd.R_reads' HO228.out).2.1)
      rintro e w90 ⟨rfl, hb⟩
      refine ⟨_, rfl, ?_⟩
      have n0_ := Aside0.mk (Kd.R_below (Cz.r HO191.out) hb)
      have n1_ := Aside0.mk (Kd.R_below (Cz.r HO196.out) hb)
      have n2_ := Aside0.mk (Kd.R_below (Cz.r HO201.out) hb)
      have n3_ := Aside0.mk (Kd.R_below (Cz.r HO208.out) hb)
      have n4_ := Aside0.mk (Kd.R_below (Cz.r HO214.out) hb)
      have n5_ := Aside0.mk (Kd.R_below (Cz.r HO220.out) hb)
      have n6_ := Aside0.mk (Kd.R_below (Cz.r HO228.out) hb)
      have n7_ := Aside0.mk (blk_below (g := gb183) (o := .cells #[.int .i64 a0_0, .int .i64 a0_1, .slice A0_2 l0_2.length c0_2] 24 (0, 0)) (Cz.b BK183.out) hb)
      have n8_ := Aside0.mk (blk_below (g := gb184) (o := .cells #[.int .i64 a1_0, .int .i64 a1_1, .slice A1_2 l1_2.length c1_2] 24 (0, 0)) (Cz.b BK184.out) hb)
      have n9_ := Aside0.mk (blk_below (g := gb203) (o := .cells #[.int .i64 t197, .int .i64 t198, .slice Ao53 t199.length co53, .int .i64 t202] 35 (0, 0)) (Cz.b BK203.out) hb)
      have n10_ := Aside0.mk (blk_below (g := gb209) (o := .cells #[.int .i64 t204, .int .i64 t205, .slice Ao64 t206.length co64] 27 (0, 0)) (Cz.b BK209.out) hb)
      have n11_ := Aside0.mk (blk_below (g := gb215) (o := .cells #[.int .i64 t210, .int .i64 t211, .slice Ao74 t212.length co74] 27 (0, 0)) (Cz.b BK215.out) hb)
      have n12_ := Aside0.mk (blk_below (g := gb222) (o := .cells #[.int .i64 t216, .int .i64 t217, .slice Ao84 t218.length co84, .int .i64 t221] 35 (0, 0)) (Cz.b BK222.out) hb)
      have n13_ := Aside0.mk (below_step (Cz.w HB.out) hb)
      clear HO191 HO196 HO201 HO208 HO214 HO220 HO228 BK183 BK184 BK203 BK209 BK215 BK222 HB
      have HO191 := n0_
      have HO196 := n1_
      have HO201 := n2_
      have HO208 := n3_
      have HO214 := n4_
      have HO220 := n5_
      have HO228 := n6_
      have BK183 := n7_
      have BK184 := n8_
      have BK203 := n9_
      have BK209 := n10_
      have BK215 := n11_
      have BK222 := n12_
      have HB := n13_
      clear n0_ n1_ n2_ n3_ n4_ n5_ n6_ n7_ n8_ n9_ n10_ n11_ n12_ n13_
      (try clear hb)
      (try clear hb2)
      (try clear hk)
      (try clear hi)
      refine hK.out _ _ ⟨(blk_cell BK209.out 0).trans rfl, (blk_cell BK209.out 1).trans rfl, (blk_cell BK209.out 2).trans rfl, (blk_cell BK183.out 0).trans rfl, (blk_cell BK183.out 1).trans rfl, (blk_cell BK183.out 2).trans rfl⟩ (fun hHeld => ?_)
      clear hK K
      refine norm_ (a' := ?_) ?_ ?_
      rotate_left
      ·show Act.put _ (some 43) _ = _
       simp only [Act.put, List.setIfInBounds_toArray, List.set_cons_zero, List.set_cons_succ, i64_w, i32_w]
       rfl
      refine pure_ (i := 4) (N := some 44) (v := ?_) (a' := ?_) #[true, true, true, true, true] rfl rfl (by kernel_rfl) (fun _ _ _ h => h) (Or.inl ⟨by rfl, ?_⟩) ?_ ?_
      rotate_left
      ·intro w'
       go_simp
       with_reducible rfl
      rotate_left
      ·simp only [Act.put, List.setIfInBounds_toArray, List.set_cons_zero, List.set_cons_succ, i64_w, i32_w]
       rfl
      refine done_ (by kernel_rfl) ?_
      try go_wp2
      have n0_ := Aside0.mk (Kd.R_drew HO191.out)
      have n1_ := Aside0.mk (Kd.R_drew HO196.out)
      have n2_ := Aside0.mk (Kd.R_drew HO201.out)
      have n3_ := Aside0.mk (Kd.R_drew HO208.out)
      have n4_ := Aside0.mk (Kd.R_drew HO214.out)
      have n5_ := Aside0.mk (Kd.R_drew HO220.out)
      have n6_ := Aside0.mk (Kd.R_drew HO228.out)
      have n7_ := Aside0.mk (blk_drew BK183.out)
      have n8_ := Aside0.mk (blk_drew BK184.out)
      have n9_ := Aside0.mk (blk_drew BK203.out)
      have n10_ := Aside0.mk (blk_drew BK209.out)
      have n11_ := Aside0.mk (blk_drew BK215.out)
      have n12_ := Aside0.mk (blk_drew BK222.out)
      have n13_ := Aside0.mk (below_drew1 HB.out)
      clear HO191 HO196 HO201 HO208 HO214 HO220 HO228 BK183 BK184 BK203 BK209 BK215 BK222 HB
      have HO191 := n0_
      have HO196 := n1_
      have HO201 := n2_
      have HO208 := n3_
      have HO214 := n4_
      have HO220 := n5_
      have HO228 := n6_
      have BK183 := n7_
      have BK184 := n8_
      have BK203 := n9_
      have BK209 := n10_
      have BK215 := n11_
      have BK222 := n12_
      have HB := n13_
      clear n0_ n1_ n2_ n3_ n4_ n5_ n6_ n7_ n8_ n9_ n10_ n11_ n12_ n13_
      refine start_ (n := 5) (S := fun w' => w'.cell? ⟨gb215, 0, none⟩ = some (.int .i64 t210) ∧ w'.cell? ⟨gb215, 1, none⟩ = some (.int .i64 t211) ∧ w'.cell? ⟨gb215, 2, none⟩ = some (.slice Ao74 t212.length co74) ∧ w'.cell? ⟨gb184, 0, none⟩ = some (.int .i64 a1_0) ∧ w'.cell? ⟨gb184, 1, none⟩ = some (.int .i64 a1_1) ∧ w'.cell? ⟨gb184, 2, none⟩ = some (.slice A1_2 l1_2.length c1_2)) (ds := []) #[false, false, false, false, false] (by kernel_rfl) rfl rfl ⟨(blk_cell BK215.out 0).trans rfl, (blk_cell BK215.out 1).trans rfl, (blk_cell BK215.out 2).trans rfl, (blk_cell BK184.out 0).trans rfl, (blk_cell BK184.out 1).trans rfl, (blk_cell BK184.out 2).trans rfl⟩ (fun hHeld => ?_)
      generalize w90.drew = w91 at HO191 HO196 HO201 HO208 HO214 HO220 HO228 BK183 BK184 BK203 BK209 BK215 BK222 HB hHeld ⊢
      refine take_ (i := 0) (N := some 45) (v := ?_) (a' := ?_) #[true, false, false, false, false] rfl rfl (by kernel_rfl) (fun _ _ _ h => h) (Or.inl ⟨by rfl, ?_⟩) hHeld ?_ ?_
      rotate_left
      ·rintro w' ⟨s0, s1, s2, s3, s4, s5⟩
       go_simp
       with_reducible rfl
      rotate_left
      ·simp only [Act.put, List.setIfInBounds_toArray, List.set_cons_zero, List.set_cons_succ, i64_w, i32_w]
       rfl
      refine take_ (i := 1) (N := some 46) (v := ?_) (a' := ?_) #[true, true, false, false, false] rfl rfl (by kernel_rfl) (fun _ _ _ h => h) (Or.inl ⟨by rfl, ?_⟩) hHeld ?_ ?_
      rotate_left
      ·rintro w' ⟨s0, s1, s2, s3, s4, s5⟩
       go_simp
       with_reducible rfl
      rotate_left
      ·simp only [Act.put, List.setIfInBounds_toArray, List.set_cons_zero, List.set_cons_succ, i64_w, i32_w]
       rfl
      refine one_ (i := 2) (N := some 47) #[true, true, true, false, false] rfl rfl (by kernel_rfl) (by decide) (fun K hK => ?_)
      refine goes_ Try.func17 (by kernel_rfl) rfl #[.agg #[.int .i64 a1_0, .int .i64 a1_1, .slice A1_2 l1_2.length c1_2]] (by rfl) rfl rfl (by (try simp only [List.map_toArray, List.map_cons, List.map_nil]); first | done | rfl | (simp only [List.length_drop, List.length_take]; rfl)) ?_
      with_reducible refine (laws_toMatrix.calls k a1_0 a1_1 _ _ l1_2 t230 t231 t232 _ ?side1 ?side2 A30.out).mono ?_
      (case side1 => exact Cz.c HR1_2.out HB.out)
      (case side2 => exact HC1_2.out)
      rintro e w92 ⟨v233, rfl, ho0, hb⟩
      refine ⟨_, rfl, ?_⟩
      have n0_ := Aside0.mk (Kd.R_elder' (Cz.r HO191.out) (Kd.R_base ho0) hb)
      have n1_ := Aside0.mk (Kd.R_elder' (Cz.r HO196.out) (Kd.R_base ho0) hb)
      have n2_ := Aside0.mk (Kd.R_elder' (Cz.r HO201.out) (Kd.R_base ho0) hb)
      have n3_ := Aside0.mk (Kd.R_elder' (Cz.r HO208.out) (Kd.R_base ho0) hb)
      have n4_ := Aside0.mk (Kd.R_elder' (Cz.r HO214.out) (Kd.R_base ho0) hb)
      have n5_ := Aside0.mk (Kd.R_elder' (Cz.r HO220.out) (Kd.R_base ho0) hb)
      have n6_ := Aside0.mk (Kd.R_elder' (Cz.r HO228.out) (Kd.R_base ho0) hb)
      have n7_ := Aside0.mk (Kd.R_lower (Kd.R_new' (Kd.R_new' (Kd.R_new' (Kd.R_new' (Kd.R_new' (Kd.R_new' (Kd.R_new' ho0 (Kd.R_lt (Cz.r HO191.out))) (Kd.R_lt (Cz.r HO196.out))) (Kd.R_lt (Cz.r HO201.out))) (Kd.R_lt (Cz.r HO208.out))) (Kd.R_lt (Cz.r HO214.out))) (Kd.R_lt (Cz.r HO220.out))) (Kd.R_lt (Cz.r HO228.out))) (below_size (Cz.w HB.out)))
      have n8_ := Aside0.mk (blk_below (g := gb183) (o := .cells #[.int .i64 a0_0, .int .i64 a0_1, .slice A0_2 l0_2.length c0_2] 24 (0, 0)) (Cz.b BK183.out) hb)
      have n9_ := Aside0.mk (blk_below (g := gb184) (o := .cells #[.int .i64 a1_0, .int .i64 a1_1, .slice A1_2 l1_2.length c1_2] 24 (0, 0)) (Cz.b BK184.out) hb)
      have n10_ := Aside0.mk (blk_below (g := gb203) (o := .cells #[.int .i64 t197, .int .i64 t198, .slice Ao53 t199.length co53, .int .i64 t202] 35 (0, 0)) (Cz.b BK203.out) hb)
      have n11_ := Aside0.mk (blk_below (g := gb209) (o := .cells #[.int .i64 t204, .int .i64 t205, .slice Ao64 t206.length co64] 27 (0, 0)) (Cz.b BK209.out) hb)
      have n12_ := Aside0.mk (blk_below (g := gb215) (o := .cells #[.int .i64 t210, .int .i64 t211, .slice Ao74 t212.length co74] 27 (0, 0)) (Cz.b BK215.out) hb)
      have n13_ := Aside0.mk (blk_below (g := gb222) (o := .cells #[.int .i64 t216, .int .i64 t217, .slice Ao84 t218.length co84, .int .i64 t221] 35 (0, 0)) (Cz.b BK222.out) hb)
      have n14_ := Aside0.mk (below_step (Cz.w HB.out) hb)
      clear HO191 HO196 HO201 HO208 HO214 HO220 HO228 BK183 BK184 BK203 BK209 BK215 BK222 HB
      have HO191 := n0_
      have HO196 := n1_
      have HO201 := n2_
      have HO208 := n3_
      have HO214 := n4_
      have HO220 := n5_
      have HO228 := n6_
      have HO234 := n7_
      have BK183 := n8_
      have BK184 := n9_
      have BK203 := n10_
      have BK209 := n11_
      have BK215 := n12_
      have BK222 := n13_
      have HB := n14_
      clear n0_ n1_ n2_ n3_ n4_ n5_ n6_ n7_ n8_ n9_ n10_ n11_ n12_ n13_ n14_
      (try clear hb)
      (try clear hb2)
      (try clear hk)
      (try clear hi)
      (try clear ho0)
      obtain ⟨Ao93, co93, eo93⟩ := Kd.R_slice HO234.out
      (first | subst eo93 | (injection eo93 with f1_ f2_ f3_; have f4_ := f1_.symm; have f5_ := f3_.symm; clear f1_ f2_ f3_; subst f4_; subst f5_))
      refine hK.out _ _ ⟨(blk_cell BK215.out 0).trans rfl, (blk_cell BK215.out 1).trans rfl, (blk_cell BK215.out 2).trans rfl, (blk_cell BK184.out 0).trans rfl, (blk_cell BK184.out 1).trans rfl, (blk_cell BK184.out 2).trans rfl⟩ (fun hHeld => ?_)
      clear hK K
      refine norm_ (a' := ?_) ?_ ?_
      rotate_left
      ·show Act.put _ (some 47) _ = _
       simp only [Act.put, List.setIfInBounds_toArray, List.set_cons_zero, List.set_cons_succ, i64_w, i32_w]
       rfl
      refine one_ (i := 3) (N := some 48) #[true, true, true, true, false] rfl rfl (by kernel_rfl) (by decide) (fun K hK => ?_)
      refine goes_ Try.func19 (by kernel_rfl) rfl #[.agg #[.int .i64 t210, .int .i64 t211, .slice Ao74 t212.length co74], .agg #[.int .i64 t230, .int .i64 t231, .slice Ao93 t232.length co93]] (by rfl) rfl rfl (by (try simp only [List.map_toArray, List.map_cons, List.map_nil]); first | done | rfl | (simp only [List.length_drop, List.length_take]; rfl)) ?_
      with_reducible refine (laws_eqMatrix.calls k t210 t211 _ _ t212 t230 t231 _ _ t232 true _ ?side1 ?side2 ?side3 ?side4 A31.out).mono ?_
      (case side1 => repeat (first | exact (Kd.R_reads' HO214.out).2.2 | (with_reducible refine Kd.C_alloc ?_ _) | (with_reducible refine Kd.C_drewN ?_ _) | (with_reducible refine Kd.C_drew ?_)))
      (case side2 => exact (Kd.R_reads' HO214.out).2.1)
      (case side3 => repeat (first | exact (Kd.R_reads' HO234.out).2.2 | (with_reducible refine Kd.C_alloc ?_ _) | (with_reducible refine Kd.C_drewN ?_ _) | (with_reducible refine Kd.C_drew ?_)))
      (case side4 => exact (Kd.R_reads' HO234.out).2.1)
      rintro e w94 ⟨rfl, hb⟩
      refine ⟨_, rfl, ?_⟩
      have n0_ := Aside0.mk (Kd.R_below (Cz.r HO191.out) hb)
      have n1_ := Aside0.mk (Kd.R_below (Cz.r HO196.out) hb)
      have n2_ := Aside0.mk (Kd.R_below (Cz.r HO201.out) hb)
      have n3_ := Aside0.mk (Kd.R_below (Cz.r HO208.out) hb)
      have n4_ := Aside0.mk (Kd.R_below (Cz.r HO214.out) hb)
      have n5_ := Aside0.mk (Kd.R_below (Cz.r HO220.out) hb)
      have n6_ := Aside0.mk (Kd.R_below (Cz.r HO228.out) hb)
      have n7_ := Aside0.mk (Kd.R_below (Cz.r HO234.out) hb)
      have n8_ := Aside0.mk (blk_below (g := gb183) (o := .cells #[.int .i64 a0_0, .int .i64 a0_1, .slice A0_2 l0_2.length c0_2] 24 (0, 0)) (Cz.b BK183.out) hb)
      have n9_ := Aside0.mk (blk_below (g := gb184) (o := .cells #[.int .i64 a1_0, .int .i64 a1_1, .slice A1_2 l1_2.length c1_2] 24 (0, 0)) (Cz.b BK184.out) hb)
      have n10_ := Aside0.mk (blk_below (g := gb203) (o := .cells #[.int .i64 t197, .int .i64 t198, .slice Ao53 t199.length co53, .int .i64 t202] 35 (0, 0)) (Cz.b BK203.out) hb)
      have n11_ := Aside0.mk (blk_below (g := gb209) (o := .cells #[.int .i64 t204, .int .i64 t205, .slice Ao64 t206.length co64] 27 (0, 0)) (Cz.b BK209.out) hb)
      have n12_ := Aside0.mk (blk_below (g := gb215) (o := .cells #[.int .i64 t210, .int .i64 t211, .slice Ao74 t212.length co74] 27 (0, 0)) (Cz.b BK215.out) hb)
      have n13_ := Aside0.mk (blk_below (g := gb222) (o := .cells #[.int .i64 t216, .int .i64 t217, .slice Ao84 t218.length co84, .int .i64 t221] 35 (0, 0)) (Cz.b BK222.out) hb)
      have n14_ := Aside0.mk (below_step (Cz.w HB.out) hb)
      clear HO191 HO196 HO201 HO208 HO214 HO220 HO228 HO234 BK183 BK184 BK203 BK209 BK215 BK222 HB
      have HO191 := n0_
      have HO196 := n1_
      have HO201 := n2_
      have HO208 := n3_
      have HO214 := n4_
      have HO220 := n5_
      have HO228 := n6_
      have HO234 := n7_
      have BK183 := n8_
      have BK184 := n9_
      have BK203 := n10_
      have BK209 := n11_
      have BK215 := n12_
      have BK222 := n13_
      have HB := n14_
      clear n0_ n1_ n2_ n3_ n4_ n5_ n6_ n7_ n8_ n9_ n10_ n11_ n12_ n13_ n14_
      (try clear hb)
      (try clear hb2)
      (try clear hk)
      (try clear hi)
      refine hK.out _ _ ⟨(blk_cell BK215.out 0).trans rfl, (blk_cell BK215.out 1).trans rfl, (blk_cell BK215.out 2).trans rfl, (blk_cell BK184.out 0).trans rfl, (blk_cell BK184.out 1).trans rfl, (blk_cell BK184.out 2).trans rfl⟩ (fun hHeld => ?_)
      clear hK K
      refine norm_ (a' := ?_) ?_ ?_
      rotate_left
      ·show Act.put _ (some 48) _ = _
       simp only [Act.put, List.setIfInBounds_toArray, List.set_cons_zero, List.set_cons_succ, i64_w, i32_w]
       rfl
      refine pure_ (i := 4) (N := some 49) (v := ?_) (a' := ?_) #[true, true, true, true, true] rfl rfl (by kernel_rfl) (fun _ _ _ h => h) (Or.inl ⟨by rfl, ?_⟩) ?_ ?_
      rotate_left
      ·intro w'
       go_simp
       with_reducible rfl
      rotate_left
      ·simp only [Act.put, List.setIfInBounds_toArray, List.set_cons_zero, List.set_cons_succ, i64_w, i32_w]
       rfl
      refine done_ (by kernel_rfl) ?_
      have hcz95_0 : w94.cell? ⟨gb209, 0, none⟩ = some (.int .i64 t204) := (blk_cell BK209.out 0).trans rfl
      have hcz95_1 : w94.cell? ⟨gb209, 1, none⟩ = some (.int .i64 t205) := (blk_cell BK209.out 1).trans rfl
      have hcz95_2 : w94.cell? ⟨gb209, 2, none⟩ = some (.slice Ao64 t206.length co64) := (blk_cell BK209.out 2).trans rfl
      have hfz95_0 := blk_frozen BK209.out 0
      have hfz95_1 := blk_frozen BK209.out 1
      have hfz95_2 := blk_frozen BK209.out 2
      go_upto_region 21 with (first | ((with_reducible refine gate_callee (f := 33) rfl ?_); refine goesL_ (some 52) rfl rfl Try.func33 (by kernel_rfl) rfl #[.agg #[.int .i64 t204, .int .i64 t205, .slice Ao64 t206.length co64], .int .i64 1] rfl (by (try simp only [List.map_toArray, List.map_cons, List.map_nil]); first | done | rfl | (simp only [List.length_drop, List.length_take]; rfl)) ?_; (with_reducible refine (laws_markMatrix.calls k t204 t205 (fun k_ => some k_ = (.slice Ao64 t206.length co64 : Value).ownBlock) (.slice Ao64 t206.length co64) t206 1 t236 t237 w _ ?side1 ?side2 A33.out).mono ?_); (case side1 => repeat (first | (with_reducible first | exact HB.out | apply below_alloc | apply pw_below_drewN | apply below_drew1 | refine below_set ?_ GE183.out | refine below_set ?_ GE184.out | refine below_set ?_ GE203.out | refine below_set ?_ GE209.out | refine below_set ?_ GE215.out | refine below_set ?_ GE222.out) | exact HB.out)); (case side2 => exact Kd.R_tight rfl HO208.out); rintro e w96 ⟨rfl, hy0, hb, hkp⟩; refine ⟨_, rfl, ?_⟩; have n0_ := Aside0.mk (blk_kept (Cz.b BK183.out) hkp (fun hs_ => (fun e_ => (Kd.R_ne HO208.out BK183.out (by decide)) e_) hs_)); have n1_ := Aside0.mk (blk_kept (Cz.b BK184.out) hkp (fun hs_ => (fun e_ => (Kd.R_ne HO208.out BK184.out (by decide)) e_) hs_)); have n2_ := Aside0.mk (Kd.R_mono (ok' := fun k_ => some k_ ≠ (v195 : Value).ownBlock ∧ some k_ ≠ (.slice Ao53 t199.length co53 : Value).ownBlock ∧ some k_ ≠ (.slice Ao64 t206.length co64 : Value).ownBlock ∧ some k_ ≠ (.slice Ao74 t212.length co74 : Value).ownBlock ∧ some k_ ≠ (.slice Ao84 t218.length co84 : Value).ownBlock ∧ some k_ ≠ (.slice Ao89 t226.length co89 : Value).ownBlock ∧ some k_ ≠ (.slice Ao93 t232.length co93 : Value).ownBlock) (Kd.R_keptB (HO191.out) hkp (fun k_ hk_ hs_ => (hk_.1.1.1.1.2) hs_)) (fun k_ hk_ => ⟨hk_.1.1.1.1.1.1.1, hk_.1.1.1.1.1.1.2, hk_.1.1.1.1.1.2, hk_.1.1.1.1.2, hk_.1.1.1.2, hk_.1.1.2, hk_.1.2⟩)); have n3_ := Aside0.mk (Kd.R_mono (ok' := fun k_ => some k_ ≠ (v190 : Value).ownBlock ∧ some k_ ≠ (.slice Ao53 t199.length co53 : Value).ownBlock ∧ some k_ ≠ (.slice Ao64 t206.length co64 : Value).ownBlock ∧ some k_ ≠ (.slice Ao74 t212.length co74 : Value).ownBlock ∧ some k_ ≠ (.slice Ao84 t218.length co84 : Value).ownBlock ∧ some k_ ≠ (.slice Ao89 t226.length co89 : Value).ownBlock ∧ some k_ ≠ (.slice Ao93 t232.length co93 : Value).ownBlock) (Kd.R_keptB (HO196.out) hkp (fun k_ hk_ hs_ => (hk_.1.1.1.1.2) hs_)) (fun k_ hk_ => ⟨hk_.1.1.1.1.1.1.1, hk_.1.1.1.1.1.1.2, hk_.1.1.1.1.1.2, hk_.1.1.1.1.2, hk_.1.1.1.2, hk_.1.1.2, hk_.1.2⟩)); have n4_ := Aside0.mk (Kd.R_mono (ok' := fun k_ => some k_ ≠ (v190 : Value).ownBlock ∧ some k_ ≠ (v195 : Value).ownBlock ∧ some k_ ≠ (.slice Ao64 t206.length co64 : Value).ownBlock ∧ some k_ ≠ (.slice Ao74 t212.length co74 : Value).ownBlock ∧ some k_ ≠ (.slice Ao84 t218.length co84 : Value).ownBlock ∧ some k_ ≠ (.slice Ao89 t226.length co89 : Value).ownBlock ∧ some k_ ≠ (.slice Ao93 t232.length co93 : Value).ownBlock) (Kd.R_keptB (HO201.out) hkp (fun k_ hk_ hs_ => (hk_.1.1.1.1.2) hs_)) (fun k_ hk_ => ⟨hk_.1.1.1.1.1.1.1, hk_.1.1.1.1.1.1.2, hk_.1.1.1.1.1.2, hk_.1.1.1.1.2, hk_.1.1.1.2, hk_.1.1.2, hk_.1.2⟩)); have n5_ := Aside0.mk (blk_kept (Cz.b BK203.out) hkp (fun hs_ => (fun e_ => (Kd.R_ne HO208.out BK203.out (by decide)) e_) hs_)); have n6_ := Aside0.mk (Kd.R_reok rfl hy0 (fun k_ e_ => HO208.out.1 k_ e_)); have n7_ := Aside0.mk (blk_kept (Cz.b BK209.out) hkp (fun hs_ => (fun e_ => (Kd.R_ne HO208.out BK209.out (by decide)) e_) hs_)); have n8_ := Aside0.mk (Kd.R_mono (ok' := fun k_ => some k_ ≠ (v190 : Value).ownBlock ∧ some k_ ≠ (v195 : Value).ownBlock ∧ some k_ ≠ (.slice Ao53 t199.length co53 : Value).ownBlock ∧ some k_ ≠ (.slice Ao64 t206.length co64 : Value).ownBlock ∧ some k_ ≠ (.slice Ao84 t218.length co84 : Value).ownBlock ∧ some k_ ≠ (.slice Ao89 t226.length co89 : Value).ownBlock ∧ some k_ ≠ (.slice Ao93 t232.length co93 : Value).ownBlock) (Kd.R_keptB (HO214.out) hkp (fun k_ hk_ hs_ => (hk_.1.1.1.2) hs_)) (fun k_ hk_ => ⟨hk_.1.1.1.1.1.1.1.2, hk_.1.1.1.1.1.1.2, hk_.1.1.1.1.1.2, hk_.1.1.1.1.2, hk_.1.1.1.2, hk_.1.1.2, hk_.1.2⟩)); have n9_ := Aside0.mk (blk_kept (Cz.b BK215.out) hkp (fun hs_ => (fun e_ => (Kd.R_ne HO208.out BK215.out (by decide)) e_) hs_)); have n10_ := Aside0.mk (Kd.R_mono (ok' := fun k_ => some k_ ≠ (v190 : Value).ownBlock ∧ some k_ ≠ (v195 : Value).ownBlock ∧ some k_ ≠ (.slice Ao53 t199.length co53 : Value).ownBlock ∧ some k_ ≠ (.slice Ao64 t206.length co64 : Value).ownBlock ∧ some k_ ≠ (.slice Ao74 t212.length co74 : Value).ownBlock ∧ some k_ ≠ (.slice Ao89 t226.length co89 : Value).ownBlock ∧ some k_ ≠ (.slice Ao93 t232.length co93 : Value).ownBlock) (Kd.R_keptB (HO220.out) hkp (fun k_ hk_ hs_ => (hk_.1.1.1.2) hs_)) (fun k_ hk_ => ⟨hk_.1.1.1.1.1.1.1.2, hk_.1.1.1.1.1.1.2, hk_.1.1.1.1.1.2, hk_.1.1.1.1.2, hk_.1.1.1.2, hk_.1.1.2, hk_.1.2⟩)); have n11_ := Aside0.mk (blk_kept (Cz.b BK222.out) hkp (fun hs_ => (fun e_ => (Kd.R_ne HO208.out BK222.out (by decide)) e_) hs_)); have n12_ := Aside0.mk (Kd.R_mono (ok' := fun k_ => some k_ ≠ (v190 : Value).ownBlock ∧ some k_ ≠ (v195 : Value).ownBlock ∧ some k_ ≠ (.slice Ao53 t199.length co53 : Value).ownBlock ∧ some k_ ≠ (.slice Ao64 t206.length co64 : Value).ownBlock ∧ some k_ ≠ (.slice Ao74 t212.length co74 : Value).ownBlock ∧ some k_ ≠ (.slice Ao84 t218.length co84 : Value).ownBlock ∧ some k_ ≠ (.slice Ao93 t232.length co93 : Value).ownBlock) (Kd.R_keptB (HO228.out) hkp (fun k_ hk_ hs_ => (hk_.1.1.1.2) hs_)) (fun k_ hk_ => ⟨hk_.1.1.1.1.1.1.1.2, hk_.1.1.1.1.1.1.2, hk_.1.1.1.1.1.2, hk_.1.1.1.1.2, hk_.1.1.1.2, hk_.1.1.2, hk_.1.2⟩)); have n13_ := Aside0.mk (Kd.R_mono (ok' := fun k_ => some k_ ≠ (v190 : Value).ownBlock ∧ some k_ ≠ (v195 : Value).ownBlock ∧ some k_ ≠ (.slice Ao53 t199.length co53 : Value).ownBlock ∧ some k_ ≠ (.slice Ao64 t206.length co64 : Value).ownBlock ∧ some k_ ≠ (.slice Ao74 t212.length co74 : Value).ownBlock ∧ some k_ ≠ (.slice Ao84 t218.length co84 : Value).ownBlock ∧ some k_ ≠ (.slice Ao89 t226.length co89 : Value).ownBlock) (Kd.R_keptB (HO234.out) hkp (fun k_ hk_ hs_ => (hk_.1.1.1.2) hs_)) (fun k_ hk_ => ⟨hk_.1.1.1.1.1.1.1.2, hk_.1.1.1.1.1.1.2, hk_.1.1.1.1.1.2, hk_.1.1.1.1.2, hk_.1.1.1.2, hk_.1.1.2, hk_.1.2⟩)); have n14_ := Aside0.mk (hb); clear BK183 BK184 HO191 HO196 HO201 BK203 HO208 BK209 HO214 BK215 HO220 BK222 HO228 HO234 HB; have BK183 := n0_; have BK184 := n1_; have HO191 := n2_; have HO196 := n3_; have HO201 := n4_; have BK203 := n5_; have HO208 := n6_; have BK209 := n7_; have HO214 := n8_; have BK215 := n9_; have HO220 := n10_; have BK222 := n11_; have HO228 := n12_; have HO234 := n13_; have HB := n14_; clear n0_ n1_ n2_ n3_ n4_ n5_ n6_ n7_ n8_ n9_ n10_ n11_ n12_ n13_ n14_; (try clear hb); (try clear hkp); (try clear hy0); have hcz97_0 : w96.cell? ⟨gb215, 0, none⟩ = some (.int .i64 t210) := (blk_cell BK215.out 0).trans rfl; have hcz97_1 : w96.cell? ⟨gb215, 1, none⟩ = some (.int .i64 t211) := (blk_cell BK215.out 1).trans rfl; have hcz97_2 : w96.cell? ⟨gb215, 2, none⟩ = some (.slice Ao74 t212.length co74) := (blk_cell BK215.out 2).trans rfl; have hfz97_0 := blk_frozen BK215.out 0; have hfz97_1 := blk_frozen BK215.out 1; have hfz97_2 := blk_frozen BK215.out 2) | ((with_reducible refine gate_callee (f := 33) rfl ?_); refine goesL_ (some 55) rfl rfl Try.func33 (by kernel_rfl) rfl #[.agg #[.int .i64 t210, .int .i64 t211, .slice Ao74 t212.length co74], .int .i64 t236] rfl (by (try simp only [List.map_toArray, List.map_cons, List.map_nil]); first | done | rfl | (simp only [List.length_drop, List.length_take]; rfl)) ?_; (with_reducible refine (laws_markMatrix.calls k t210 t211 (fun k_ => some k_ = (.slice Ao74 t212.length co74 : Value).ownBlock) (.slice Ao74 t212.length co74) t212 t236 t238 t239 w _ ?side1 ?side2 A34.out).mono ?_); (case side1 => repeat (first | (with_reducible first | exact HB.out | apply below_alloc | apply pw_below_drewN | apply below_drew1 | refine below_set ?_ GE183.out | refine below_set ?_ GE184.out | refine below_set ?_ GE203.out | refine below_set ?_ GE209.out | refine below_set ?_ GE215.out | refine below_set ?_ GE222.out) | exact HB.out)); (case side2 => exact Kd.R_tight rfl HO214.out); rintro e w98 ⟨rfl, hy0, hb, hkp⟩; refine ⟨_, rfl, ?_⟩; have n0_ := Aside0.mk (blk_kept (Cz.b BK183.out) hkp (fun hs_ => (fun e_ => (Kd.R_ne HO214.out BK183.out (by decide)) e_) hs_)); have n1_ := Aside0.mk (blk_kept (Cz.b BK184.out) hkp (fun hs_ => (fun e_ => (Kd.R_ne HO214.out BK184.out (by decide)) e_) hs_)); have n2_ := Aside0.mk (Kd.R_mono (ok' := fun k_ => some k_ ≠ (v195 : Value).ownBlock ∧ some k_ ≠ (.slice Ao53 t199.length co53 : Value).ownBlock ∧ some k_ ≠ (.slice Ao64 t206.length co64 : Value).ownBlock ∧ some k_ ≠ (.slice Ao74 t212.length co74 : Value).ownBlock ∧ some k_ ≠ (.slice Ao84 t218.length co84 : Value).ownBlock ∧ some k_ ≠ (.slice Ao89 t226.length co89 : Value).ownBlock ∧ some k_ ≠ (.slice Ao93 t232.length co93 : Value).ownBlock) (Kd.R_keptB (HO191.out) hkp (fun k_ hk_ hs_ => (hk_.2.2.2.1) hs_)) (fun k_ hk_ => ⟨hk_.1.1, hk_.1.2.1, hk_.1.2.2.1, hk_.1.2.2.2.1, hk_.1.2.2.2.2.1, hk_.1.2.2.2.2.2.1, hk_.1.2.2.2.2.2.2⟩)); have n3_ := Aside0.mk (Kd.R_mono (ok' := fun k_ => some k_ ≠ (v190 : Value).ownBlock ∧ some k_ ≠ (.slice Ao53 t199.length co53 : Value).ownBlock ∧ some k_ ≠ (.slice Ao64 t206.length co64 : Value).ownBlock ∧ some k_ ≠ (.slice Ao74 t212.length co74 : Value).ownBlock ∧ some k_ ≠ (.slice Ao84 t218.length co84 : Value).ownBlock ∧ some k_ ≠ (.slice Ao89 t226.length co89 : Value).ownBlock ∧ some k_ ≠ (.slice Ao93 t232.length co93 : Value).ownBlock) (Kd.R_keptB (HO196.out) hkp (fun k_ hk_ hs_ => (hk_.2.2.2.1) hs_)) (fun k_ hk_ => ⟨hk_.1.1, hk_.1.2.1, hk_.1.2.2.1, hk_.1.2.2.2.1, hk_.1.2.2.2.2.1, hk_.1.2.2.2.2.2.1, hk_.1.2.2.2.2.2.2⟩)); have n4_ := Aside0.mk (Kd.R_mono (ok' := fun k_ => some k_ ≠ (v190 : Value).ownBlock ∧ some k_ ≠ (v195 : Value).ownBlock ∧ some k_ ≠ (.slice Ao64 t206.length co64 : Value).ownBlock ∧ some k_ ≠ (.slice Ao74 t212.length co74 : Value).ownBlock ∧ some k_ ≠ (.slice Ao84 t218.length co84 : Value).ownBlock ∧ some k_ ≠ (.slice Ao89 t226.length co89 : Value).ownBlock ∧ some k_ ≠ (.slice Ao93 t232.length co93 : Value).ownBlock) (Kd.R_keptB (HO201.out) hkp (fun k_ hk_ hs_ => (hk_.2.2.2.1) hs_)) (fun k_ hk_ => ⟨hk_.1.1, hk_.1.2.1, hk_.1.2.2.1, hk_.1.2.2.2.1, hk_.1.2.2.2.2.1, hk_.1.2.2.2.2.2.1, hk_.1.2.2.2.2.2.2⟩)); have n5_ := Aside0.mk (blk_kept (Cz.b BK203.out) hkp (fun hs_ => (fun e_ => (Kd.R_ne HO214.out BK203.out (by decide)) e_) hs_)); have n6_ := Aside0.mk (Kd.R_mono (ok' := fun k_ => some k_ ≠ (v190 : Value).ownBlock ∧ some k_ ≠ (v195 : Value).ownBlock ∧ some k_ ≠ (.slice Ao53 t199.length co53 : Value).ownBlock ∧ some k_ ≠ (.slice Ao74 t212.length co74 : Value).ownBlock ∧ some k_ ≠ (.slice Ao84 t218.length co84 : Value).ownBlock ∧ some k_ ≠ (.slice Ao89 t226.length co89 : Value).ownBlock ∧ some k_ ≠ (.slice Ao93 t232.length co93 : Value).ownBlock) (Kd.R_keptB (HO208.out) hkp (fun k_ hk_ hs_ => (hk_.1.1.1.2) hs_)) (fun k_ hk_ => ⟨hk_.1.1.1.1.1.1.1.2, hk_.1.1.1.1.1.1.2, hk_.1.1.1.1.1.2, hk_.1.1.1.1.2, hk_.1.1.1.2, hk_.1.1.2, hk_.1.2⟩)); have n7_ := Aside0.mk (blk_kept (Cz.b BK209.out) hkp (fun hs_ => (fun e_ => (Kd.R_ne HO214.out BK209.out (by decide)) e_) hs_)); have n8_ := Aside0.mk (Kd.R_reok rfl hy0 (fun k_ e_ => HO214.out.1 k_ e_)); have n9_ := Aside0.mk (blk_kept (Cz.b BK215.out) hkp (fun hs_ => (fun e_ => (Kd.R_ne HO214.out BK215.out (by decide)) e_) hs_)); have n10_ := Aside0.mk (Kd.R_mono (ok' := fun k_ => some k_ ≠ (v190 : Value).ownBlock ∧ some k_ ≠ (v195 : Value).ownBlock ∧ some k_ ≠ (.slice Ao53 t199.length co53 : Value).ownBlock ∧ some k_ ≠ (.slice Ao64 t206.length co64 : Value).ownBlock ∧ some k_ ≠ (.slice Ao74 t212.length co74 : Value).ownBlock ∧ some k_ ≠ (.slice Ao89 t226.length co89 : Value).ownBlock ∧ some k_ ≠ (.slice Ao93 t232.length co93 : Value).ownBlock) (Kd.R_keptB (HO220.out) hkp (fun k_ hk_ hs_ => (hk_.2.2.2.2.1) hs_)) (fun k_ hk_ => ⟨hk_.1.1, hk_.1.2.1, hk_.1.2.2.1, hk_.1.2.2.2.1, hk_.1.2.2.2.2.1, hk_.1.2.2.2.2.2.1, hk_.1.2.2.2.2.2.2⟩)); have n11_ := Aside0.mk (blk_kept (Cz.b BK222.out) hkp (fun hs_ => (fun e_ => (Kd.R_ne HO214.out BK222.out (by decide)) e_) hs_)); have n12_ := Aside0.mk (Kd.R_mono (ok' := fun k_ => some k_ ≠ (v190 : Value).ownBlock ∧ some k_ ≠ (v195 : Value).ownBlock ∧ some k_ ≠ (.slice Ao53 t199.length co53 : Value).ownBlock ∧ some k_ ≠ (.slice Ao64 t206.length co64 : Value).ownBlock ∧ some k_ ≠ (.slice Ao74 t212.length co74 : Value).ownBlock ∧ some k_ ≠ (.slice Ao84 t218.length co84 : Value).ownBlock ∧ some k_ ≠ (.slice Ao93 t232.length co93 : Value).ownBlock) (Kd.R_keptB (HO228.out) hkp (fun k_ hk_ hs_ => (hk_.2.2.2.2.1) hs_)) (fun k_ hk_ => ⟨hk_.1.1, hk_.1.2.1, hk_.1.2.2.1, hk_.1.2.2.2.1, hk_.1.2.2.2.2.1, hk_.1.2.2.2.2.2.1, hk_.1.2.2.2.2.2.2⟩)); have n13_ := Aside0.mk (Kd.R_mono (ok' := fun k_ => some k_ ≠ (v190 : Value).ownBlock ∧ some k_ ≠ (v195 : Value).ownBlock ∧ some k_ ≠ (.slice Ao53 t199.length co53 : Value).ownBlock ∧ some k_ ≠ (.slice Ao64 t206.length co64 : Value).ownBlock ∧ some k_ ≠ (.slice Ao74 t212.length co74 : Value).ownBlock ∧ some k_ ≠ (.slice Ao84 t218.length co84 : Value).ownBlock ∧ some k_ ≠ (.slice Ao89 t226.length co89 : Value).ownBlock) (Kd.R_keptB (HO234.out) hkp (fun k_ hk_ hs_ => (hk_.2.2.2.2.1) hs_)) (fun k_ hk_ => ⟨hk_.1.1, hk_.1.2.1, hk_.1.2.2.1, hk_.1.2.2.2.1, hk_.1.2.2.2.2.1, hk_.1.2.2.2.2.2.1, hk_.1.2.2.2.2.2.2⟩)); have n14_ := Aside0.mk (hb); clear BK183 BK184 HO191 HO196 HO201 BK203 HO208 BK209 HO214 BK215 HO220 BK222 HO228 HO234 HB; have BK183 := n0_; have BK184 := n1_; have HO191 := n2_; have HO196 := n3_; have HO201 := n4_; have BK203 := n5_; have HO208 := n6_; have BK209 := n7_; have HO214 := n8_; have BK215 := n9_; have HO220 := n10_; have BK222 := n11_; have HO228 := n12_; have HO234 := n13_; have HB := n14_; clear n0_ n1_ n2_ n3_ n4_ n5_ n6_ n7_ n8_ n9_ n10_ n11_ n12_ n13_ n14_; (try clear hb); (try clear hkp); (try clear hy0)))
      (try simp only [Act.put, List.setIfInBounds_toArray, List.set_cons_zero, List.set_cons_succ])
      go_cut [63] (fun v63 wc => ∃ (kq : Nat) (x63_34 : Bool), v63 = .bool x63_34 ∧ Aside0 (laws_FnExactMatrixMul.j0 kq x63_34 a0_0 a0_1 l0_2 a1_0 a1_1 l1_2 t197 t198 t199 t202 t216 t217 t218 t221 = some r) ∧ Aside0 (kq ≤ k) ∧ Aside0 (Kd.R (Kd.int .i64) 2 wc w.heap.size (fun k_ => some k_ ≠ ((.slice Ao64 t206.length co64) : Value).ownBlock ∧ some k_ ≠ ((.slice Ao74 t212.length co74) : Value).ownBlock ∧ some k_ ≠ ((.slice Ao84 t218.length co84) : Value).ownBlock) (.slice Ao53 t199.length co53) t199) ∧ Aside0 (Kd.R (Kd.int .i64) 2 wc w.heap.size (fun k_ => some k_ ≠ ((.slice Ao53 t199.length co53) : Value).ownBlock ∧ some k_ ≠ ((.slice Ao74 t212.length co74) : Value).ownBlock ∧ some k_ ≠ ((.slice Ao84 t218.length co84) : Value).ownBlock) (.slice Ao64 t206.length co64) t237) ∧ Aside0 (Kd.R (Kd.int .i64) 2 wc w.heap.size (fun k_ => some k_ ≠ ((.slice Ao53 t199.length co53) : Value).ownBlock ∧ some k_ ≠ ((.slice Ao64 t206.length co64) : Value).ownBlock ∧ some k_ ≠ ((.slice Ao84 t218.length co84) : Value).ownBlock) (.slice Ao74 t212.length co74) t239) ∧ Aside0 (Kd.R (Kd.int .i64) 2 wc w.heap.size (fun k_ => some k_ ≠ ((.slice Ao53 t199.length co53) : Value).ownBlock ∧ some k_ ≠ ((.slice Ao64 t206.length co64) : Value).ownBlock ∧ some k_ ≠ ((.slice Ao74 t212.length co74) : Value).ownBlock) (.slice Ao84 t218.length co84) t218) ∧ Aside0 (wc.heap[gb183]? = some (.cells #[.int .i64 a0_0, .int .i64 a0_1, (.slice A0_2 l0_2.length c0_2)] 24 (0, 0))) ∧ Aside0 (wc.heap[gb184]? = some (.cells #[.int .i64 a1_0, .int .i64 a1_1, (.slice A1_2 l1_2.length c1_2)] 24 (0, 0))) ∧ Aside0 (wc.heap[gb203]? = some (.cells #[.int .i64 t197, .int .i64 t198, (.slice Ao53 t199.length co53), .int .i64 t202] 35 (0, 0))) ∧ Aside0 (wc.heap[gb209]? = some (.cells #[.int .i64 t204, .int .i64 t205, (.slice Ao64 t206.length co64)] 27 (0, 0))) ∧ Aside0 (wc.heap[gb215]? = some (.cells #[.int .i64 t210, .int .i64 t211, (.slice Ao74 t212.length co74)] 27 (0, 0))) ∧ Aside0 (wc.heap[gb222]? = some (.cells #[.int .i64 t216, .int .i64 t217, (.slice Ao84 t218.length co84), .int .i64 t221] 35 (0, 0))) ∧ Aside0 (Below w.heap.size w wc))
      case first =>
       have H := HC35.out
       clear HC35
       by_cases c99 : t238 < 0
       ·rw [if_pos c99] at H
        have c99b0 : decide (t238 < 0) = true := decide_eq_true c99
        clear c99
        (first | rw [c99b0] | (simp only [i64_w, i32_w]; rw [c99b0]) | skip)
        have H' := Aside0.mk H
        clear H
        go_wp2
        go_meet
        case rel => exact ⟨_, (true), (by first | rfl | (simp; done) | (simp [*]; done)), H', ⟨by first | omega | exact Nat.le_refl _⟩, ⟨by (with_reducible repeat (first | apply Kd.R_alloc | apply Kd.R_drewN | apply Kd.R_drew)); exact Kd.R_mono HO201.out (fun _ hk => ⟨hk.2.2.1, ⟨hk.2.2.2.1, hk.2.2.2.2.1⟩⟩)⟩, ⟨by (with_reducible repeat (first | apply Kd.R_alloc | apply Kd.R_drewN | apply Kd.R_drew)); exact Kd.R_mono HO208.out (fun _ hk => ⟨hk.2.2.1, ⟨hk.2.2.2.1, hk.2.2.2.2.1⟩⟩)⟩, ⟨by (with_reducible repeat (first | apply Kd.R_alloc | apply Kd.R_drewN | apply Kd.R_drew)); exact Kd.R_mono HO214.out (fun _ hk => ⟨hk.2.2.1, ⟨hk.2.2.2.1, hk.2.2.2.2.1⟩⟩)⟩, ⟨by (with_reducible repeat (first | apply Kd.R_alloc | apply Kd.R_drewN | apply Kd.R_drew)); exact Kd.R_mono HO220.out (fun _ hk => ⟨hk.2.2.1, ⟨hk.2.2.2.1, hk.2.2.2.2.1⟩⟩)⟩, ⟨Cz.b BK183.out⟩, ⟨Cz.b BK184.out⟩, ⟨Cz.b BK203.out⟩, ⟨Cz.b BK209.out⟩, ⟨Cz.b BK215.out⟩, ⟨Cz.b BK222.out⟩, ⟨Cz.w HB.out⟩⟩
       ·rw [if_neg c99] at H
        have c99b0 : decide (t238 < 0) = false := decide_eq_false c99
        clear c99
        (first | rw [c99b0] | (simp only [i64_w, i32_w]; rw [c99b0]) | skip)
        replace H := Option.bind_eq_some_iff.mp H
        obtain ⟨t240, A1000, H⟩ := H
        replace H : (laws_FnExactMatrixMul.j0 k (!t240) a0_0 a0_1 l0_2 a1_0 a1_1 l1_2 t197 t198 t199 t202 t216 t217 t218 t221) = some r := H
        have A100 := Aside0.mk A1000
        clear A1000
        have H' := Aside0.mk H
        clear H
        have hnb101 := NB222_183.out
        have hnc101 := NB183_222.out
        have hnb102 := NB222_184.out
        have hnc102 := NB184_222.out
        have hnb103 := NB222_203.out
        have hnc103 := NB203_222.out
        have hnb104 := NB222_209.out
        have hnc104 := NB209_222.out
        have hnb105 := NB222_215.out
        have hnc105 := NB215_222.out
        have hcz106_0 : w98.cell? ⟨gb222, 0, none⟩ = some (.int .i64 t216) := (blk_cell BK222.out 0).trans rfl
        have hcz106_1 : w98.cell? ⟨gb222, 1, none⟩ = some (.int .i64 t217) := (blk_cell BK222.out 1).trans rfl
        have hcz106_2 : w98.cell? ⟨gb222, 2, none⟩ = some (.slice Ao84 t218.length co84) := (blk_cell BK222.out 2).trans rfl
        have hcz106_3 : w98.cell? ⟨gb222, 3, none⟩ = some (.int .i64 t221) := (blk_cell BK222.out 3).trans rfl
        have hfz106_0 := blk_frozen BK222.out 0
        have hfz106_1 := blk_frozen BK222.out 1
        have hfz106_2 := blk_frozen BK222.out 2
        have hfz106_3 := blk_frozen BK222.out 3
        have hnb107 := NB203_183.out
        have hnc107 := NB183_203.out
        have hnb108 := NB203_184.out
        have hnc108 := NB184_203.out
        have hnb109 := NB203_209.out
        have hnc109 := NB209_203.out
        have hnb110 := NB203_215.out
        have hnc110 := NB215_203.out
        have hcz111_0 : w98.cell? ⟨gb203, 0, none⟩ = some (.int .i64 t197) := (blk_cell BK203.out 0).trans rfl
        have hcz111_1 : w98.cell? ⟨gb203, 1, none⟩ = some (.int .i64 t198) := (blk_cell BK203.out 1).trans rfl
        have hcz111_2 : w98.cell? ⟨gb203, 2, none⟩ = some (.slice Ao53 t199.length co53) := (blk_cell BK203.out 2).trans rfl
        have hcz111_3 : w98.cell? ⟨gb203, 3, none⟩ = some (.int .i64 t202) := (blk_cell BK203.out 3).trans rfl
        have hfz111_0 := blk_frozen BK203.out 0
        have hfz111_1 := blk_frozen BK203.out 1
        have hfz111_2 := blk_frozen BK203.out 2
        have hfz111_3 := blk_frozen BK203.out 3
        go_wp2_with (first | (go_at_call 32; (with_reducible refine (laws_eqMatrixOut.calls k t216 t217 _ _ t218 t221 t197 t198 _ _ t199 t202 t240 _ ?side1 ?side2 ?side3 ?side4 A100.out).mono ?_); (case side1 => repeat (first | exact (Kd.R_reads' HO220.out).2.2 | (with_reducible refine Kd.C_alloc ?_ _) | (with_reducible refine Kd.C_drewN ?_ _) | (with_reducible refine Kd.C_drew ?_))); (case side2 => exact (Kd.R_reads' HO220.out).2.1); (case side3 => repeat (first | exact (Kd.R_reads' HO201.out).2.2 | (with_reducible refine Kd.C_alloc ?_ _) | (with_reducible refine Kd.C_drewN ?_ _) | (with_reducible refine Kd.C_drew ?_))); (case side4 => exact (Kd.R_reads' HO201.out).2.1); rintro e w112 ⟨rfl, hb⟩; have n0_ := Aside0.mk (Kd.R_below (Cz.r HO191.out) hb); have n1_ := Aside0.mk (Kd.R_below (Cz.r HO196.out) hb); have n2_ := Aside0.mk (Kd.R_below (Cz.r HO201.out) hb); have n3_ := Aside0.mk (Kd.R_below (Cz.r HO208.out) hb); have n4_ := Aside0.mk (Kd.R_below (Cz.r HO214.out) hb); have n5_ := Aside0.mk (Kd.R_below (Cz.r HO220.out) hb); have n6_ := Aside0.mk (Kd.R_below (Cz.r HO228.out) hb); have n7_ := Aside0.mk (Kd.R_below (Cz.r HO234.out) hb); have n8_ := Aside0.mk (blk_below (g := gb183) (o := .cells #[.int .i64 a0_0, .int .i64 a0_1, .slice A0_2 l0_2.length c0_2] 24 (0, 0)) (Cz.b BK183.out) hb); have n9_ := Aside0.mk (blk_below (g := gb184) (o := .cells #[.int .i64 a1_0, .int .i64 a1_1, .slice A1_2 l1_2.length c1_2] 24 (0, 0)) (Cz.b BK184.out) hb); have n10_ := Aside0.mk (blk_below (g := gb203) (o := .cells #[.int .i64 t197, .int .i64 t198, .slice Ao53 t199.length co53, .int .i64 t202] 35 (0, 0)) (Cz.b BK203.out) hb); have n11_ := Aside0.mk (blk_below (g := gb209) (o := .cells #[.int .i64 t204, .int .i64 t205, .slice Ao64 t206.length co64] 27 (0, 0)) (Cz.b BK209.out) hb); have n12_ := Aside0.mk (blk_below (g := gb215) (o := .cells #[.int .i64 t210, .int .i64 t211, .slice Ao74 t212.length co74] 27 (0, 0)) (Cz.b BK215.out) hb); have n13_ := Aside0.mk (blk_below (g := gb222) (o := .cells #[.int .i64 t216, .int .i64 t217, .slice Ao84 t218.length co84, .int .i64 t221] 35 (0, 0)) (Cz.b BK222.out) hb); have n14_ := Aside0.mk (below_step (Cz.w HB.out) hb); clear HO191 HO196 HO201 HO208 HO214 HO220 HO228 HO234 BK183 BK184 BK203 BK209 BK215 BK222 HB; have HO191 := n0_; have HO196 := n1_; have HO201 := n2_; have HO208 := n3_; have HO214 := n4_; have HO220 := n5_; have HO228 := n6_; have HO234 := n7_; have BK183 := n8_; have BK184 := n9_; have BK203 := n10_; have BK209 := n11_; have BK215 := n12_; have BK222 := n13_; have HB := n14_; clear n0_ n1_ n2_ n3_ n4_ n5_ n6_ n7_ n8_ n9_ n10_ n11_ n12_ n13_ n14_; (try clear hb); (try clear hb2); (try clear hk); (try clear hi)))
        go_meet
        case rel => exact ⟨_, (!t240), (by first | rfl | (simp; done) | (simp [*]; done)), H', ⟨by first | omega | exact Nat.le_refl _⟩, ⟨by (with_reducible repeat (first | apply Kd.R_alloc | apply Kd.R_drewN | apply Kd.R_drew)); exact Kd.R_mono HO201.out (fun _ hk => ⟨hk.2.2.1, ⟨hk.2.2.2.1, hk.2.2.2.2.1⟩⟩)⟩, ⟨by (with_reducible repeat (first | apply Kd.R_alloc | apply Kd.R_drewN | apply Kd.R_drew)); exact Kd.R_mono HO208.out (fun _ hk => ⟨hk.2.2.1, ⟨hk.2.2.2.1, hk.2.2.2.2.1⟩⟩)⟩, ⟨by (with_reducible repeat (first | apply Kd.R_alloc | apply Kd.R_drewN | apply Kd.R_drew)); exact Kd.R_mono HO214.out (fun _ hk => ⟨hk.2.2.1, ⟨hk.2.2.2.1, hk.2.2.2.2.1⟩⟩)⟩, ⟨by (with_reducible repeat (first | apply Kd.R_alloc | apply Kd.R_drewN | apply Kd.R_drew)); exact Kd.R_mono HO220.out (fun _ hk => ⟨hk.2.2.1, ⟨hk.2.2.2.1, hk.2.2.2.2.1⟩⟩)⟩, ⟨Cz.b BK183.out⟩, ⟨Cz.b BK184.out⟩, ⟨Cz.b BK203.out⟩, ⟨Cz.b BK209.out⟩, ⟨Cz.b BK215.out⟩, ⟨Cz.b BK222.out⟩, ⟨Cz.w HB.out⟩⟩
      case rest =>
       clear HC35
       try clear c1
       try clear p2
       try clear c3
       try clear c5
       try clear c6
       try clear c7
       try clear c8
       try clear c9
       try clear c10
       try clear c11
       try clear c17
       try clear c19
       try clear c30
       try clear c31
       try clear c32
       try clear c33
       try clear c56
       try clear c60
       try clear c61
       try clear c62
       try clear c65
       try clear c69
       try clear c70
       try clear c71
       try clear c72
       try clear c78
       try clear c79
       try clear c80
       try clear c81
       try clear c82
       try clear c99
       try clear c99b0
       try clear c101
       try clear c102
       try clear c103
       try clear c104
       try clear c105
       try clear c107
       try clear c108
       try clear c109
       try clear c110
       try clear hcz106_0
       try clear hcz106_1
       try clear hcz106_2
       try clear hcz106_3
       try clear hcz111_0
       try clear hcz111_1
       try clear hcz111_2
       try clear hcz111_3
       try clear hcz57_0
       try clear hcz57_1
       try clear hcz57_2
       try clear hcz63_0
       try clear hcz63_1
       try clear hcz63_2
       try clear hcz66_0
       try clear hcz66_1
       try clear hcz66_2
       try clear hcz73_0
       try clear hcz73_1
       try clear hcz73_2
       try clear hcz75_0
       try clear hcz75_1
       try clear hcz75_2
       try clear hcz83_0
       try clear hcz83_1
       try clear hcz83_2
       try clear hcz83_3
       try clear hcz85_0
       try clear hcz85_1
       try clear hcz85_2
       try clear hcz85_3
       try clear hcz95_0
       try clear hcz95_1
       try clear hcz95_2
       try clear hcz97_0
       try clear hcz97_1
       try clear hcz97_2
       try clear hfz106_0
       try clear hfz106_1
       try clear hfz106_2
       try clear hfz106_3
       try clear hfz111_0
       try clear hfz111_1
       try clear hfz111_2
       try clear hfz111_3
       try clear hfz57_0
       try clear hfz57_1
       try clear hfz57_2
       try clear hfz63_0
       try clear hfz63_1
       try clear hfz63_2
       try clear hfz66_0
       try clear hfz66_1
       try clear hfz66_2
       try clear hfz73_0
       try clear hfz73_1
       try clear hfz73_2
       try clear hfz75_0
       try clear hfz75_1
       try clear hfz75_2
       try clear hfz83_0
       try clear hfz83_1
       try clear hfz83_2
       try clear hfz83_3
       try clear hfz85_0
       try clear hfz85_1
       try clear hfz85_2
       try clear hfz85_3
       try clear hfz95_0
       try clear hfz95_1
       try clear hfz95_2
       try clear hfz97_0
       try clear hfz97_1
       try clear hfz97_2
       obtain ⟨kq, x63_34, rfl, HA, HJ34, HO_204002, HO_210002, HO_216002, HO_223002, BK183, BK184, BK203, BK209, BK215, BK222, HB⟩ := hcut
       have hl210002_34 := (Kd.R_reads' HO_210002.out).1
       rw [hl210002_34] at HO_210002
       (try simp only [hl210002_34])
       (try simp only [hl210002_34] at BK183)
       (try simp only [hl210002_34] at BK184)
       (try simp only [hl210002_34] at BK203)
       (try simp only [hl210002_34] at BK209)
       (try simp only [hl210002_34] at BK215)
       (try simp only [hl210002_34] at BK222)
       (try simp only [hl210002_34] at HO_204002)
       (try simp only [hl210002_34] at HO_216002)
       (try simp only [hl210002_34] at HO_223002)
       have hl216002_34 := (Kd.R_reads' HO_216002.out).1
       rw [hl216002_34] at HO_216002
       (try simp only [hl216002_34])
       (try simp only [hl216002_34] at BK183)
       (try simp only [hl216002_34] at BK184)
       (try simp only [hl216002_34] at BK203)
       (try simp only [hl216002_34] at BK209)
       (try simp only [hl216002_34] at BK215)
       (try simp only [hl216002_34] at BK222)
       (try simp only [hl216002_34] at HO_204002)
       (try simp only [hl216002_34] at HO_210002)
       (try simp only [hl216002_34] at HO_223002)
       cases kq with
       | zero => exact absurd HA.out (by simp [laws_FnExactMatrixMul.j0])
       | succ kj34 =>
        have H := HA.out
        clear HA
        simp only [laws_FnExactMatrixMul.j0] at H
        by_cases c113 : x63_34 = true
        ·subst c113
         have H1 : (none) = some r := by rw [if_pos rfl] at H; exact H
         clear H
         have H := H1
         clear H1
         exact absurd H (by simp)
        ·replace c113 := Bool.eq_false_iff.mpr c113
         subst c113
         have H1 : ((laws_markMatrixOut.f kj34 t216 t217 t218 t221 1).bind fun bt241 => ((laws_heldMatrixOut.f kj34 t216 t217 bt241.2 t221 1).bind fun t243 => (if t243 < 0 then (none) else (if t243 = bt241.1 then ((laws_toMatrix.f kj34 a0_0 a0_1 l0_2).bind fun bt244 => ((laws_toMatrix.f kj34 a1_0 a1_1 l1_2).bind fun bt249 => ((impl_MatrixMul.f kj34 bt244.1 bt244.2.1 bt244.2.2 bt249.1 bt249.2.1 bt249.2.2).bind fun bt254 => ((laws_eqMatrixOut.f kj34 bt254.1 bt254.2.1 bt254.2.2.1 bt254.2.2.2 t197 t198 t199 t202).bind fun t261 => (if t261 = true then ((laws_heldMatrixOut.f kj34 t216 t217 bt241.2 t221 1).bind fun t262 => (if t262 < 0 then (none) else (if t262 = bt241.1 then (some true) else (none)))) else (none)))))) else (none))))) = some r := by rw [if_neg (show ¬ (false = true) by decide)] at H; exact H
         clear H
         have H := H1
         clear H1
         replace H := Option.bind_eq_some_iff.mp H
         obtain ⟨⟨t241, t242⟩, A1140, H⟩ := H
         replace H : ((laws_heldMatrixOut.f kj34 t216 t217 t242 t221 1).bind fun t243 => (if t243 < 0 then (none) else (if t243 = t241 then ((laws_toMatrix.f kj34 a0_0 a0_1 l0_2).bind fun bt244 => ((laws_toMatrix.f kj34 a1_0 a1_1 l1_2).bind fun bt249 => ((impl_MatrixMul.f kj34 bt244.1 bt244.2.1 bt244.2.2 bt249.1 bt249.2.1 bt249.2.2).bind fun bt254 => ((laws_eqMatrixOut.f kj34 bt254.1 bt254.2.1 bt254.2.2.1 bt254.2.2.2 t197 t198 t199 t202).bind fun t261 => (if t261 = true then ((laws_heldMatrixOut.f kj34 t216 t217 t242 t221 1).bind fun t262 => (if t262 < 0 then (none) else (if t262 = t241 then (some true) else (none)))) else (none)))))) else (none)))) = some r := H
         have A114 := Aside0.mk A1140
         clear A1140
         replace H := Option.bind_eq_some_iff.mp H
         obtain ⟨t243, A1150, H⟩ := H
         replace H : (if t243 < 0 then (none) else (if t243 = t241 then ((laws_toMatrix.f kj34 a0_0 a0_1 l0_2).bind fun bt244 => ((laws_toMatrix.f kj34 a1_0 a1_1 l1_2).bind fun bt249 => ((impl_MatrixMul.f kj34 bt244.1 bt244.2.1 bt244.2.2 bt249.1 bt249.2.1 bt249.2.2).bind fun bt254 => ((laws_eqMatrixOut.f kj34 bt254.1 bt254.2.1 bt254.2.2.1 bt254.2.2.2 t197 t198 t199 t202).bind fun t261 => (if t261 = true then ((laws_heldMatrixOut.f kj34 t216 t217 t242 t221 1).bind fun t262 => (if t262 < 0 then (none) else (if t262 = t241 then (some true) else (none)))) else (none)))))) else (none))) = some r := H
         have A115 := Aside0.mk A1150
         clear A1150
         by_cases c116 : t243 < 0
         ·rw [if_pos c116] at H
          exact absurd H (by simp)
         ·rw [if_neg c116] at H
          have c116b0 : decide (t243 < 0) = false := decide_eq_false c116
          clear c116
          by_cases c117 : t243 = t241
          ·rw [if_pos c117] at H
           have c117b0 : (t243 == t241) = true := beq_iff_eq.mpr c117
           have c117b1 : (t243 != t241) = false := bne_eq_false_iff_eq.mpr c117
           clear c117
           replace H := Option.bind_eq_some_iff.mp H
           obtain ⟨⟨t244, t245, t246⟩, A1180, H⟩ := H
           replace H : ((laws_toMatrix.f kj34 a1_0 a1_1 l1_2).bind fun bt249 => ((impl_MatrixMul.f kj34 t244 t245 t246 bt249.1 bt249.2.1 bt249.2.2).bind fun bt254 => ((laws_eqMatrixOut.f kj34 bt254.1 bt254.2.1 bt254.2.2.1 bt254.2.2.2 t197 t198 t199 t202).bind fun t261 => (if t261 = true then ((laws_heldMatrixOut.f kj34 t216 t217 t242 t221 1).bind fun t262 => (if t262 < 0 then (none) else (if t262 = t241 then (some true) else (none)))) else (none))))) = some r := H
           have A118 := Aside0.mk A1180
           clear A1180
           replace H := Option.bind_eq_some_iff.mp H
           obtain ⟨⟨t249, t250, t251⟩, A1190, H⟩ := H
           replace H : ((impl_MatrixMul.f kj34 t244 t245 t246 t249 t250 t251).bind fun bt254 => ((laws_eqMatrixOut.f kj34 bt254.1 bt254.2.1 bt254.2.2.1 bt254.2.2.2 t197 t198 t199 t202).bind fun t261 => (if t261 = true then ((laws_heldMatrixOut.f kj34 t216 t217 t242 t221 1).bind fun t262 => (if t262 < 0 then (none) else (if t262 = t241 then (some true) else (none)))) else (none)))) = some r := H
           have A119 := Aside0.mk A1190
           clear A1190
           replace H := Option.bind_eq_some_iff.mp H
           obtain ⟨⟨t254, t255, t256, t259⟩, A1200, H⟩ := H
           replace H : ((laws_eqMatrixOut.f kj34 t254 t255 t256 t259 t197 t198 t199 t202).bind fun t261 => (if t261 = true then ((laws_heldMatrixOut.f kj34 t216 t217 t242 t221 1).bind fun t262 => (if t262 < 0 then (none) else (if t262 = t241 then (some true) else (none)))) else (none))) = some r := H
           have A120 := Aside0.mk A1200
           clear A1200
           replace H := Option.bind_eq_some_iff.mp H
           obtain ⟨t261, A1210, H⟩ := H
           replace H : (if t261 = true then ((laws_heldMatrixOut.f kj34 t216 t217 t242 t221 1).bind fun t262 => (if t262 < 0 then (none) else (if t262 = t241 then (some true) else (none)))) else (none)) = some r := H
           have A121 := Aside0.mk A1210
           clear A1210
           by_cases c122 : t261 = true
           ·subst c122
            have H1 : ((laws_heldMatrixOut.f kj34 t216 t217 t242 t221 1).bind fun t262 => (if t262 < 0 then (none) else (if t262 = t241 then (some true) else (none)))) = some r := by rw [if_pos rfl] at H; exact H
            clear H
            have H := H1
            clear H1
            replace H := Option.bind_eq_some_iff.mp H
            obtain ⟨t262, A1230, H⟩ := H
            replace H : (if t262 < 0 then (none) else (if t262 = t241 then (some true) else (none))) = some r := H
            have A123 := Aside0.mk A1230
            clear A1230
            by_cases c124 : t262 < 0
            ·rw [if_pos c124] at H
             exact absurd H (by simp)
            ·rw [if_neg c124] at H
             have c124b0 : decide (t262 < 0) = false := decide_eq_false c124
             clear c124
             by_cases c125 : t262 = t241
             ·rw [if_pos c125] at H
              have c125b0 : (t262 == t241) = true := beq_iff_eq.mpr c125
              have c125b1 : (t262 != t241) = false := bne_eq_false_iff_eq.mpr c125
              clear c125
              obtain rfl := Option.some.inj H
              have hnb126 := NB222_183.out
              have hnc126 := NB183_222.out
              have hnb127 := NB222_184.out
              have hnc127 := NB184_222.out
              have hnb128 := NB222_203.out
              have hnc128 := NB203_222.out
              have hnb129 := NB222_209.out
              have hnc129 := NB209_222.out
              have hnb130 := NB222_215.out
              have hnc130 := NB215_222.out
              have hcz131_0 : wc.cell? ⟨gb222, 0, none⟩ = some (.int .i64 t216) := (blk_cell BK222.out 0).trans rfl
              have hcz131_1 : wc.cell? ⟨gb222, 1, none⟩ = some (.int .i64 t217) := (blk_cell BK222.out 1).trans rfl
              have hcz131_2 : wc.cell? ⟨gb222, 2, none⟩ = some (.slice Ao84 t218.length co84) := (blk_cell BK222.out 2).trans rfl
              have hcz131_3 : wc.cell? ⟨gb222, 3, none⟩ = some (.int .i64 t221) := (blk_cell BK222.out 3).trans rfl
              have hfz131_0 := blk_frozen BK222.out 0
              have hfz131_1 := blk_frozen BK222.out 1
              have hfz131_2 := blk_frozen BK222.out 2
              have hfz131_3 := blk_frozen BK222.out 3
              try go_wp2_with (first | ((with_reducible refine gate_callee (f := 34) rfl ?_); refine goesL_ (some 66) rfl rfl Try.func34 (by kernel_rfl) rfl #[.agg #[.int .i64 t216, .int .i64 t217, .slice Ao84 t218.length co84, .int .i64 t221], .int .i64 1] rfl (by (try simp only [List.map_toArray, List.map_cons, List.map_nil]); first | done | rfl | (simp only [List.length_drop, List.length_take]; rfl)) ?_; (with_reducible refine (laws_markMatrixOut.calls kj34 t216 t217 (fun k_ => some k_ = (.slice Ao84 t218.length co84 : Value).ownBlock) (.slice Ao84 t218.length co84) t218 t221 1 t241 t242 w _ ?side1 ?side2 A114.out).mono ?_); (case side1 => repeat (first | (with_reducible first | exact HB.out | apply below_alloc | apply pw_below_drewN | apply below_drew1 | refine below_set ?_ GE183.out | refine below_set ?_ GE184.out | refine below_set ?_ GE203.out | refine below_set ?_ GE209.out | refine below_set ?_ GE215.out | refine below_set ?_ GE222.out) | exact HB.out)); (case side2 => exact Kd.R_tight rfl HO_223002.out); rintro e w132 ⟨rfl, hy0, hb, hkp⟩; refine ⟨_, rfl, ?_⟩; have n0_ := Aside0.mk (Kd.R_mono (ok' := fun k_ => some k_ ≠ (.slice Ao64 t237.length co64 : Value).ownBlock ∧ some k_ ≠ (.slice Ao74 t239.length co74 : Value).ownBlock ∧ some k_ ≠ (.slice Ao84 t218.length co84 : Value).ownBlock) (Kd.R_keptB (HO_204002.out) hkp (fun k_ hk_ hs_ => (hk_.2.2) hs_)) (fun k_ hk_ => ⟨hk_.1.1, hk_.1.2.1, hk_.1.2.2⟩)); have n1_ := Aside0.mk (Kd.R_mono (ok' := fun k_ => some k_ ≠ (.slice Ao53 t199.length co53 : Value).ownBlock ∧ some k_ ≠ (.slice Ao74 t239.length co74 : Value).ownBlock ∧ some k_ ≠ (.slice Ao84 t218.length co84 : Value).ownBlock) (Kd.R_keptB (HO_210002.out) hkp (fun k_ hk_ hs_ => (hk_.2.2) hs_)) (fun k_ hk_ => ⟨hk_.1.1, hk_.1.2.1, hk_.1.2.2⟩)); have n2_ := Aside0.mk (Kd.R_mono (ok' := fun k_ => some k_ ≠ (.slice Ao53 t199.length co53 : Value).ownBlock ∧ some k_ ≠ (.slice Ao64 t237.length co64 : Value).ownBlock ∧ some k_ ≠ (.slice Ao84 t218.length co84 : Value).ownBlock) (Kd.R_keptB (HO_216002.out) hkp (fun k_ hk_ hs_ => (hk_.2.2) hs_)) (fun k_ hk_ => ⟨hk_.1.1, hk_.1.2.1, hk_.1.2.2⟩)); have n3_ := Aside0.mk (Kd.R_reok rfl hy0 (fun k_ e_ => HO_223002.out.1 k_ e_)); have n4_ := Aside0.mk (blk_kept (Cz.b BK183.out) hkp (fun hs_ => (fun e_ => (Kd.R_ne HO_223002.out BK183.out (by decide)) e_) hs_)); have n5_ := Aside0.mk (blk_kept (Cz.b BK184.out) hkp (fun hs_ => (fun e_ => (Kd.R_ne HO_223002.out BK184.out (by decide)) e_) hs_)); have n6_ := Aside0.mk (blk_kept (Cz.b BK203.out) hkp (fun hs_ => (fun e_ => (Kd.R_ne HO_223002.out BK203.out (by decide)) e_) hs_)); have n7_ := Aside0.mk (blk_kept (Cz.b BK209.out) hkp (fun hs_ => (fun e_ => (Kd.R_ne HO_223002.out BK209.out (by decide)) e_) hs_)); have n8_ := Aside0.mk (blk_kept (Cz.b BK215.out) hkp (fun hs_ => (fun e_ => (Kd.R_ne HO_223002.out BK215.out (by decide)) e_) hs_)); have n9_ := Aside0.mk (blk_kept (Cz.b BK222.out) hkp (fun hs_ => (fun e_ => (Kd.R_ne HO_223002.out BK222.out (by decide)) e_) hs_)); have n10_ := Aside0.mk (hb); clear HO_204002 HO_210002 HO_216002 HO_223002 BK183 BK184 BK203 BK209 BK215 BK222 HB; have HO_204002 := n0_; have HO_210002 := n1_; have HO_216002 := n2_; have HO_223002 := n3_; have BK183 := n4_; have BK184 := n5_; have BK203 := n6_; have BK209 := n7_; have BK215 := n8_; have BK222 := n9_; have HB := n10_; clear n0_ n1_ n2_ n3_ n4_ n5_ n6_ n7_ n8_ n9_ n10_; (try clear hb); (try clear hkp); (try clear hy0); have hcz133_0 : w132.cell? ⟨gb222, 0, none⟩ = some (.int .i64 t216) := (blk_cell BK222.out 0).trans rfl; have hcz133_1 : w132.cell? ⟨gb222, 1, none⟩ = some (.int .i64 t217) := (blk_cell BK222.out 1).trans rfl; have hcz133_2 : w132.cell? ⟨gb222, 2, none⟩ = some (.slice Ao84 t218.length co84) := (blk_cell BK222.out 2).trans rfl; have hcz133_3 : w132.cell? ⟨gb222, 3, none⟩ = some (.int .i64 t221) := (blk_cell BK222.out 3).trans rfl; have hfz133_0 := blk_frozen BK222.out 0; have hfz133_1 := blk_frozen BK222.out 1; have hfz133_2 := blk_frozen BK222.out 2; have hfz133_3 := blk_frozen BK222.out 3) | ((with_reducible refine gate_callee (f := 35) rfl ?_); refine goesL_ (some 69) rfl rfl Try.func35 (by kernel_rfl) rfl #[.agg #[.int .i64 t216, .int .i64 t217, .slice Ao84 t242.length co84, .int .i64 t221], .int .i64 1] rfl (by (try simp only [List.map_toArray, List.map_cons, List.map_nil]); first | done | (rw [show t242.length = t218.length from (Kd.R_reads' HO_223002.out).1.symm] <;> rfl) | rfl | (simp only [List.length_drop, List.length_take]; rfl)) ?_; (with_reducible refine (laws_heldMatrixOut.calls kj34 t216 t217 _ _ t242 t221 1 t243 _ ?side1 ?side2 A115.out).mono ?_); (case side1 => repeat (first | exact (Kd.R_reads' HO_223002.out).2.2 | (with_reducible refine Kd.C_alloc ?_ _) | (with_reducible refine Kd.C_drewN ?_ _) | (with_reducible refine Kd.C_drew ?_))); (case side2 => rw [show t242.length = t218.length from (Kd.R_reads' HO_223002.out).1.symm]; exact (Kd.R_reads' HO_223002.out).2.1); rintro e w134 ⟨rfl, hb⟩; refine ⟨_, rfl, ?_⟩; have n0_ := Aside0.mk (Kd.R_below (Cz.r HO_204002.out) hb); have n1_ := Aside0.mk (Kd.R_below (Cz.r HO_210002.out) hb); have n2_ := Aside0.mk (Kd.R_below (Cz.r HO_216002.out) hb); have n3_ := Aside0.mk (Kd.R_below (Cz.r HO_223002.out) hb); have n4_ := Aside0.mk (blk_below (g := gb183) (o := .cells #[.int .i64 a0_0, .int .i64 a0_1, .slice A0_2 l0_2.length c0_2] 24 (0, 0)) (Cz.b BK183.out) hb); have n5_ := Aside0.mk (blk_below (g := gb184) (o := .cells #[.int .i64 a1_0, .int .i64 a1_1, .slice A1_2 l1_2.length c1_2] 24 (0, 0)) (Cz.b BK184.out) hb); have n6_ := Aside0.mk (blk_below (g := gb203) (o := .cells #[.int .i64 t197, .int .i64 t198, .slice Ao53 t199.length co53, .int .i64 t202] 35 (0, 0)) (Cz.b BK203.out) hb); have n7_ := Aside0.mk (blk_below (g := gb209) (o := .cells #[.int .i64 t204, .int .i64 t205, .slice Ao64 t237.length co64] 27 (0, 0)) (Cz.b BK209.out) hb); have n8_ := Aside0.mk (blk_below (g := gb215) (o := .cells #[.int .i64 t210, .int .i64 t211, .slice Ao74 t239.length co74] 27 (0, 0)) (Cz.b BK215.out) hb); have n9_ := Aside0.mk (blk_below (g := gb222) (o := .cells #[.int .i64 t216, .int .i64 t217, .slice Ao84 t218.length co84, .int .i64 t221] 35 (0, 0)) (Cz.b BK222.out) hb); have n10_ := Aside0.mk (below_step (Cz.w HB.out) hb); clear HO_204002 HO_210002 HO_216002 HO_223002 BK183 BK184 BK203 BK209 BK215 BK222 HB; have HO_204002 := n0_; have HO_210002 := n1_; have HO_216002 := n2_; have HO_223002 := n3_; have BK183 := n4_; have BK184 := n5_; have BK203 := n6_; have BK209 := n7_; have BK215 := n8_; have BK222 := n9_; have HB := n10_; clear n0_ n1_ n2_ n3_ n4_ n5_ n6_ n7_ n8_ n9_ n10_; (try clear hb); (try clear hb2); (try clear hk); (try clear hi)))
              have n0_ := Aside0.mk (Kd.R_drew HO_204002.out)
              have n1_ := Aside0.mk (Kd.R_drew HO_210002.out)
              have n2_ := Aside0.mk (Kd.R_drew HO_216002.out)
              have n3_ := Aside0.mk (Kd.R_drew HO_223002.out)
              have n4_ := Aside0.mk (blk_drew BK183.out)
              have n5_ := Aside0.mk (blk_drew BK184.out)
              have n6_ := Aside0.mk (blk_drew BK203.out)
              have n7_ := Aside0.mk (blk_drew BK209.out)
              have n8_ := Aside0.mk (blk_drew BK215.out)
              have n9_ := Aside0.mk (blk_drew BK222.out)
              have n10_ := Aside0.mk (below_drew1 HB.out)
              clear HO_204002 HO_210002 HO_216002 HO_223002 BK183 BK184 BK203 BK209 BK215 BK222 HB
              have HO_204002 := n0_
              have HO_210002 := n1_
              have HO_216002 := n2_
              have HO_223002 := n3_
              have BK183 := n4_
              have BK184 := n5_
              have BK203 := n6_
              have BK209 := n7_
              have BK215 := n8_
              have BK222 := n9_
              have HB := n10_
              clear n0_ n1_ n2_ n3_ n4_ n5_ n6_ n7_ n8_ n9_ n10_
              refine start_ (n := 7) (S := fun w' => w'.cell? ⟨gb183, 0, none⟩ = some (.int .i64 a0_0) ∧ w'.cell? ⟨gb183, 1, none⟩ = some (.int .i64 a0_1) ∧ w'.cell? ⟨gb183, 2, none⟩ = some (.slice A0_2 l0_2.length c0_2) ∧ w'.cell? ⟨gb184, 0, none⟩ = some (.int .i64 a1_0) ∧ w'.cell? ⟨gb184, 1, none⟩ = some (.int .i64 a1_1) ∧ w'.cell? ⟨gb184, 2, none⟩ = some (.slice A1_2 l1_2.length c1_2)) (ds := []) #[false, false, false, false, false, false, false] (by kernel_rfl) rfl rfl ⟨(blk_cell BK183.out 0).trans rfl, (blk_cell BK183.out 1).trans rfl, (blk_cell BK183.out 2).trans rfl, (blk_cell BK184.out 0).trans rfl, (blk_cell BK184.out 1).trans rfl, (blk_cell BK184.out 2).trans rfl⟩ (fun hHeld => ?_)
              generalize w134.drew = w135 at HO_204002 HO_210002 HO_216002 HO_223002 BK183 BK184 BK203 BK209 BK215 BK222 HB hHeld ⊢
              refine take_ (i := 0) (N := some 75) (v := ?_) (a' := ?_) #[true, false, false, false, false, false, false] rfl rfl (by kernel_rfl) (fun _ _ _ h => h) (Or.inl ⟨by rfl, ?_⟩) hHeld ?_ ?_
              rotate_left
              ·rintro w' ⟨s0, s1, s2, s3, s4, s5⟩
               go_simp
               with_reducible rfl
              rotate_left
              ·simp only [Act.put, List.setIfInBounds_toArray, List.set_cons_zero, List.set_cons_succ, i64_w, i32_w]
               rfl
              refine take_ (i := 2) (N := some 77) (v := ?_) (a' := ?_) #[true, false, true, false, false, false, false] rfl rfl (by kernel_rfl) (fun _ _ _ h => h) (Or.inl ⟨by rfl, ?_⟩) hHeld ?_ ?_
              rotate_left
              ·rintro w' ⟨s0, s1, s2, s3, s4, s5⟩
               go_simp
               with_reducible rfl
              rotate_left
              ·simp only [Act.put, List.setIfInBounds_toArray, List.set_cons_zero, List.set_cons_succ, i64_w, i32_w]
               rfl
              refine join_ (σ := Value × Value × Value × Nat) 1 #[true, true, true, true, true, true, false] (fun s_ => [(76, .agg #[.int .i64 t244, .int .i64 t245, s_.1]), (78, .agg #[.int .i64 t249, .int .i64 t250, s_.2.1]), (79, .agg #[.int .i64 t254, .int .i64 t255, s_.2.2.1, .int .i64 t259]), (13, .pointer (some ⟨s_.2.2.2, 0, none⟩))]) (fun s_ w' => (w'.cell? ⟨gb183, 0, none⟩ = some (.int .i64 a0_0) ∧ w'.cell? ⟨gb183, 1, none⟩ = some (.int .i64 a0_1) ∧ w'.cell? ⟨gb183, 2, none⟩ = some (.slice A0_2 l0_2.length c0_2) ∧ w'.cell? ⟨gb184, 0, none⟩ = some (.int .i64 a1_0) ∧ w'.cell? ⟨gb184, 1, none⟩ = some (.int .i64 a1_1) ∧ w'.cell? ⟨gb184, 2, none⟩ = some (.slice A1_2 l1_2.length c1_2)) ∧ (Kd.R (Kd.int .i64) 2 w' w.heap.size (fun k_ => some k_ ≠ (s_.2.1 : Value).ownBlock ∧ some k_ ≠ (s_.2.2.1 : Value).ownBlock ∧ some k_ ≠ (.slice Ao53 t199.length co53 : Value).ownBlock ∧ some k_ ≠ (.slice Ao64 t237.length co64 : Value).ownBlock ∧ some k_ ≠ (.slice Ao74 t239.length co74 : Value).ownBlock ∧ some k_ ≠ (.slice Ao84 t218.length co84 : Value).ownBlock) s_.1 t246) ∧ (Kd.R (Kd.int .i64) 2 w' w.heap.size (fun k_ => some k_ ≠ (s_.1 : Value).ownBlock ∧ some k_ ≠ (s_.2.2.1 : Value).ownBlock ∧ some k_ ≠ (.slice Ao53 t199.length co53 : Value).ownBlock ∧ some k_ ≠ (.slice Ao64 t237.length co64 : Value).ownBlock ∧ some k_ ≠ (.slice Ao74 t239.length co74 : Value).ownBlock ∧ some k_ ≠ (.slice Ao84 t218.length co84 : Value).ownBlock) s_.2.1 t251) ∧ (Kd.R (Kd.int .i64) 2 w' w.heap.size (fun k_ => some k_ ≠ (s_.1 : Value).ownBlock ∧ some k_ ≠ (s_.2.1 : Value).ownBlock ∧ some k_ ≠ (.slice Ao53 t199.length co53 : Value).ownBlock ∧ some k_ ≠ (.slice Ao64 t237.length co64 : Value).ownBlock ∧ some k_ ≠ (.slice Ao74 t239.length co74 : Value).ownBlock ∧ some k_ ≠ (.slice Ao84 t218.length co84 : Value).ownBlock) s_.2.2.1 t256) ∧ (Kd.R (Kd.int .i64) 2 w' w.heap.size (fun k_ => some k_ ≠ (s_.1 : Value).ownBlock ∧ some k_ ≠ (s_.2.1 : Value).ownBlock ∧ some k_ ≠ (s_.2.2.1 : Value).ownBlock ∧ some k_ ≠ (.slice Ao64 t237.length co64 : Value).ownBlock ∧ some k_ ≠ (.slice Ao74 t239.length co74 : Value).ownBlock ∧ some k_ ≠ (.slice Ao84 t218.length co84 : Value).ownBlock) (.slice Ao53 t199.length co53) t199) ∧ (Kd.R (Kd.int .i64) 2 w' w.heap.size (fun k_ => some k_ ≠ (s_.1 : Value).ownBlock ∧ some k_ ≠ (s_.2.1 : Value).ownBlock ∧ some k_ ≠ (s_.2.2.1 : Value).ownBlock ∧ some k_ ≠ (.slice Ao53 t199.length co53 : Value).ownBlock ∧ some k_ ≠ (.slice Ao74 t239.length co74 : Value).ownBlock ∧ some k_ ≠ (.slice Ao84 t218.length co84 : Value).ownBlock) (.slice Ao64 t237.length co64) t237) ∧ (Kd.R (Kd.int .i64) 2 w' w.heap.size (fun k_ => some k_ ≠ (s_.1 : Value).ownBlock ∧ some k_ ≠ (s_.2.1 : Value).ownBlock ∧ some k_ ≠ (s_.2.2.1 : Value).ownBlock ∧ some k_ ≠ (.slice Ao53 t199.length co53 : Value).ownBlock ∧ some k_ ≠ (.slice Ao64 t237.length co64 : Value).ownBlock ∧ some k_ ≠ (.slice Ao84 t218.length co84 : Value).ownBlock) (.slice Ao74 t239.length co74) t239) ∧ (Kd.R (Kd.int .i64) 2 w' w.heap.size (fun k_ => some k_ ≠ (s_.1 : Value).ownBlock ∧ some k_ ≠ (s_.2.1 : Value).ownBlock ∧ some k_ ≠ (s_.2.2.1 : Value).ownBlock ∧ some k_ ≠ (.slice Ao53 t199.length co53 : Value).ownBlock ∧ some k_ ≠ (.slice Ao64 t237.length co64 : Value).ownBlock ∧ some k_ ≠ (.slice Ao74 t239.length co74 : Value).ownBlock) (.slice Ao84 t218.length co84) t242) ∧ (w'.heap[gb183]? = some (.cells #[.int .i64 a0_0, .int .i64 a0_1, .slice A0_2 l0_2.length c0_2] 24 (0, 0))) ∧ (w'.heap[gb184]? = some (.cells #[.int .i64 a1_0, .int .i64 a1_1, .slice A1_2 l1_2.length c1_2] 24 (0, 0))) ∧ (w'.heap[gb203]? = some (.cells #[.int .i64 t197, .int .i64 t198, .slice Ao53 t199.length co53, .int .i64 t202] 35 (0, 0))) ∧ (w'.heap[gb209]? = some (.cells #[.int .i64 t204, .int .i64 t205, .slice Ao64 t237.length co64] 27 (0, 0))) ∧ (w'.heap[gb215]? = some (.cells #[.int .i64 t210, .int .i64 t211, .slice Ao74 t239.length co74] 27 (0, 0))) ∧ (w'.heap[gb222]? = some (.cells #[.int .i64 t216, .int .i64 t217, .slice Ao84 t218.length co84, .int .i64 t221] 35 (0, 0))) ∧ (w'.heap[s_.2.2.2]? = some (.cells #[.int .i64 0, .int .i64 0, .slice none 0 0, .int .i64 0] 35 (0, 0))) ∧ (w.heap.size ≤ s_.2.2.2) ∧ (w.heap.size ≤ s_.2.2.2) ∧ (gb183 ≠ s_.2.2.2) ∧ (s_.2.2.2 ≠ gb183) ∧ (gb184 ≠ s_.2.2.2) ∧ (s_.2.2.2 ≠ gb184) ∧ (gb203 ≠ s_.2.2.2) ∧ (s_.2.2.2 ≠ gb203) ∧ (gb209 ≠ s_.2.2.2) ∧ (s_.2.2.2 ≠ gb209) ∧ (gb215 ≠ s_.2.2.2) ∧ (s_.2.2.2 ≠ gb215) ∧ (gb222 ≠ s_.2.2.2) ∧ (s_.2.2.2 ≠ gb222) ∧ (Below w.heap.size w w')) ?_ ?_
              rotate_left
              ·intro hCont
               refine two_ (i := 1) (j := 5) (Ni := some 76) (Nj := some 13) #[true, true, true, false, false, false, false] #[true, false, true, false, false, true, false] rfl rfl rfl rfl (by kernel_rfl) (by decide) (by decide) (fun K hK => ?_) (fun K hK => ?_)
               ·skip
                refine goes_ Try.func17 (by kernel_rfl) rfl #[.agg #[.int .i64 a0_0, .int .i64 a0_1, .slice A0_2 l0_2.length c0_2]] (by rfl) rfl rfl (by (try simp only [List.map_toArray, List.map_cons, List.map_nil]); first | done | rfl | (simp only [List.length_drop, List.length_take]; rfl)) ?_
                with_reducible refine (laws_toMatrix.calls kj34 a0_0 a0_1 _ _ l0_2 t244 t245 t246 _ ?side1 ?side2 A118.out).mono ?_
                (case side1 => exact Cz.c HR0_2.out HB.out)
                (case side2 => exact HC0_2.out)
                rintro e w136 ⟨v247, rfl, ho0, hb⟩
                refine ⟨_, rfl, ?_⟩
                have n0_ := Aside0.mk (Kd.R_elder' (Cz.r HO_204002.out) (Kd.R_base ho0) hb)
                have n1_ := Aside0.mk (Kd.R_elder' (Cz.r HO_210002.out) (Kd.R_base ho0) hb)
                have n2_ := Aside0.mk (Kd.R_elder' (Cz.r HO_216002.out) (Kd.R_base ho0) hb)
                have n3_ := Aside0.mk (Kd.R_elder' (Cz.r HO_223002.out) (Kd.R_base ho0) hb)
                have n4_ := Aside0.mk (Kd.R_lower (Kd.R_new' (Kd.R_new' (Kd.R_new' (Kd.R_new' ho0 (Kd.R_lt (Cz.r HO_204002.out))) (Kd.R_lt (Cz.r HO_210002.out))) (Kd.R_lt (Cz.r HO_216002.out))) (Kd.R_lt (Cz.r HO_223002.out))) (below_size (Cz.w HB.out)))
                have n5_ := Aside0.mk (blk_below (g := gb183) (o := .cells #[.int .i64 a0_0, .int .i64 a0_1, .slice A0_2 l0_2.length c0_2] 24 (0, 0)) (Cz.b BK183.out) hb)
                have n6_ := Aside0.mk (blk_below (g := gb184) (o := .cells #[.int .i64 a1_0, .int .i64 a1_1, .slice A1_2 l1_2.length c1_2] 24 (0, 0)) (Cz.b BK184.out) hb)
                have n7_ := Aside0.mk (blk_below (g := gb203) (o := .cells #[.int .i64 t197, .int .i64 t198, .slice Ao53 t199.length co53, .int .i64 t202] 35 (0, 0)) (Cz.b BK203.out) hb)
                have n8_ := Aside0.mk (blk_below (g := gb209) (o := .cells #[.int .i64 t204, .int .i64 t205, .slice Ao64 t237.length co64] 27 (0, 0)) (Cz.b BK209.out) hb)
                have n9_ := Aside0.mk (blk_below (g := gb215) (o := .cells #[.int .i64 t210, .int .i64 t211, .slice Ao74 t239.length co74] 27 (0, 0)) (Cz.b BK215.out) hb)
                have n10_ := Aside0.mk (blk_below (g := gb222) (o := .cells #[.int .i64 t216, .int .i64 t217, .slice Ao84 t218.length co84, .int .i64 t221] 35 (0, 0)) (Cz.b BK222.out) hb)
                have n11_ := Aside0.mk (below_step (Cz.w HB.out) hb)
                clear HO_204002 HO_210002 HO_216002 HO_223002 BK183 BK184 BK203 BK209 BK215 BK222 HB
                have HO_204002 := n0_
                have HO_210002 := n1_
                have HO_216002 := n2_
                have HO_223002 := n3_
                have HO248 := n4_
                have BK183 := n5_
                have BK184 := n6_
                have BK203 := n7_
                have BK209 := n8_
                have BK215 := n9_
                have BK222 := n10_
                have HB := n11_
                clear n0_ n1_ n2_ n3_ n4_ n5_ n6_ n7_ n8_ n9_ n10_ n11_
                (try clear hb)
                (try clear hb2)
                (try clear hk)
                (try clear hi)
                (try clear ho0)
                refine hK.out _ _ ⟨(blk_cell BK183.out 0).trans rfl, (blk_cell BK183.out 1).trans rfl, (blk_cell BK183.out 2).trans rfl, (blk_cell BK184.out 0).trans rfl, (blk_cell BK184.out 1).trans rfl, (blk_cell BK184.out 2).trans rfl⟩ (fun hHeld => ?_)
                clear hK K
                refine norm_ (a' := ?_) ?_ ?_
                rotate_left
                ·show Act.put _ (some 76) _ = _
                 simp only [Act.put, List.setIfInBounds_toArray, List.set_cons_zero, List.set_cons_succ, i64_w, i32_w]
                 rfl
                refine two_ (i := 3) (j := 5) (Ni := some 78) (Nj := some 13) #[true, true, true, true, false, false, false] #[true, true, true, false, false, true, false] rfl rfl rfl rfl (by kernel_rfl) (by decide) (by decide) (fun K hK => ?_) (fun K hK => ?_)
                ·skip
                 refine goes_ Try.func17 (by kernel_rfl) rfl #[.agg #[.int .i64 a1_0, .int .i64 a1_1, .slice A1_2 l1_2.length c1_2]] (by rfl) rfl rfl (by (try simp only [List.map_toArray, List.map_cons, List.map_nil]); first | done | rfl | (simp only [List.length_drop, List.length_take]; rfl)) ?_
                 with_reducible refine (laws_toMatrix.calls kj34 a1_0 a1_1 _ _ l1_2 t249 t250 t251 _ ?side1 ?side2 A119.out).mono ?_
                 (case side1 => exact Cz.c HR1_2.out HB.out)
                 (case side2 => exact HC1_2.out)
                 rintro e w137 ⟨v252, rfl, ho0, hb⟩
                 refine ⟨_, rfl, ?_⟩
                 have n0_ := Aside0.mk (Kd.R_elder' (Cz.r HO_204002.out) (Kd.R_base ho0) hb)
                 have n1_ := Aside0.mk (Kd.R_elder' (Cz.r HO_210002.out) (Kd.R_base ho0) hb)
                 have n2_ := Aside0.mk (Kd.R_elder' (Cz.r HO_216002.out) (Kd.R_base ho0) hb)
                 have n3_ := Aside0.mk (Kd.R_elder' (Cz.r HO_223002.out) (Kd.R_base ho0) hb)
                 have n4_ := Aside0.mk (Kd.R_elder' (Cz.r HO248.out) (Kd.R_base ho0) hb)
                 have n5_ := Aside0.mk (Kd.R_lower (Kd.R_new' (Kd.R_new' (Kd.R_new' (Kd.R_new' (Kd.R_new' ho0 (Kd.R_lt (Cz.r HO_204002.out))) (Kd.R_lt (Cz.r HO_210002.out))) (Kd.R_lt (Cz.r HO_216002.out))) (Kd.R_lt (Cz.r HO_223002.out))) (Kd.R_lt (Cz.r HO248.out))) (below_size (Cz.w HB.out)))
                 have n6_ := Aside0.mk (blk_below (g := gb183) (o := .cells #[.int .i64 a0_0, .int .i64 a0_1, .slice A0_2 l0_2.length c0_2] 24 (0, 0)) (Cz.b BK183.out) hb)
                 have n7_ := Aside0.mk (blk_below (g := gb184) (o := .cells #[.int .i64 a1_0, .int .i64 a1_1, .slice A1_2 l1_2.length c1_2] 24 (0, 0)) (Cz.b BK184.out) hb)
                 have n8_ := Aside0.mk (blk_below (g := gb203) (o := .cells #[.int .i64 t197, .int .i64 t198, .slice Ao53 t199.length co53, .int .i64 t202] 35 (0, 0)) (Cz.b BK203.out) hb)
                 have n9_ := Aside0.mk (blk_below (g := gb209) (o := .cells #[.int .i64 t204, .int .i64 t205, .slice Ao64 t237.length co64] 27 (0, 0)) (Cz.b BK209.out) hb)
                 have n10_ := Aside0.mk (blk_below (g := gb215) (o := .cells #[.int .i64 t210, .int .i64 t211, .slice Ao74 t239.length co74] 27 (0, 0)) (Cz.b BK215.out) hb)
                 have n11_ := Aside0.mk (blk_below (g := gb222) (o := .cells #[.int .i64 t216, .int .i64 t217, .slice Ao84 t218.length co84, .int .i64 t221] 35 (0, 0)) (Cz.b BK222.out) hb)
                 have n12_ := Aside0.mk (below_step (Cz.w HB.out) hb)
                 clear HO_204002 HO_210002 HO_216002 HO_223002 HO248 BK183 BK184 BK203 BK209 BK215 BK222 HB
                 have HO_204002 := n0_
                 have HO_210002 := n1_
                 have HO_216002 := n2_
                 have HO_223002 := n3_
                 have HO248 := n4_
                 have HO253 := n5_
                 have BK183 := n6_
                 have BK184 := n7_
                 have BK203 := n8_
                 have BK209 := n9_
                 have BK215 := n10_
                 have BK222 := n11_
                 have HB := n12_
                 clear n0_ n1_ n2_ n3_ n4_ n5_ n6_ n7_ n8_ n9_ n10_ n11_ n12_
                 (try clear hb)
                 (try clear hb2)
                 (try clear hk)
                 (try clear hi)
                 (try clear ho0)
                 obtain ⟨Ao138, co138, eo138⟩ := Kd.R_slice HO248.out
                 (first | subst eo138 | (injection eo138 with f1_ f2_ f3_; have f4_ := f1_.symm; have f5_ := f3_.symm; clear f1_ f2_ f3_; subst f4_; subst f5_))
                 obtain ⟨Ao139, co139, eo139⟩ := Kd.R_slice HO253.out
                 (first | subst eo139 | (injection eo139 with f1_ f2_ f3_; have f4_ := f1_.symm; have f5_ := f3_.symm; clear f1_ f2_ f3_; subst f4_; subst f5_))
                 refine hK.out _ _ ⟨(blk_cell BK183.out 0).trans rfl, (blk_cell BK183.out 1).trans rfl, (blk_cell BK183.out 2).trans rfl, (blk_cell BK184.out 0).trans rfl, (blk_cell BK184.out 1).trans rfl, (blk_cell BK184.out 2).trans rfl⟩ (fun hHeld => ?_)
                 clear hK K
                 refine norm_ (a' := ?_) ?_ ?_
                 rotate_left
                 ·show Act.put _ (some 78) _ = _
                  simp only [Act.put, List.setIfInBounds_toArray, List.set_cons_zero, List.set_cons_succ, i64_w, i32_w]
                  rfl
                 refine two_ (i := 4) (j := 5) (Ni := some 79) (Nj := some 13) #[true, true, true, true, true, false, false] #[true, true, true, true, false, true, false] rfl rfl rfl rfl (by kernel_rfl) (by decide) (by decide) (fun K hK => ?_) (fun K hK => ?_)
                 ·skip
                  refine goes_ Try.func31 (by kernel_rfl) rfl #[.agg #[.int .i64 t244, .int .i64 t245, .slice Ao138 t246.length co138], .agg #[.int .i64 t249, .int .i64 t250, .slice Ao139 t251.length co139]] (by rfl) rfl rfl (by (try simp only [List.map_toArray, List.map_cons, List.map_nil]); first | done | rfl | (simp only [List.length_drop, List.length_take]; rfl)) ?_
                  with_reducible refine (impl_MatrixMul.calls kj34 t244 t245 _ _ t246 t249 t250 _ _ t251 t254 t255 t256 t259 _ ?side1 ?side2 ?side3 ?side4 A120.out).mono ?_
                  (case side1 => repeat (first | exact (Kd.R_reads' HO248.out).2.2 | (with_reducible refine Kd.C_alloc ?_ _) | (with_reducible refine Kd.C_drewN ?_ _) | (with_reducible refine Kd.C_drew ?_)))
                  (case side2 => exact (Kd.R_reads' HO248.out).2.1)
                  (case side3 => repeat (first | exact (Kd.R_reads' HO253.out).2.2 | (with_reducible refine Kd.C_alloc ?_ _) | (with_reducible refine Kd.C_drewN ?_ _) | (with_reducible refine Kd.C_drew ?_)))
                  (case side4 => exact (Kd.R_reads' HO253.out).2.1)
                  rintro e w140 ⟨v257, rfl, ho0, hb⟩
                  refine ⟨_, rfl, ?_⟩
                  have n0_ := Aside0.mk (Kd.R_elder' (Cz.r HO_204002.out) (Kd.R_base ho0) hb)
                  have n1_ := Aside0.mk (Kd.R_elder' (Cz.r HO_210002.out) (Kd.R_base ho0) hb)
                  have n2_ := Aside0.mk (Kd.R_elder' (Cz.r HO_216002.out) (Kd.R_base ho0) hb)
                  have n3_ := Aside0.mk (Kd.R_elder' (Cz.r HO_223002.out) (Kd.R_base ho0) hb)
                  have n4_ := Aside0.mk (Kd.R_elder' (Cz.r HO248.out) (Kd.R_base ho0) hb)
                  have n5_ := Aside0.mk (Kd.R_elder' (Cz.r HO253.out) (Kd.R_base ho0) hb)
                  have n6_ := Aside0.mk (Kd.R_lower (Kd.R_new' (Kd.R_new' (Kd.R_new' (Kd.R_new' (Kd.R_new' (Kd.R_new' ho0 (Kd.R_lt (Cz.r HO_204002.out))) (Kd.R_lt (Cz.r HO_210002.out))) (Kd.R_lt (Cz.r HO_216002.out))) (Kd.R_lt (Cz.r HO_223002.out))) (Kd.R_lt (Cz.r HO248.out))) (Kd.R_lt (Cz.r HO253.out))) (below_size (Cz.w HB.out)))
                  have n7_ := Aside0.mk (blk_below (g := gb183) (o := .cells #[.int .i64 a0_0, .int .i64 a0_1, .slice A0_2 l0_2.length c0_2] 24 (0, 0)) (Cz.b BK183.out) hb)
                  have n8_ := Aside0.mk (blk_below (g := gb184) (o := .cells #[.int .i64 a1_0, .int .i64 a1_1, .slice A1_2 l1_2.length c1_2] 24 (0, 0)) (Cz.b BK184.out) hb)
                  have n9_ := Aside0.mk (blk_below (g := gb203) (o := .cells #[.int .i64 t197, .int .i64 t198, .slice Ao53 t199.length co53, .int .i64 t202] 35 (0, 0)) (Cz.b BK203.out) hb)
                  have n10_ := Aside0.mk (blk_below (g := gb209) (o := .cells #[.int .i64 t204, .int .i64 t205, .slice Ao64 t237.length co64] 27 (0, 0)) (Cz.b BK209.out) hb)
                  have n11_ := Aside0.mk (blk_below (g := gb215) (o := .cells #[.int .i64 t210, .int .i64 t211, .slice Ao74 t239.length co74] 27 (0, 0)) (Cz.b BK215.out) hb)
                  have n12_ := Aside0.mk (blk_below (g := gb222) (o := .cells #[.int .i64 t216, .int .i64 t217, .slice Ao84 t218.length co84, .int .i64 t221] 35 (0, 0)) (Cz.b BK222.out) hb)
                  have n13_ := Aside0.mk (below_step (Cz.w HB.out) hb)
                  clear HO_204002 HO_210002 HO_216002 HO_223002 HO248 HO253 BK183 BK184 BK203 BK209 BK215 BK222 HB
                  have HO_204002 := n0_
                  have HO_210002 := n1_
                  have HO_216002 := n2_
                  have HO_223002 := n3_
                  have HO248 := n4_
                  have HO253 := n5_
                  have HO258 := n6_
                  have BK183 := n7_
                  have BK184 := n8_
                  have BK203 := n9_
                  have BK209 := n10_
                  have BK215 := n11_
                  have BK222 := n12_
                  have HB := n13_
                  clear n0_ n1_ n2_ n3_ n4_ n5_ n6_ n7_ n8_ n9_ n10_ n11_ n12_ n13_
                  (try clear hb)
                  (try clear hb2)
                  (try clear hk)
                  (try clear hi)
                  (try clear ho0)
                  refine hK.out _ _ ⟨(blk_cell BK183.out 0).trans rfl, (blk_cell BK183.out 1).trans rfl, (blk_cell BK183.out 2).trans rfl, (blk_cell BK184.out 0).trans rfl, (blk_cell BK184.out 1).trans rfl, (blk_cell BK184.out 2).trans rfl⟩ (fun hHeld => ?_)
                  clear hK K
                  refine norm_ (a' := ?_) ?_ ?_
                  rotate_left
                  ·show Act.put _ (some 79) _ = _
                   simp only [Act.put, List.setIfInBounds_toArray, List.set_cons_zero, List.set_cons_succ, i64_w, i32_w]
                   rfl
                  refine one_ (i := 5) (N := some 13) #[true, true, true, true, true, true, false] rfl rfl (by kernel_rfl) (by decide) (fun K hK => ?_)
                  refine box_step ?hg (N := 13) ?hd (cs := #[.int .i64 0, .int .i64 0, .slice none 0 0, .int .i64 0]) (t := 35) ?hr ?_; (case hd => rfl); (case hg => rfl); (case hr => first | (go_simp; done) | (go_simp; rfl))
                  intro gb260 hg w141 hbox hb
                  have n0_ := Aside0.mk (Kd.R_below (Cz.r HO_204002.out) hb)
                  have n1_ := Aside0.mk (Kd.R_below (Cz.r HO_210002.out) hb)
                  have n2_ := Aside0.mk (Kd.R_below (Cz.r HO_216002.out) hb)
                  have n3_ := Aside0.mk (Kd.R_below (Cz.r HO_223002.out) hb)
                  have n4_ := Aside0.mk (Kd.R_below (Cz.r HO248.out) hb)
                  have n5_ := Aside0.mk (Kd.R_below (Cz.r HO253.out) hb)
                  have n6_ := Aside0.mk (Kd.R_below (Cz.r HO258.out) hb)
                  have n7_ := Aside0.mk (blk_below (g := gb183) (o := .cells #[.int .i64 a0_0, .int .i64 a0_1, .slice A0_2 l0_2.length c0_2] 24 (0, 0)) (Cz.b BK183.out) hb)
                  have n8_ := Aside0.mk (blk_below (g := gb184) (o := .cells #[.int .i64 a1_0, .int .i64 a1_1, .slice A1_2 l1_2.length c1_2] 24 (0, 0)) (Cz.b BK184.out) hb)
                  have n9_ := Aside0.mk (blk_below (g := gb203) (o := .cells #[.int .i64 t197, .int .i64 t198, .slice Ao53 t199.length co53, .int .i64 t202] 35 (0, 0)) (Cz.b BK203.out) hb)
                  have n10_ := Aside0.mk (blk_below (g := gb209) (o := .cells #[.int .i64 t204, .int .i64 t205, .slice Ao64 t237.length co64] 27 (0, 0)) (Cz.b BK209.out) hb)
                  have n11_ := Aside0.mk (blk_below (g := gb215) (o := .cells #[.int .i64 t210, .int .i64 t211, .slice Ao74 t239.length co74] 27 (0, 0)) (Cz.b BK215.out) hb)
                  have n12_ := Aside0.mk (blk_below (g := gb222) (o := .cells #[.int .i64 t216, .int .i64 t217, .slice Ao84 t218.length co84, .int .i64 t221] 35 (0, 0)) (Cz.b BK222.out) hb)
                  have n13_ := Aside0.mk (below_step (Cz.w HB.out) hb)
                  have n14_ := Aside0.mk (hbox)
                  have n15_ := Aside0.mk ((by rw [hg]; exact (below_size (Cz.w HB.out)) : w.heap.size ≤ gb260))
                  have n16_ := Aside0.mk ((by rw [hg]; exact (below_size (Cz.w HB.out)) : w.heap.size ≤ gb260))
                  have n17_ := Aside0.mk ((by rw [hg]; exact Nat.ne_of_lt (blk_lt (g := gb183) (o := .cells #[.int .i64 a0_0, .int .i64 a0_1, .slice A0_2 l0_2.length c0_2] 24 (0, 0)) (Cz.b BK183.out)) : gb183 ≠ gb260))
                  have n18_ := Aside0.mk ((by rw [hg]; exact Nat.ne_of_gt (blk_lt (g := gb183) (o := .cells #[.int .i64 a0_0, .int .i64 a0_1, .slice A0_2 l0_2.length c0_2] 24 (0, 0)) (Cz.b BK183.out)) : gb260 ≠ gb183))
                  have n19_ := Aside0.mk ((by rw [hg]; exact Nat.ne_of_lt (blk_lt (g := gb184) (o := .cells #[.int .i64 a1_0, .int .i64 a1_1, .slice A1_2 l1_2.length c1_2] 24 (0, 0)) (Cz.b BK184.out)) : gb184 ≠ gb260))
                  have n20_ := Aside0.mk ((by rw [hg]; exact Nat.ne_of_gt (blk_lt (g := gb184) (o := .cells #[.int .i64 a1_0, .int .i64 a1_1, .slice A1_2 l1_2.length c1_2] 24 (0, 0)) (Cz.b BK184.out)) : gb260 ≠ gb184))
                  have n21_ := Aside0.mk ((by rw [hg]; exact Nat.ne_of_lt (blk_lt (g := gb203) (o := .cells #[.int .i64 t197, .int .i64 t198, .slice Ao53 t199.length co53, .int .i64 t202] 35 (0, 0)) (Cz.b BK203.out)) : gb203 ≠ gb260))
                  have n22_ := Aside0.mk ((by rw [hg]; exact Nat.ne_of_gt (blk_lt (g := gb203) (o := .cells #[.int .i64 t197, .int .i64 t198, .slice Ao53 t199.length co53, .int .i64 t202] 35 (0, 0)) (Cz.b BK203.out)) : gb260 ≠ gb203))
                  have n23_ := Aside0.mk ((by rw [hg]; exact Nat.ne_of_lt (blk_lt (g := gb209) (o := .cells #[.int .i64 t204, .int .i64 t205, .slice Ao64 t237.length co64] 27 (0, 0)) (Cz.b BK209.out)) : gb209 ≠ gb260))
                  have n24_ := Aside0.mk ((by rw [hg]; exact Nat.ne_of_gt (blk_lt (g := gb209) (o := .cells #[.int .i64 t204, .int .i64 t205, .slice Ao64 t237.length co64] 27 (0, 0)) (Cz.b BK209.out)) : gb260 ≠ gb209))
                  have n25_ := Aside0.mk ((by rw [hg]; exact Nat.ne_of_lt (blk_lt (g := gb215) (o := .cells #[.int .i64 t210, .int .i64 t211, .slice Ao74 t239.length co74] 27 (0, 0)) (Cz.b BK215.out)) : gb215 ≠ gb260))
                  have n26_ := Aside0.mk ((by rw [hg]; exact Nat.ne_of_gt (blk_lt (g := gb215) (o := .cells #[.int .i64 t210, .int .i64 t211, .slice Ao74 t239.length co74] 27 (0, 0)) (Cz.b BK215.out)) : gb260 ≠ gb215))
                  have n27_ := Aside0.mk ((by rw [hg]; exact Nat.ne_of_lt (blk_lt (g := gb222) (o := .cells #[.int .i64 t216, .int .i64 t217, .slice Ao84 t218.length co84, .int .i64 t221] 35 (0, 0)) (Cz.b BK222.out)) : gb222 ≠ gb260))
                  have n28_ := Aside0.mk ((by rw [hg]; exact Nat.ne_of_gt (blk_lt (g := gb222) (o := .cells #[.int .i64 t216, .int .i64 t217, .slice Ao84 t218.length co84, .int .i64 t221] 35 (0, 0)) (Cz.b BK222.out)) : gb260 ≠ gb222))
                  clear HO_204002 HO_210002 HO_216002 HO_223002 HO248 HO253 HO258 BK183 BK184 BK203 BK209 BK215 BK222 HB
                  have HO_204002 := n0_
                  have HO_210002 := n1_
                  have HO_216002 := n2_
                  have HO_223002 := n3_
                  have HO248 := n4_
                  have HO253 := n5_
                  have HO258 := n6_
                  have BK183 := n7_
                  have BK184 := n8_
                  have BK203 := n9_
                  have BK209 := n10_
                  have BK215 := n11_
                  have BK222 := n12_
                  have HB := n13_
                  have BK260 := n14_
                  have GW260 := n15_
                  have GE260 := n16_
                  have NB183_260 := n17_
                  have NB260_183 := n18_
                  have NB184_260 := n19_
                  have NB260_184 := n20_
                  have NB203_260 := n21_
                  have NB260_203 := n22_
                  have NB209_260 := n23_
                  have NB260_209 := n24_
                  have NB215_260 := n25_
                  have NB260_215 := n26_
                  have NB222_260 := n27_
                  have NB260_222 := n28_
                  clear n0_ n1_ n2_ n3_ n4_ n5_ n6_ n7_ n8_ n9_ n10_ n11_ n12_ n13_ n14_ n15_ n16_ n17_ n18_ n19_ n20_ n21_ n22_ n23_ n24_ n25_ n26_ n27_ n28_
                  clear hb hbox hg
                  refine hK.out _ _ ⟨(blk_cell BK183.out 0).trans rfl, (blk_cell BK183.out 1).trans rfl, (blk_cell BK183.out 2).trans rfl, (blk_cell BK184.out 0).trans rfl, (blk_cell BK184.out 1).trans rfl, (blk_cell BK184.out 2).trans rfl⟩ (fun hHeld => ?_)
                  clear hK K
                  refine norm_ (a' := ?_) ?_ ?_
                  rotate_left
                  ·show Act.put _ (some 13) _ = _
                   simp only [Act.put, List.setIfInBounds_toArray, List.set_cons_zero, List.set_cons_succ, i64_w, i32_w]
                   rfl
                  exact norm_ (by simp only [putAll, Act.put, List.setIfInBounds_toArray, List.set_cons_zero, List.set_cons_succ]) (hCont (.slice Ao138 t246.length co138, .slice Ao139 t251.length co139, v257, gb260) _ ⟨hHeld, (by (with_reducible repeat (first | apply Kd.R_alloc | apply Kd.R_drewN | apply Kd.R_drew)); exact Kd.R_mono HO248.out (fun _ hk => ⟨hk.1.2, ⟨hk.2, ⟨hk.1.1.1.1.1.2, ⟨hk.1.1.1.1.2, ⟨hk.1.1.1.2, hk.1.1.2⟩⟩⟩⟩⟩)), (by (with_reducible repeat (first | apply Kd.R_alloc | apply Kd.R_drewN | apply Kd.R_drew)); exact Kd.R_mono HO253.out (fun _ hk => ⟨hk.1.2, ⟨hk.2, ⟨hk.1.1.1.1.1.2, ⟨hk.1.1.1.1.2, ⟨hk.1.1.1.2, hk.1.1.2⟩⟩⟩⟩⟩)), (by (with_reducible repeat (first | apply Kd.R_alloc | apply Kd.R_drewN | apply Kd.R_drew)); exact Kd.R_mono HO258.out (fun _ hk => ⟨hk.1.2, ⟨hk.2, ⟨hk.1.1.1.1.1.2, ⟨hk.1.1.1.1.2, ⟨hk.1.1.1.2, hk.1.1.2⟩⟩⟩⟩⟩)), (by (with_reducible repeat (first | apply Kd.R_alloc | apply Kd.R_drewN | apply Kd.R_drew)); exact Kd.R_mono HO_204002.out (fun _ hk => ⟨hk.1.1.2, ⟨hk.1.2, ⟨hk.2, ⟨hk.1.1.1.1, ⟨hk.1.1.1.2.1, hk.1.1.1.2.2⟩⟩⟩⟩⟩)), (by (with_reducible repeat (first | apply Kd.R_alloc | apply Kd.R_drewN | apply Kd.R_drew)); exact Kd.R_mono HO_210002.out (fun _ hk => ⟨hk.1.1.2, ⟨hk.1.2, ⟨hk.2, ⟨hk.1.1.1.1, ⟨hk.1.1.1.2.1, hk.1.1.1.2.2⟩⟩⟩⟩⟩)), (by (with_reducible repeat (first | apply Kd.R_alloc | apply Kd.R_drewN | apply Kd.R_drew)); exact Kd.R_mono HO_216002.out (fun _ hk => ⟨hk.1.1.2, ⟨hk.1.2, ⟨hk.2, ⟨hk.1.1.1.1, ⟨hk.1.1.1.2.1, hk.1.1.1.2.2⟩⟩⟩⟩⟩)), (by (with_reducible repeat (first | apply Kd.R_alloc | apply Kd.R_drewN | apply Kd.R_drew)); exact Kd.R_mono HO_223002.out (fun _ hk => ⟨hk.1.1.2, ⟨hk.1.2, ⟨hk.2, ⟨hk.1.1.1.1, ⟨hk.1.1.1.2.1, hk.1.1.1.2.2⟩⟩⟩⟩⟩)), (Cz.b BK183.out), (Cz.b BK184.out), (Cz.b BK203.out), (Cz.b BK209.out), (Cz.b BK215.out), (Cz.b BK222.out), (Cz.b BK260.out), GW260.out, GE260.out, NB183_260.out, NB260_183.out, NB184_260.out, NB260_184.out, NB203_260.out, NB260_203.out, NB209_260.out, NB260_209.out, NB215_260.out, NB260_215.out, NB222_260.out, NB260_222.out, (Cz.w HB.out)⟩)
                 ·skip
                  refine box_step ?hg (N := 13) ?hd (cs := #[.int .i64 0, .int .i64 0, .slice none 0 0, .int .i64 0]) (t := 35) ?hr ?_; (case hd => rfl); (case hg => rfl); (case hr => first | (go_simp; done) | (go_simp; rfl))
                  intro gb260 hg w138 hbox hb
                  have n0_ := Aside0.mk (Kd.R_below (Cz.r HO_204002.out) hb)
                  have n1_ := Aside0.mk (Kd.R_below (Cz.r HO_210002.out) hb)
                  have n2_ := Aside0.mk (Kd.R_below (Cz.r HO_216002.out) hb)
                  have n3_ := Aside0.mk (Kd.R_below (Cz.r HO_223002.out) hb)
                  have n4_ := Aside0.mk (Kd.R_below (Cz.r HO248.out) hb)
                  have n5_ := Aside0.mk (Kd.R_below (Cz.r HO253.out) hb)
                  have n6_ := Aside0.mk (blk_below (g := gb183) (o := .cells #[.int .i64 a0_0, .int .i64 a0_1, .slice A0_2 l0_2.length c0_2] 24 (0, 0)) (Cz.b BK183.out) hb)
                  have n7_ := Aside0.mk (blk_below (g := gb184) (o := .cells #[.int .i64 a1_0, .int .i64 a1_1, .slice A1_2 l1_2.length c1_2] 24 (0, 0)) (Cz.b BK184.out) hb)
                  have n8_ := Aside0.mk (blk_below (g := gb203) (o := .cells #[.int .i64 t197, .int .i64 t198, .slice Ao53 t199.length co53, .int .i64 t202] 35 (0, 0)) (Cz.b BK203.out) hb)
                  have n9_ := Aside0.mk (blk_below (g := gb209) (o := .cells #[.int .i64 t204, .int .i64 t205, .slice Ao64 t237.length co64] 27 (0, 0)) (Cz.b BK209.out) hb)
                  have n10_ := Aside0.mk (blk_below (g := gb215) (o := .cells #[.int .i64 t210, .int .i64 t211, .slice Ao74 t239.length co74] 27 (0, 0)) (Cz.b BK215.out) hb)
                  have n11_ := Aside0.mk (blk_below (g := gb222) (o := .cells #[.int .i64 t216, .int .i64 t217, .slice Ao84 t218.length co84, .int .i64 t221] 35 (0, 0)) (Cz.b BK222.out) hb)
                  have n12_ := Aside0.mk (below_step (Cz.w HB.out) hb)
                  have n13_ := Aside0.mk (hbox)
                  have n14_ := Aside0.mk ((by rw [hg]; exact (below_size (Cz.w HB.out)) : w.heap.size ≤ gb260))
                  have n15_ := Aside0.mk ((by rw [hg]; exact (below_size (Cz.w HB.out)) : w.heap.size ≤ gb260))
                  have n16_ := Aside0.mk ((by rw [hg]; exact Nat.ne_of_lt (blk_lt (g := gb183) (o := .cells #[.int .i64 a0_0, .int .i64 a0_1, .slice A0_2 l0_2.length c0_2] 24 (0, 0)) (Cz.b BK183.out)) : gb183 ≠ gb260))
                  have n17_ := Aside0.mk ((by rw [hg]; exact Nat.ne_of_gt (blk_lt (g := gb183) (o := .cells #[.int .i64 a0_0, .int .i64 a0_1, .slice A0_2 l0_2.length c0_2] 24 (0, 0)) (Cz.b BK183.out)) : gb260 ≠ gb183))
                  have n18_ := Aside0.mk ((by rw [hg]; exact Nat.ne_of_lt (blk_lt (g := gb184) (o := .cells #[.int .i64 a1_0, .int .i64 a1_1, .slice A1_2 l1_2.length c1_2] 24 (0, 0)) (Cz.b BK184.out)) : gb184 ≠ gb260))
                  have n19_ := Aside0.mk ((by rw [hg]; exact Nat.ne_of_gt (blk_lt (g := gb184) (o := .cells #[.int .i64 a1_0, .int .i64 a1_1, .slice A1_2 l1_2.length c1_2] 24 (0, 0)) (Cz.b BK184.out)) : gb260 ≠ gb184))
                  have n20_ := Aside0.mk ((by rw [hg]; exact Nat.ne_of_lt (blk_lt (g := gb203) (o := .cells #[.int .i64 t197, .int .i64 t198, .slice Ao53 t199.length co53, .int .i64 t202] 35 (0, 0)) (Cz.b BK203.out)) : gb203 ≠ gb260))
                  have n21_ := Aside0.mk ((by rw [hg]; exact Nat.ne_of_gt (blk_lt (g := gb203) (o := .cells #[.int .i64 t197, .int .i64 t198, .slice Ao53 t199.length co53, .int .i64 t202] 35 (0, 0)) (Cz.b BK203.out)) : gb260 ≠ gb203))
                  have n22_ := Aside0.mk ((by rw [hg]; exact Nat.ne_of_lt (blk_lt (g := gb209) (o := .cells #[.int .i64 t204, .int .i64 t205, .slice Ao64 t237.length co64] 27 (0, 0)) (Cz.b BK209.out)) : gb209 ≠ gb260))
                  have n23_ := Aside0.mk ((by rw [hg]; exact Nat.ne_of_gt (blk_lt (g := gb209) (o := .cells #[.int .i64 t204, .int .i64 t205, .slice Ao64 t237.length co64] 27 (0, 0)) (Cz.b BK209.out)) : gb260 ≠ gb209))
                  have n24_ := Aside0.mk ((by rw [hg]; exact Nat.ne_of_lt (blk_lt (g := gb215) (o := .cells #[.int .i64 t210, .int .i64 t211, .slice Ao74 t239.length co74] 27 (0, 0)) (Cz.b BK215.out)) : gb215 ≠ gb260))
                  have n25_ := Aside0.mk ((by rw [hg]; exact Nat.ne_of_gt (blk_lt (g := gb215) (o := .cells #[.int .i64 t210, .int .i64 t211, .slice Ao74 t239.length co74] 27 (0, 0)) (Cz.b BK215.out)) : gb260 ≠ gb215))
                  have n26_ := Aside0.mk ((by rw [hg]; exact Nat.ne_of_lt (blk_lt (g := gb222) (o := .cells #[.int .i64 t216, .int .i64 t217, .slice Ao84 t218.length co84, .int .i64 t221] 35 (0, 0)) (Cz.b BK222.out)) : gb222 ≠ gb260))
                  have n27_ := Aside0.mk ((by rw [hg]; exact Nat.ne_of_gt (blk_lt (g := gb222) (o := .cells #[.int .i64 t216, .int .i64 t217, .slice Ao84 t218.length co84, .int .i64 t221] 35 (0, 0)) (Cz.b BK222.out)) : gb260 ≠ gb222))
                  clear HO_204002 HO_210002 HO_216002 HO_223002 HO248 HO253 BK183 BK184 BK203 BK209 BK215 BK222 HB
                  have HO_204002 := n0_
                  have HO_210002 := n1_
                  have HO_216002 := n2_
                  have HO_223002 := n3_
                  have HO248 := n4_
                  have HO253 := n5_
                  have BK183 := n6_
                  have BK184 := n7_
                  have BK203 := n8_
                  have BK209 := n9_
                  have BK215 := n10_
                  have BK222 := n11_
                  have HB := n12_
                  have BK260 := n13_
                  have GW260 := n14_
                  have GE260 := n15_
                  have NB183_260 := n16_
                  have NB260_183 := n17_
                  have NB184_260 := n18_
                  have NB260_184 := n19_
                  have NB203_260 := n20_
                  have NB260_203 := n21_
                  have NB209_260 := n22_
                  have NB260_209 := n23_
                  have NB215_260 := n24_
                  have NB260_215 := n25_
                  have NB222_260 := n26_
                  have NB260_222 := n27_
                  clear n0_ n1_ n2_ n3_ n4_ n5_ n6_ n7_ n8_ n9_ n10_ n11_ n12_ n13_ n14_ n15_ n16_ n17_ n18_ n19_ n20_ n21_ n22_ n23_ n24_ n25_ n26_ n27_
                  clear hb hbox hg
                  obtain ⟨Ao139, co139, eo139⟩ := Kd.R_slice HO248.out
                  (first | subst eo139 | (injection eo139 with f1_ f2_ f3_; have f4_ := f1_.symm; have f5_ := f3_.symm; clear f1_ f2_ f3_; subst f4_; subst f5_))
                  obtain ⟨Ao140, co140, eo140⟩ := Kd.R_slice HO253.out
                  (first | subst eo140 | (injection eo140 with f1_ f2_ f3_; have f4_ := f1_.symm; have f5_ := f3_.symm; clear f1_ f2_ f3_; subst f4_; subst f5_))
                  refine hK.out _ _ ⟨(blk_cell BK183.out 0).trans rfl, (blk_cell BK183.out 1).trans rfl, (blk_cell BK183.out 2).trans rfl, (blk_cell BK184.out 0).trans rfl, (blk_cell BK184.out 1).trans rfl, (blk_cell BK184.out 2).trans rfl⟩ (fun hHeld => ?_)
                  clear hK K
                  refine norm_ (a' := ?_) ?_ ?_
                  rotate_left
                  ·show Act.put _ (some 13) _ = _
                   simp only [Act.put, List.setIfInBounds_toArray, List.set_cons_zero, List.set_cons_succ, i64_w, i32_w]
                   rfl
                  refine one_ (i := 4) (N := some 79) #[true, true, true, true, true, true, false] rfl rfl (by kernel_rfl) (by decide) (fun K hK => ?_)
                  refine goes_ Try.func31 (by kernel_rfl) rfl #[.agg #[.int .i64 t244, .int .i64 t245, .slice Ao139 t246.length co139], .agg #[.int .i64 t249, .int .i64 t250, .slice Ao140 t251.length co140]] (by rfl) rfl rfl (by (try simp only [List.map_toArray, List.map_cons, List.map_nil]); first | done | rfl | (simp only [List.length_drop, List.length_take]; rfl)) ?_
                  with_reducible refine (impl_MatrixMul.calls kj34 t244 t245 _ _ t246 t249 t250 _ _ t251 t254 t255 t256 t259 _ ?side1 ?side2 ?side3 ?side4 A120.out).mono ?_
                  (case side1 => repeat (first | exact (Kd.R_reads' HO248.out).2.2 | (with_reducible refine Kd.C_alloc ?_ _) | (with_reducible refine Kd.C_drewN ?_ _) | (with_reducible refine Kd.C_drew ?_)))
                  (case side2 => exact (Kd.R_reads' HO248.out).2.1)
                  (case side3 => repeat (first | exact (Kd.R_reads' HO253.out).2.2 | (with_reducible refine Kd.C_alloc ?_ _) | (with_reducible refine Kd.C_drewN ?_ _) | (with_reducible refine Kd.C_drew ?_)))
                  (case side4 => exact (Kd.R_reads' HO253.out).2.1)
                  rintro e w141 ⟨v257, rfl, ho0, hb⟩
                  refine ⟨_, rfl, ?_⟩
                  have n0_ := Aside0.mk (Kd.R_elder' (Cz.r HO_204002.out) (Kd.R_base ho0) hb)
                  have n1_ := Aside0.mk (Kd.R_elder' (Cz.r HO_210002.out) (Kd.R_base ho0) hb)
                  have n2_ := Aside0.mk (Kd.R_elder' (Cz.r HO_216002.out) (Kd.R_base ho0) hb)
                  have n3_ := Aside0.mk (Kd.R_elder' (Cz.r HO_223002.out) (Kd.R_base ho0) hb)
                  have n4_ := Aside0.mk (Kd.R_elder' (Cz.r HO248.out) (Kd.R_base ho0) hb)
                  have n5_ := Aside0.mk (Kd.R_elder' (Cz.r HO253.out) (Kd.R_base ho0) hb)
                  have n6_ := Aside0.mk (Kd.R_lower (Kd.R_new' (Kd.R_new' (Kd.R_new' (Kd.R_new' (Kd.R_new' (Kd.R_new' ho0 (Kd.R_lt (Cz.r HO_204002.out))) (Kd.R_lt (Cz.r HO_210002.out))) (Kd.R_lt (Cz.r HO_216002.out))) (Kd.R_lt (Cz.r HO_223002.out))) (Kd.R_lt (Cz.r HO248.out))) (Kd.R_lt (Cz.r HO253.out))) (below_size (Cz.w HB.out)))
                  have n7_ := Aside0.mk (blk_below (g := gb183) (o := .cells #[.int .i64 a0_0, .int .i64 a0_1, .slice A0_2 l0_2.length c0_2] 24 (0, 0)) (Cz.b BK183.out) hb)
                  have n8_ := Aside0.mk (blk_below (g := gb184) (o := .cells #[.int .i64 a1_0, .int .i64 a1_1, .slice A1_2 l1_2.length c1_2] 24 (0, 0)) (Cz.b BK184.out) hb)
                  have n9_ := Aside0.mk (blk_below (g := gb203) (o := .cells #[.int .i64 t197, .int .i64 t198, .slice Ao53 t199.length co53, .int .i64 t202] 35 (0, 0)) (Cz.b BK203.out) hb)
                  have n10_ := Aside0.mk (blk_below (g := gb209) (o := .cells #[.int .i64 t204, .int .i64 t205, .slice Ao64 t237.length co64] 27 (0, 0)) (Cz.b BK209.out) hb)
                  have n11_ := Aside0.mk (blk_below (g := gb215) (o := .cells #[.int .i64 t210, .int .i64 t211, .slice Ao74 t239.length co74] 27 (0, 0)) (Cz.b BK215.out) hb)
                  have n12_ := Aside0.mk (blk_below (g := gb222) (o := .cells #[.int .i64 t216, .int .i64 t217, .slice Ao84 t218.length co84, .int .i64 t221] 35 (0, 0)) (Cz.b BK222.out) hb)
                  have n13_ := Aside0.mk (blk_below (g := gb260) (o := .cells #[.int .i64 0, .int .i64 0, .slice none 0 0, .int .i64 0] 35 (0, 0)) (Cz.b BK260.out) hb)
                  have n14_ := Aside0.mk (below_step (Cz.w HB.out) hb)
                  clear HO_204002 HO_210002 HO_216002 HO_223002 HO248 HO253 BK183 BK184 BK203 BK209 BK215 BK222 BK260 HB
                  have HO_204002 := n0_
                  have HO_210002 := n1_
                  have HO_216002 := n2_
                  have HO_223002 := n3_
                  have HO248 := n4_
                  have HO253 := n5_
                  have HO258 := n6_
                  have BK183 := n7_
                  have BK184 := n8_
                  have BK203 := n9_
                  have BK209 := n10_
                  have BK215 := n11_
                  have BK222 := n12_
                  have BK260 := n13_
                  have HB := n14_
                  clear n0_ n1_ n2_ n3_ n4_ n5_ n6_ n7_ n8_ n9_ n10_ n11_ n12_ n13_ n14_
                  (try clear hb)
                  (try clear hb2)
                  (try clear hk)
                  (try clear hi)
                  (try clear ho0)
                  refine hK.out _ _ ⟨(blk_cell BK183.out 0).trans rfl, (blk_cell BK183.out 1).trans rfl, (blk_cell BK183.out 2).trans rfl, (blk_cell BK184.out 0).trans rfl, (blk_cell BK184.out 1).trans rfl, (blk_cell BK184.out 2).trans rfl⟩ (fun hHeld => ?_)
                  clear hK K
                  refine norm_ (a' := ?_) ?_ ?_
                  rotate_left
                  ·show Act.put _ (some 79) _ = _
                   simp only [Act.put, List.setIfInBounds_toArray, List.set_cons_zero, List.set_cons_succ, i64_w, i32_w]
                   rfl
                  exact norm_ (by simp only [putAll, Act.put, List.setIfInBounds_toArray, List.set_cons_zero, List.set_cons_succ]) (hCont (.slice Ao139 t246.length co139, .slice Ao140 t251.length co140, v257, gb260) _ ⟨hHeld, (by (with_reducible repeat (first | apply Kd.R_alloc | apply Kd.R_drewN | apply Kd.R_drew)); exact Kd.R_mono HO248.out (fun _ hk => ⟨hk.1.2, ⟨hk.2, ⟨hk.1.1.1.1.1.2, ⟨hk.1.1.1.1.2, ⟨hk.1.1.1.2, hk.1.1.2⟩⟩⟩⟩⟩)), (by (with_reducible repeat (first | apply Kd.R_alloc | apply Kd.R_drewN | apply Kd.R_drew)); exact Kd.R_mono HO253.out (fun _ hk => ⟨hk.1.2, ⟨hk.2, ⟨hk.1.1.1.1.1.2, ⟨hk.1.1.1.1.2, ⟨hk.1.1.1.2, hk.1.1.2⟩⟩⟩⟩⟩)), (by (with_reducible repeat (first | apply Kd.R_alloc | apply Kd.R_drewN | apply Kd.R_drew)); exact Kd.R_mono HO258.out (fun _ hk => ⟨hk.1.2, ⟨hk.2, ⟨hk.1.1.1.1.1.2, ⟨hk.1.1.1.1.2, ⟨hk.1.1.1.2, hk.1.1.2⟩⟩⟩⟩⟩)), (by (with_reducible repeat (first | apply Kd.R_alloc | apply Kd.R_drewN | apply Kd.R_drew)); exact Kd.R_mono HO_204002.out (fun _ hk => ⟨hk.1.1.2, ⟨hk.1.2, ⟨hk.2, ⟨hk.1.1.1.1, ⟨hk.1.1.1.2.1, hk.1.1.1.2.2⟩⟩⟩⟩⟩)), (by (with_reducible repeat (first | apply Kd.R_alloc | apply Kd.R_drewN | apply Kd.R_drew)); exact Kd.R_mono HO_210002.out (fun _ hk => ⟨hk.1.1.2, ⟨hk.1.2, ⟨hk.2, ⟨hk.1.1.1.1, ⟨hk.1.1.1.2.1, hk.1.1.1.2.2⟩⟩⟩⟩⟩)), (by (with_reducible repeat (first | apply Kd.R_alloc | apply Kd.R_drewN | apply Kd.R_drew)); exact Kd.R_mono HO_216002.out (fun _ hk => ⟨hk.1.1.2, ⟨hk.1.2, ⟨hk.2, ⟨hk.1.1.1.1, ⟨hk.1.1.1.2.1, hk.1.1.1.2.2⟩⟩⟩⟩⟩)), (by (with_reducible repeat (first | apply Kd.R_alloc | apply Kd.R_drewN | apply Kd.R_drew)); exact Kd.R_mono HO_223002.out (fun _ hk => ⟨hk.1.1.2, ⟨hk.1.2, ⟨hk.2, ⟨hk.1.1.1.1, ⟨hk.1.1.1.2.1, hk.1.1.1.2.2⟩⟩⟩⟩⟩)), (Cz.b BK183.out), (Cz.b BK184.out), (Cz.b BK203.out), (Cz.b BK209.out), (Cz.b BK215.out), (Cz.b BK222.out), (Cz.b BK260.out), GW260.out, GE260.out, NB183_260.out, NB260_183.out, NB184_260.out, NB260_184.out, NB203_260.out, NB260_203.out, NB209_260.out, NB260_209.out, NB215_260.out, NB260_215.out, NB222_260.out, NB260_222.out, (Cz.w HB.out)⟩)
                ·skip
                 refine box_step ?hg (N := 13) ?hd (cs := #[.int .i64 0, .int .i64 0, .slice none 0 0, .int .i64 0]) (t := 35) ?hr ?_; (case hd => rfl); (case hg => rfl); (case hr => first | (go_simp; done) | (go_simp; rfl))
                 intro gb260 hg w137 hbox hb
                 have n0_ := Aside0.mk (Kd.R_below (Cz.r HO_204002.out) hb)
                 have n1_ := Aside0.mk (Kd.R_below (Cz.r HO_210002.out) hb)
                 have n2_ := Aside0.mk (Kd.R_below (Cz.r HO_216002.out) hb)
                 have n3_ := Aside0.mk (Kd.R_below (Cz.r HO_223002.out) hb)
                 have n4_ := Aside0.mk (Kd.R_below (Cz.r HO248.out) hb)
                 have n5_ := Aside0.mk (blk_below (g := gb183) (o := .cells #[.int .i64 a0_0, .int .i64 a0_1, .slice A0_2 l0_2.length c0_2] 24 (0, 0)) (Cz.b BK183.out) hb)
                 have n6_ := Aside0.mk (blk_below (g := gb184) (o := .cells #[.int .i64 a1_0, .int .i64 a1_1, .slice A1_2 l1_2.length c1_2] 24 (0, 0)) (Cz.b BK184.out) hb)
                 have n7_ := Aside0.mk (blk_below (g := gb203) (o := .cells #[.int .i64 t197, .int .i64 t198, .slice Ao53 t199.length co53, .int .i64 t202] 35 (0, 0)) (Cz.b BK203.out) hb)
                 have n8_ := Aside0.mk (blk_below (g := gb209) (o := .cells #[.int .i64 t204, .int .i64 t205, .slice Ao64 t237.length co64] 27 (0, 0)) (Cz.b BK209.out) hb)
                 have n9_ := Aside0.mk (blk_below (g := gb215) (o := .cells #[.int .i64 t210, .int .i64 t211, .slice Ao74 t239.length co74] 27 (0, 0)) (Cz.b BK215.out) hb)
                 have n10_ := Aside0.mk (blk_below (g := gb222) (o := .cells #[.int .i64 t216, .int .i64 t217, .slice Ao84 t218.length co84, .int .i64 t221] 35 (0, 0)) (Cz.b BK222.out) hb)
                 have n11_ := Aside0.mk (below_step (Cz.w HB.out) hb)
                 have n12_ := Aside0.mk (hbox)
                 have n13_ := Aside0.mk ((by rw [hg]; exact (below_size (Cz.w HB.out)) : w.heap.size ≤ gb260))
                 have n14_ := Aside0.mk ((by rw [hg]; exact (below_size (Cz.w HB.out)) : w.heap.size ≤ gb260))
                 have n15_ := Aside0.mk ((by rw [hg]; exact Nat.ne_of_lt (blk_lt (g := gb183) (o := .cells #[.int .i64 a0_0, .int .i64 a0_1, .slice A0_2 l0_2.length c0_2] 24 (0, 0)) (Cz.b BK183.out)) : gb183 ≠ gb260))
                 have n16_ := Aside0.mk ((by rw [hg]; exact Nat.ne_of_gt (blk_lt (g := gb183) (o := .cells #[.int .i64 a0_0, .int .i64 a0_1, .slice A0_2 l0_2.length c0_2] 24 (0, 0)) (Cz.b BK183.out)) : gb260 ≠ gb183))
                 have n17_ := Aside0.mk ((by rw [hg]; exact Nat.ne_of_lt (blk_lt (g := gb184) (o := .cells #[.int .i64 a1_0, .int .i64 a1_1, .slice A1_2 l1_2.length c1_2] 24 (0, 0)) (Cz.b BK184.out)) : gb184 ≠ gb260))
                 have n18_ := Aside0.mk ((by rw [hg]; exact Nat.ne_of_gt (blk_lt (g := gb184) (o := .cells #[.int .i64 a1_0, .int .i64 a1_1, .slice A1_2 l1_2.length c1_2] 24 (0, 0)) (Cz.b BK184.out)) : gb260 ≠ gb184))
                 have n19_ := Aside0.mk ((by rw [hg]; exact Nat.ne_of_lt (blk_lt (g := gb203) (o := .cells #[.int .i64 t197, .int .i64 t198, .slice Ao53 t199.length co53, .int .i64 t202] 35 (0, 0)) (Cz.b BK203.out)) : gb203 ≠ gb260))
                 have n20_ := Aside0.mk ((by rw [hg]; exact Nat.ne_of_gt (blk_lt (g := gb203) (o := .cells #[.int .i64 t197, .int .i64 t198, .slice Ao53 t199.length co53, .int .i64 t202] 35 (0, 0)) (Cz.b BK203.out)) : gb260 ≠ gb203))
                 have n21_ := Aside0.mk ((by rw [hg]; exact Nat.ne_of_lt (blk_lt (g := gb209) (o := .cells #[.int .i64 t204, .int .i64 t205, .slice Ao64 t237.length co64] 27 (0, 0)) (Cz.b BK209.out)) : gb209 ≠ gb260))
                 have n22_ := Aside0.mk ((by rw [hg]; exact Nat.ne_of_gt (blk_lt (g := gb209) (o := .cells #[.int .i64 t204, .int .i64 t205, .slice Ao64 t237.length co64] 27 (0, 0)) (Cz.b BK209.out)) : gb260 ≠ gb209))
                 have n23_ := Aside0.mk ((by rw [hg]; exact Nat.ne_of_lt (blk_lt (g := gb215) (o := .cells #[.int .i64 t210, .int .i64 t211, .slice Ao74 t239.length co74] 27 (0, 0)) (Cz.b BK215.out)) : gb215 ≠ gb260))
                 have n24_ := Aside0.mk ((by rw [hg]; exact Nat.ne_of_gt (blk_lt (g := gb215) (o := .cells #[.int .i64 t210, .int .i64 t211, .slice Ao74 t239.length co74] 27 (0, 0)) (Cz.b BK215.out)) : gb260 ≠ gb215))
                 have n25_ := Aside0.mk ((by rw [hg]; exact Nat.ne_of_lt (blk_lt (g := gb222) (o := .cells #[.int .i64 t216, .int .i64 t217, .slice Ao84 t218.length co84, .int .i64 t221] 35 (0, 0)) (Cz.b BK222.out)) : gb222 ≠ gb260))
                 have n26_ := Aside0.mk ((by rw [hg]; exact Nat.ne_of_gt (blk_lt (g := gb222) (o := .cells #[.int .i64 t216, .int .i64 t217, .slice Ao84 t218.length co84, .int .i64 t221] 35 (0, 0)) (Cz.b BK222.out)) : gb260 ≠ gb222))
                 clear HO_204002 HO_210002 HO_216002 HO_223002 HO248 BK183 BK184 BK203 BK209 BK215 BK222 HB
                 have HO_204002 := n0_
                 have HO_210002 := n1_
                 have HO_216002 := n2_
                 have HO_223002 := n3_
                 have HO248 := n4_
                 have BK183 := n5_
                 have BK184 := n6_
                 have BK203 := n7_
                 have BK209 := n8_
                 have BK215 := n9_
                 have BK222 := n10_
                 have HB := n11_
                 have BK260 := n12_
                 have GW260 := n13_
                 have GE260 := n14_
                 have NB183_260 := n15_
                 have NB260_183 := n16_
                 have NB184_260 := n17_
                 have NB260_184 := n18_
                 have NB203_260 := n19_
                 have NB260_203 := n20_
                 have NB209_260 := n21_
                 have NB260_209 := n22_
                 have NB215_260 := n23_
                 have NB260_215 := n24_
                 have NB222_260 := n25_
                 have NB260_222 := n26_
                 clear n0_ n1_ n2_ n3_ n4_ n5_ n6_ n7_ n8_ n9_ n10_ n11_ n12_ n13_ n14_ n15_ n16_ n17_ n18_ n19_ n20_ n21_ n22_ n23_ n24_ n25_ n26_
                 clear hb hbox hg
                 refine hK.out _ _ ⟨(blk_cell BK183.out 0).trans rfl, (blk_cell BK183.out 1).trans rfl, (blk_cell BK183.out 2).trans rfl, (blk_cell BK184.out 0).trans rfl, (blk_cell BK184.out 1).trans rfl, (blk_cell BK184.out 2).trans rfl⟩ (fun hHeld => ?_)
                 clear hK K
                 refine norm_ (a' := ?_) ?_ ?_
                 rotate_left
                 ·show Act.put _ (some 13) _ = _
                  simp only [Act.put, List.setIfInBounds_toArray, List.set_cons_zero, List.set_cons_succ, i64_w, i32_w]
                  rfl
                 refine one_ (i := 3) (N := some 78) #[true, true, true, true, false, true, false] rfl rfl (by kernel_rfl) (by decide) (fun K hK => ?_)
                 refine goes_ Try.func17 (by kernel_rfl) rfl #[.agg #[.int .i64 a1_0, .int .i64 a1_1, .slice A1_2 l1_2.length c1_2]] (by rfl) rfl rfl (by (try simp only [List.map_toArray, List.map_cons, List.map_nil]); first | done | rfl | (simp only [List.length_drop, List.length_take]; rfl)) ?_
                 with_reducible refine (laws_toMatrix.calls kj34 a1_0 a1_1 _ _ l1_2 t249 t250 t251 _ ?side1 ?side2 A119.out).mono ?_
                 (case side1 => exact Cz.c HR1_2.out HB.out)
                 (case side2 => exact HC1_2.out)
                 rintro e w138 ⟨v252, rfl, ho0, hb⟩
                 refine ⟨_, rfl, ?_⟩
                 have n0_ := Aside0.mk (Kd.R_elder' (Cz.r HO_204002.out) (Kd.R_base ho0) hb)
                 have n1_ := Aside0.mk (Kd.R_elder' (Cz.r HO_210002.out) (Kd.R_base ho0) hb)
                 have n2_ := Aside0.mk (Kd.R_elder' (Cz.r HO_216002.out) (Kd.R_base ho0) hb)
                 have n3_ := Aside0.mk (Kd.R_elder' (Cz.r HO_223002.out) (Kd.R_base ho0) hb)
                 have n4_ := Aside0.mk (Kd.R_elder' (Cz.r HO248.out) (Kd.R_base ho0) hb)
                 have n5_ := Aside0.mk (Kd.R_lower (Kd.R_new' (Kd.R_new' (Kd.R_new' (Kd.R_new' (Kd.R_new' ho0 (Kd.R_lt (Cz.r HO_204002.out))) (Kd.R_lt (Cz.r HO_210002.out))) (Kd.R_lt (Cz.r HO_216002.out))) (Kd.R_lt (Cz.r HO_223002.out))) (Kd.R_lt (Cz.r HO248.out))) (below_size (Cz.w HB.out)))
                 have n6_ := Aside0.mk (blk_below (g := gb183) (o := .cells #[.int .i64 a0_0, .int .i64 a0_1, .slice A0_2 l0_2.length c0_2] 24 (0, 0)) (Cz.b BK183.out) hb)
                 have n7_ := Aside0.mk (blk_below (g := gb184) (o := .cells #[.int .i64 a1_0, .int .i64 a1_1, .slice A1_2 l1_2.length c1_2] 24 (0, 0)) (Cz.b BK184.out) hb)
                 have n8_ := Aside0.mk (blk_below (g := gb203) (o := .cells #[.int .i64 t197, .int .i64 t198, .slice Ao53 t199.length co53, .int .i64 t202] 35 (0, 0)) (Cz.b BK203.out) hb)
                 have n9_ := Aside0.mk (blk_below (g := gb209) (o := .cells #[.int .i64 t204, .int .i64 t205, .slice Ao64 t237.length co64] 27 (0, 0)) (Cz.b BK209.out) hb)
                 have n10_ := Aside0.mk (blk_below (g := gb215) (o := .cells #[.int .i64 t210, .int .i64 t211, .slice Ao74 t239.length co74] 27 (0, 0)) (Cz.b BK215.out) hb)
                 have n11_ := Aside0.mk (blk_below (g := gb222) (o := .cells #[.int .i64 t216, .int .i64 t217, .slice Ao84 t218.length co84, .int .i64 t221] 35 (0, 0)) (Cz.b BK222.out) hb)
                 have n12_ := Aside0.mk (blk_below (g := gb260) (o := .cells #[.int .i64 0, .int .i64 0, .slice none 0 0, .int .i64 0] 35 (0, 0)) (Cz.b BK260.out) hb)
                 have n13_ := Aside0.mk (below_step (Cz.w HB.out) hb)
                 clear HO_204002 HO_210002 HO_216002 HO_223002 HO248 BK183 BK184 BK203 BK209 BK215 BK222 BK260 HB
                 have HO_204002 := n0_
                 have HO_210002 := n1_
                 have HO_216002 := n2_
                 have HO_223002 := n3_
                 have HO248 := n4_
                 have HO253 := n5_
                 have BK183 := n6_
                 have BK184 := n7_
                 have BK203 := n8_
                 have BK209 := n9_
                 have BK215 := n10_
                 have BK222 := n11_
                 have BK260 := n12_
                 have HB := n13_
                 clear n0_ n1_ n2_ n3_ n4_ n5_ n6_ n7_ n8_ n9_ n10_ n11_ n12_ n13_
                 (try clear hb)
                 (try clear hb2)
                 (try clear hk)
                 (try clear hi)
                 (try clear ho0)
                 obtain ⟨Ao139, co139, eo139⟩ := Kd.R_slice HO248.out
                 (first | subst eo139 | (injection eo139 with f1_ f2_ f3_; have f4_ := f1_.symm; have f5_ := f3_.symm; clear f1_ f2_ f3_; subst f4_; subst f5_))
                 obtain ⟨Ao140, co140, eo140⟩ := Kd.R_slice HO253.out
                 (first | subst eo140 | (injection eo140 with f1_ f2_ f3_; have f4_ := f1_.symm; have f5_ := f3_.symm; clear f1_ f2_ f3_; subst f4_; subst f5_))
                 refine hK.out _ _ ⟨(blk_cell BK183.out 0).trans rfl, (blk_cell BK183.out 1).trans rfl, (blk_cell BK183.out 2).trans rfl, (blk_cell BK184.out 0).trans rfl, (blk_cell BK184.out 1).trans rfl, (blk_cell BK184.out 2).trans rfl⟩ (fun hHeld => ?_)
                 clear hK K
                 refine norm_ (a' := ?_) ?_ ?_
                 rotate_left
                 ·show Act.put _ (some 78) _ = _
                  simp only [Act.put, List.setIfInBounds_toArray, List.set_cons_zero, List.set_cons_succ, i64_w, i32_w]
                  rfl
                 refine one_ (i := 4) (N := some 79) #[true, true, true, true, true, true, false] rfl rfl (by kernel_rfl) (by decide) (fun K hK => ?_)
                 refine goes_ Try.func31 (by kernel_rfl) rfl #[.agg #[.int .i64 t244, .int .i64 t245, .slice Ao139 t246.length co139], .agg #[.int .i64 t249, .int .i64 t250, .slice Ao140 t251.length co140]] (by rfl) rfl rfl (by (try simp only [List.map_toArray, List.map_cons, List.map_nil]); first | done | rfl | (simp only [List.length_drop, List.length_take]; rfl)) ?_
                 with_reducible refine (impl_MatrixMul.calls kj34 t244 t245 _ _ t246 t249 t250 _ _ t251 t254 t255 t256 t259 _ ?side1 ?side2 ?side3 ?side4 A120.out).mono ?_
                 (case side1 => repeat (first | exact (Kd.R_reads' HO248.out).2.2 | (with_reducible refine Kd.C_alloc ?_ _) | (with_reducible refine Kd.C_drewN ?_ _) | (with_reducible refine Kd.C_drew ?_)))
                 (case side2 => exact (Kd.R_reads' HO248.out).2.1)
                 (case side3 => repeat (first | exact (Kd.R_reads' HO253.out).2.2 | (with_reducible refine Kd.C_alloc ?_ _) | (with_reducible refine Kd.C_drewN ?_ _) | (with_reducible refine Kd.C_drew ?_)))
                 (case side4 => exact (Kd.R_reads' HO253.out).2.1)
                 rintro e w141 ⟨v257, rfl, ho0, hb⟩
                 refine ⟨_, rfl, ?_⟩
                 have n0_ := Aside0.mk (Kd.R_elder' (Cz.r HO_204002.out) (Kd.R_base ho0) hb)
                 have n1_ := Aside0.mk (Kd.R_elder' (Cz.r HO_210002.out) (Kd.R_base ho0) hb)
                 have n2_ := Aside0.mk (Kd.R_elder' (Cz.r HO_216002.out) (Kd.R_base ho0) hb)
                 have n3_ := Aside0.mk (Kd.R_elder' (Cz.r HO_223002.out) (Kd.R_base ho0) hb)
                 have n4_ := Aside0.mk (Kd.R_elder' (Cz.r HO248.out) (Kd.R_base ho0) hb)
                 have n5_ := Aside0.mk (Kd.R_elder' (Cz.r HO253.out) (Kd.R_base ho0) hb)
                 have n6_ := Aside0.mk (Kd.R_lower (Kd.R_new' (Kd.R_new' (Kd.R_new' (Kd.R_new' (Kd.R_new' (Kd.R_new' ho0 (Kd.R_lt (Cz.r HO_204002.out))) (Kd.R_lt (Cz.r HO_210002.out))) (Kd.R_lt (Cz.r HO_216002.out))) (Kd.R_lt (Cz.r HO_223002.out))) (Kd.R_lt (Cz.r HO248.out))) (Kd.R_lt (Cz.r HO253.out))) (below_size (Cz.w HB.out)))
                 have n7_ := Aside0.mk (blk_below (g := gb183) (o := .cells #[.int .i64 a0_0, .int .i64 a0_1, .slice A0_2 l0_2.length c0_2] 24 (0, 0)) (Cz.b BK183.out) hb)
                 have n8_ := Aside0.mk (blk_below (g := gb184) (o := .cells #[.int .i64 a1_0, .int .i64 a1_1, .slice A1_2 l1_2.length c1_2] 24 (0, 0)) (Cz.b BK184.out) hb)
                 have n9_ := Aside0.mk (blk_below (g := gb203) (o := .cells #[.int .i64 t197, .int .i64 t198, .slice Ao53 t199.length co53, .int .i64 t202] 35 (0, 0)) (Cz.b BK203.out) hb)
                 have n10_ := Aside0.mk (blk_below (g := gb209) (o := .cells #[.int .i64 t204, .int .i64 t205, .slice Ao64 t237.length co64] 27 (0, 0)) (Cz.b BK209.out) hb)
                 have n11_ := Aside0.mk (blk_below (g := gb215) (o := .cells #[.int .i64 t210, .int .i64 t211, .slice Ao74 t239.length co74] 27 (0, 0)) (Cz.b BK215.out) hb)
                 have n12_ := Aside0.mk (blk_below (g := gb222) (o := .cells #[.int .i64 t216, .int .i64 t217, .slice Ao84 t218.length co84, .int .i64 t221] 35 (0, 0)) (Cz.b BK222.out) hb)
                 have n13_ := Aside0.mk (blk_below (g := gb260) (o := .cells #[.int .i64 0, .int .i64 0, .slice none 0 0, .int .i64 0] 35 (0, 0)) (Cz.b BK260.out) hb)
                 have n14_ := Aside0.mk (below_step (Cz.w HB.out) hb)
                 clear HO_204002 HO_210002 HO_216002 HO_223002 HO248 HO253 BK183 BK184 BK203 BK209 BK215 BK222 BK260 HB
                 have HO_204002 := n0_
                 have HO_210002 := n1_
                 have HO_216002 := n2_
                 have HO_223002 := n3_
                 have HO248 := n4_
                 have HO253 := n5_
                 have HO258 := n6_
                 have BK183 := n7_
                 have BK184 := n8_
                 have BK203 := n9_
                 have BK209 := n10_
                 have BK215 := n11_
                 have BK222 := n12_
                 have BK260 := n13_
                 have HB := n14_
                 clear n0_ n1_ n2_ n3_ n4_ n5_ n6_ n7_ n8_ n9_ n10_ n11_ n12_ n13_ n14_
                 (try clear hb)
                 (try clear hb2)
                 (try clear hk)
                 (try clear hi)
                 (try clear ho0)
                 refine hK.out _ _ ⟨(blk_cell BK183.out 0).trans rfl, (blk_cell BK183.out 1).trans rfl, (blk_cell BK183.out 2).trans rfl, (blk_cell BK184.out 0).trans rfl, (blk_cell BK184.out 1).trans rfl, (blk_cell BK184.out 2).trans rfl⟩ (fun hHeld => ?_)
                 clear hK K
                 refine norm_ (a' := ?_) ?_ ?_
                 rotate_left
                 ·show Act.put _ (some 79) _ = _
                  simp only [Act.put, List.setIfInBounds_toArray, List.set_cons_zero, List.set_cons_succ, i64_w, i32_w]
                  rfl
                 exact norm_ (by simp only [putAll, Act.put, List.setIfInBounds_toArray, List.set_cons_zero, List.set_cons_succ]) (hCont (.slice Ao139 t246.length co139, .slice Ao140 t251.length co140, v257, gb260) _ ⟨hHeld, (by (with_reducible repeat (first | apply Kd.R_alloc | apply Kd.R_drewN | apply Kd.R_drew)); exact Kd.R_mono HO248.out (fun _ hk => ⟨hk.1.2, ⟨hk.2, ⟨hk.1.1.1.1.1.2, ⟨hk.1.1.1.1.2, ⟨hk.1.1.1.2, hk.1.1.2⟩⟩⟩⟩⟩)), (by (with_reducible repeat (first | apply Kd.R_alloc | apply Kd.R_drewN | apply Kd.R_drew)); exact Kd.R_mono HO253.out (fun _ hk => ⟨hk.1.2, ⟨hk.2, ⟨hk.1.1.1.1.1.2, ⟨hk.1.1.1.1.2, ⟨hk.1.1.1.2, hk.1.1.2⟩⟩⟩⟩⟩)), (by (with_reducible repeat (first | apply Kd.R_alloc | apply Kd.R_drewN | apply Kd.R_drew)); exact Kd.R_mono HO258.out (fun _ hk => ⟨hk.1.2, ⟨hk.2, ⟨hk.1.1.1.1.1.2, ⟨hk.1.1.1.1.2, ⟨hk.1.1.1.2, hk.1.1.2⟩⟩⟩⟩⟩)), (by (with_reducible repeat (first | apply Kd.R_alloc | apply Kd.R_drewN | apply Kd.R_drew)); exact Kd.R_mono HO_204002.out (fun _ hk => ⟨hk.1.1.2, ⟨hk.1.2, ⟨hk.2, ⟨hk.1.1.1.1, ⟨hk.1.1.1.2.1, hk.1.1.1.2.2⟩⟩⟩⟩⟩)), (by (with_reducible repeat (first | apply Kd.R_alloc | apply Kd.R_drewN | apply Kd.R_drew)); exact Kd.R_mono HO_210002.out (fun _ hk => ⟨hk.1.1.2, ⟨hk.1.2, ⟨hk.2, ⟨hk.1.1.1.1, ⟨hk.1.1.1.2.1, hk.1.1.1.2.2⟩⟩⟩⟩⟩)), (by (with_reducible repeat (first | apply Kd.R_alloc | apply Kd.R_drewN | apply Kd.R_drew)); exact Kd.R_mono HO_216002.out (fun _ hk => ⟨hk.1.1.2, ⟨hk.1.2, ⟨hk.2, ⟨hk.1.1.1.1, ⟨hk.1.1.1.2.1, hk.1.1.1.2.2⟩⟩⟩⟩⟩)), (by (with_reducible repeat (first | apply Kd.R_alloc | apply Kd.R_drewN | apply Kd.R_drew)); exact Kd.R_mono HO_223002.out (fun _ hk => ⟨hk.1.1.2, ⟨hk.1.2, ⟨hk.2, ⟨hk.1.1.1.1, ⟨hk.1.1.1.2.1, hk.1.1.1.2.2⟩⟩⟩⟩⟩)), (Cz.b BK183.out), (Cz.b BK184.out), (Cz.b BK203.out), (Cz.b BK209.out), (Cz.b BK215.out), (Cz.b BK222.out), (Cz.b BK260.out), GW260.out, GE260.out, NB183_260.out, NB260_183.out, NB184_260.out, NB260_184.out, NB203_260.out, NB260_203.out, NB209_260.out, NB260_209.out, NB215_260.out, NB260_215.out, NB222_260.out, NB260_222.out, (Cz.w HB.out)⟩)
               ·skip
                refine box_step ?hg (N := 13) ?hd (cs := #[.int .i64 0, .int .i64 0, .slice none 0 0, .int .i64 0]) (t := 35) ?hr ?_; (case hd => rfl); (case hg => rfl); (case hr => first | (go_simp; done) | (go_simp; rfl))
                intro gb260 hg w136 hbox hb
                have n0_ := Aside0.mk (Kd.R_below (Cz.r HO_204002.out) hb)
                have n1_ := Aside0.mk (Kd.R_below (Cz.r HO_210002.out) hb)
                have n2_ := Aside0.mk (Kd.R_below (Cz.r HO_216002.out) hb)
                have n3_ := Aside0.mk (Kd.R_below (Cz.r HO_223002.out) hb)
                have n4_ := Aside0.mk (blk_below (g := gb183) (o := .cells #[.int .i64 a0_0, .int .i64 a0_1, .slice A0_2 l0_2.length c0_2] 24 (0, 0)) (Cz.b BK183.out) hb)
                have n5_ := Aside0.mk (blk_below (g := gb184) (o := .cells #[.int .i64 a1_0, .int .i64 a1_1, .slice A1_2 l1_2.length c1_2] 24 (0, 0)) (Cz.b BK184.out) hb)
                have n6_ := Aside0.mk (blk_below (g := gb203) (o := .cells #[.int .i64 t197, .int .i64 t198, .slice Ao53 t199.length co53, .int .i64 t202] 35 (0, 0)) (Cz.b BK203.out) hb)
                have n7_ := Aside0.mk (blk_below (g := gb209) (o := .cells #[.int .i64 t204, .int .i64 t205, .slice Ao64 t237.length co64] 27 (0, 0)) (Cz.b BK209.out) hb)
                have n8_ := Aside0.mk (blk_below (g := gb215) (o := .cells #[.int .i64 t210, .int .i64 t211, .slice Ao74 t239.length co74] 27 (0, 0)) (Cz.b BK215.out) hb)
                have n9_ := Aside0.mk (blk_below (g := gb222) (o := .cells #[.int .i64 t216, .int .i64 t217, .slice Ao84 t218.length co84, .int .i64 t221] 35 (0, 0)) (Cz.b BK222.out) hb)
                have n10_ := Aside0.mk (below_step (Cz.w HB.out) hb)
                have n11_ := Aside0.mk (hbox)
                have n12_ := Aside0.mk ((by rw [hg]; exact (below_size (Cz.w HB.out)) : w.heap.size ≤ gb260))
                have n13_ := Aside0.mk ((by rw [hg]; exact (below_size (Cz.w HB.out)) : w.heap.size ≤ gb260))
                have n14_ := Aside0.mk ((by rw [hg]; exact Nat.ne_of_lt (blk_lt (g := gb183) (o := .cells #[.int .i64 a0_0, .int .i64 a0_1, .slice A0_2 l0_2.length c0_2] 24 (0, 0)) (Cz.b BK183.out)) : gb183 ≠ gb260))
                have n15_ := Aside0.mk ((by rw [hg]; exact Nat.ne_of_gt (blk_lt (g := gb183) (o := .cells #[.int .i64 a0_0, .int .i64 a0_1, .slice A0_2 l0_2.length c0_2] 24 (0, 0)) (Cz.b BK183.out)) : gb260 ≠ gb183))
                have n16_ := Aside0.mk ((by rw [hg]; exact Nat.ne_of_lt (blk_lt (g := gb184) (o := .cells #[.int .i64 a1_0, .int .i64 a1_1, .slice A1_2 l1_2.length c1_2] 24 (0, 0)) (Cz.b BK184.out)) : gb184 ≠ gb260))
                have n17_ := Aside0.mk ((by rw [hg]; exact Nat.ne_of_gt (blk_lt (g := gb184) (o := .cells #[.int .i64 a1_0, .int .i64 a1_1, .slice A1_2 l1_2.length c1_2] 24 (0, 0)) (Cz.b BK184.out)) : gb260 ≠ gb184))
                have n18_ := Aside0.mk ((by rw [hg]; exact Nat.ne_of_lt (blk_lt (g := gb203) (o := .cells #[.int .i64 t197, .int .i64 t198, .slice Ao53 t199.length co53, .int .i64 t202] 35 (0, 0)) (Cz.b BK203.out)) : gb203 ≠ gb260))
                have n19_ := Aside0.mk ((by rw [hg]; exact Nat.ne_of_gt (blk_lt (g := gb203) (o := .cells #[.int .i64 t197, .int .i64 t198, .slice Ao53 t199.length co53, .int .i64 t202] 35 (0, 0)) (Cz.b BK203.out)) : gb260 ≠ gb203))
                have n20_ := Aside0.mk ((by rw [hg]; exact Nat.ne_of_lt (blk_lt (g := gb209) (o := .cells #[.int .i64 t204, .int .i64 t205, .slice Ao64 t237.length co64] 27 (0, 0)) (Cz.b BK209.out)) : gb209 ≠ gb260))
                have n21_ := Aside0.mk ((by rw [hg]; exact Nat.ne_of_gt (blk_lt (g := gb209) (o := .cells #[.int .i64 t204, .int .i64 t205, .slice Ao64 t237.length co64] 27 (0, 0)) (Cz.b BK209.out)) : gb260 ≠ gb209))
                have n22_ := Aside0.mk ((by rw [hg]; exact Nat.ne_of_lt (blk_lt (g := gb215) (o := .cells #[.int .i64 t210, .int .i64 t211, .slice Ao74 t239.length co74] 27 (0, 0)) (Cz.b BK215.out)) : gb215 ≠ gb260))
                have n23_ := Aside0.mk ((by rw [hg]; exact Nat.ne_of_gt (blk_lt (g := gb215) (o := .cells #[.int .i64 t210, .int .i64 t211, .slice Ao74 t239.length co74] 27 (0, 0)) (Cz.b BK215.out)) : gb260 ≠ gb215))
                have n24_ := Aside0.mk ((by rw [hg]; exact Nat.ne_of_lt (blk_lt (g := gb222) (o := .cells #[.int .i64 t216, .int .i64 t217, .slice Ao84 t218.length co84, .int .i64 t221] 35 (0, 0)) (Cz.b BK222.out)) : gb222 ≠ gb260))
                have n25_ := Aside0.mk ((by rw [hg]; exact Nat.ne_of_gt (blk_lt (g := gb222) (o := .cells #[.int .i64 t216, .int .i64 t217, .slice Ao84 t218.length co84, .int .i64 t221] 35 (0, 0)) (Cz.b BK222.out)) : gb260 ≠ gb222))
                clear HO_204002 HO_210002 HO_216002 HO_223002 BK183 BK184 BK203 BK209 BK215 BK222 HB
                have HO_204002 := n0_
                have HO_210002 := n1_
                have HO_216002 := n2_
                have HO_223002 := n3_
                have BK183 := n4_
                have BK184 := n5_
                have BK203 := n6_
                have BK209 := n7_
                have BK215 := n8_
                have BK222 := n9_
                have HB := n10_
                have BK260 := n11_
                have GW260 := n12_
                have GE260 := n13_
                have NB183_260 := n14_
                have NB260_183 := n15_
                have NB184_260 := n16_
                have NB260_184 := n17_
                have NB203_260 := n18_
                have NB260_203 := n19_
                have NB209_260 := n20_
                have NB260_209 := n21_
                have NB215_260 := n22_
                have NB260_215 := n23_
                have NB222_260 := n24_
                have NB260_222 := n25_
                clear n0_ n1_ n2_ n3_ n4_ n5_ n6_ n7_ n8_ n9_ n10_ n11_ n12_ n13_ n14_ n15_ n16_ n17_ n18_ n19_ n20_ n21_ n22_ n23_ n24_ n25_
                clear hb hbox hg
                refine hK.out _ _ ⟨(blk_cell BK183.out 0).trans rfl, (blk_cell BK183.out 1).trans rfl, (blk_cell BK183.out 2).trans rfl, (blk_cell BK184.out 0).trans rfl, (blk_cell BK184.out 1).trans rfl, (blk_cell BK184.out 2).trans rfl⟩ (fun hHeld => ?_)
                clear hK K
                refine norm_ (a' := ?_) ?_ ?_
                rotate_left
                ·show Act.put _ (some 13) _ = _
                 simp only [Act.put, List.setIfInBounds_toArray, List.set_cons_zero, List.set_cons_succ, i64_w, i32_w]
                 rfl
                refine one_ (i := 1) (N := some 76) #[true, true, true, false, false, true, false] rfl rfl (by kernel_rfl) (by decide) (fun K hK => ?_)
                refine goes_ Try.func17 (by kernel_rfl) rfl #[.agg #[.int .i64 a0_0, .int .i64 a0_1, .slice A0_2 l0_2.length c0_2]] (by rfl) rfl rfl (by (try simp only [List.map_toArray, List.map_cons, List.map_nil]); first | done | rfl | (simp only [List.length_drop, List.length_take]; rfl)) ?_
                with_reducible refine (laws_toMatrix.calls kj34 a0_0 a0_1 _ _ l0_2 t244 t245 t246 _ ?side1 ?side2 A118.out).mono ?_
                (case side1 => exact Cz.c HR0_2.out HB.out)
                (case side2 => exact HC0_2.out)
                rintro e w137 ⟨v247, rfl, ho0, hb⟩
                refine ⟨_, rfl, ?_⟩
                have n0_ := Aside0.mk (Kd.R_elder' (Cz.r HO_204002.out) (Kd.R_base ho0) hb)
                have n1_ := Aside0.mk (Kd.R_elder' (Cz.r HO_210002.out) (Kd.R_base ho0) hb)
                have n2_ := Aside0.mk (Kd.R_elder' (Cz.r HO_216002.out) (Kd.R_base ho0) hb)
                have n3_ := Aside0.mk (Kd.R_elder' (Cz.r HO_223002.out) (Kd.R_base ho0) hb)
                have n4_ := Aside0.mk (Kd.R_lower (Kd.R_new' (Kd.R_new' (Kd.R_new' (Kd.R_new' ho0 (Kd.R_lt (Cz.r HO_204002.out))) (Kd.R_lt (Cz.r HO_210002.out))) (Kd.R_lt (Cz.r HO_216002.out))) (Kd.R_lt (Cz.r HO_223002.out))) (below_size (Cz.w HB.out)))
                have n5_ := Aside0.mk (blk_below (g := gb183) (o := .cells #[.int .i64 a0_0, .int .i64 a0_1, .slice A0_2 l0_2.length c0_2] 24 (0, 0)) (Cz.b BK183.out) hb)
                have n6_ := Aside0.mk (blk_below (g := gb184) (o := .cells #[.int .i64 a1_0, .int .i64 a1_1, .slice A1_2 l1_2.length c1_2] 24 (0, 0)) (Cz.b BK184.out) hb)
                have n7_ := Aside0.mk (blk_below (g := gb203) (o := .cells #[.int .i64 t197, .int .i64 t198, .slice Ao53 t199.length co53, .int .i64 t202] 35 (0, 0)) (Cz.b BK203.out) hb)
                have n8_ := Aside0.mk (blk_below (g := gb209) (o := .cells #[.int .i64 t204, .int .i64 t205, .slice Ao64 t237.length co64] 27 (0, 0)) (Cz.b BK209.out) hb)
                have n9_ := Aside0.mk (blk_below (g := gb215) (o := .cells #[.int .i64 t210, .int .i64 t211, .slice Ao74 t239.length co74] 27 (0, 0)) (Cz.b BK215.out) hb)
                have n10_ := Aside0.mk (blk_below (g := gb222) (o := .cells #[.int .i64 t216, .int .i64 t217, .slice Ao84 t218.length co84, .int .i64 t221] 35 (0, 0)) (Cz.b BK222.out) hb)
                have n11_ := Aside0.mk (blk_below (g := gb260) (o := .cells #[.int .i64 0, .int .i64 0, .slice none 0 0, .int .i64 0] 35 (0, 0)) (Cz.b BK260.out) hb)
                have n12_ := Aside0.mk (below_step (Cz.w HB.out) hb)
                clear HO_204002 HO_210002 HO_216002 HO_223002 BK183 BK184 BK203 BK209 BK215 BK222 BK260 HB
                have HO_204002 := n0_
                have HO_210002 := n1_
                have HO_216002 := n2_
                have HO_223002 := n3_
                have HO248 := n4_
                have BK183 := n5_
                have BK184 := n6_
                have BK203 := n7_
                have BK209 := n8_
                have BK215 := n9_
                have BK222 := n10_
                have BK260 := n11_
                have HB := n12_
                clear n0_ n1_ n2_ n3_ n4_ n5_ n6_ n7_ n8_ n9_ n10_ n11_ n12_
                (try clear hb)
                (try clear hb2)
                (try clear hk)
                (try clear hi)
                (try clear ho0)
                refine hK.out _ _ ⟨(blk_cell BK183.out 0).trans rfl, (blk_cell BK183.out 1).trans rfl, (blk_cell BK183.out 2).trans rfl, (blk_cell BK184.out 0).trans rfl, (blk_cell BK184.out 1).trans rfl, (blk_cell BK184.out 2).trans rfl⟩ (fun hHeld => ?_)
                clear hK K
                refine norm_ (a' := ?_) ?_ ?_
                rotate_left
                ·show Act.put _ (some 76) _ = _
                 simp only [Act.put, List.setIfInBounds_toArray, List.set_cons_zero, List.set_cons_succ, i64_w, i32_w]
                 rfl
                refine one_ (i := 3) (N := some 78) #[true, true, true, true, false, true, false] rfl rfl (by kernel_rfl) (by decide) (fun K hK => ?_)
                refine goes_ Try.func17 (by kernel_rfl) rfl #[.agg #[.int .i64 a1_0, .int .i64 a1_1, .slice A1_2 l1_2.length c1_2]] (by rfl) rfl rfl (by (try simp only [List.map_toArray, List.map_cons, List.map_nil]); first | done | rfl | (simp only [List.length_drop, List.length_take]; rfl)) ?_
                with_reducible refine (laws_toMatrix.calls kj34 a1_0 a1_1 _ _ l1_2 t249 t250 t251 _ ?side1 ?side2 A119.out).mono ?_
                (case side1 => exact Cz.c HR1_2.out HB.out)
                (case side2 => exact HC1_2.out)
                rintro e w138 ⟨v252, rfl, ho0, hb⟩
                refine ⟨_, rfl, ?_⟩
                have n0_ := Aside0.mk (Kd.R_elder' (Cz.r HO_204002.out) (Kd.R_base ho0) hb)
                have n1_ := Aside0.mk (Kd.R_elder' (Cz.r HO_210002.out) (Kd.R_base ho0) hb)
                have n2_ := Aside0.mk (Kd.R_elder' (Cz.r HO_216002.out) (Kd.R_base ho0) hb)
                have n3_ := Aside0.mk (Kd.R_elder' (Cz.r HO_223002.out) (Kd.R_base ho0) hb)
                have n4_ := Aside0.mk (Kd.R_elder' (Cz.r HO248.out) (Kd.R_base ho0) hb)
                have n5_ := Aside0.mk (Kd.R_lower (Kd.R_new' (Kd.R_new' (Kd.R_new' (Kd.R_new' (Kd.R_new' ho0 (Kd.R_lt (Cz.r HO_204002.out))) (Kd.R_lt (Cz.r HO_210002.out))) (Kd.R_lt (Cz.r HO_216002.out))) (Kd.R_lt (Cz.r HO_223002.out))) (Kd.R_lt (Cz.r HO248.out))) (below_size (Cz.w HB.out)))
                have n6_ := Aside0.mk (blk_below (g := gb183) (o := .cells #[.int .i64 a0_0, .int .i64 a0_1, .slice A0_2 l0_2.length c0_2] 24 (0, 0)) (Cz.b BK183.out) hb)
                have n7_ := Aside0.mk (blk_below (g := gb184) (o := .cells #[.int .i64 a1_0, .int .i64 a1_1, .slice A1_2 l1_2.length c1_2] 24 (0, 0)) (Cz.b BK184.out) hb)
                have n8_ := Aside0.mk (blk_below (g := gb203) (o := .cells #[.int .i64 t197, .int .i64 t198, .slice Ao53 t199.length co53, .int .i64 t202] 35 (0, 0)) (Cz.b BK203.out) hb)
                have n9_ := Aside0.mk (blk_below (g := gb209) (o := .cells #[.int .i64 t204, .int .i64 t205, .slice Ao64 t237.length co64] 27 (0, 0)) (Cz.b BK209.out) hb)
                have n10_ := Aside0.mk (blk_below (g := gb215) (o := .cells #[.int .i64 t210, .int .i64 t211, .slice Ao74 t239.length co74] 27 (0, 0)) (Cz.b BK215.out) hb)
                have n11_ := Aside0.mk (blk_below (g := gb222) (o := .cells #[.int .i64 t216, .int .i64 t217, .slice Ao84 t218.length co84, .int .i64 t221] 35 (0, 0)) (Cz.b BK222.out) hb)
                have n12_ := Aside0.mk (blk_below (g := gb260) (o := .cells #[.int .i64 0, .int .i64 0, .slice none 0 0, .int .i64 0] 35 (0, 0)) (Cz.b BK260.out) hb)
                have n13_ := Aside0.mk (below_step (Cz.w HB.out) hb)
                clear HO_204002 HO_210002 HO_216002 HO_223002 HO248 BK183 BK184 BK203 BK209 BK215 BK222 BK260 HB
                have HO_204002 := n0_
                have HO_210002 := n1_
                have HO_216002 := n2_
                have HO_223002 := n3_
                have HO248 := n4_
                have HO253 := n5_
                have BK183 := n6_
                have BK184 := n7_
                have BK203 := n8_
                have BK209 := n9_
                have BK215 := n10_
                have BK222 := n11_
                have BK260 := n12_
                have HB := n13_
                clear n0_ n1_ n2_ n3_ n4_ n5_ n6_ n7_ n8_ n9_ n10_ n11_ n12_ n13_
                (try clear hb)
                (try clear hb2)
                (try clear hk)
                (try clear hi)
                (try clear ho0)
                obtain ⟨Ao139, co139, eo139⟩ := Kd.R_slice HO248.out
                (first | subst eo139 | (injection eo139 with f1_ f2_ f3_; have f4_ := f1_.symm; have f5_ := f3_.symm; clear f1_ f2_ f3_; subst f4_; subst f5_))
                obtain ⟨Ao140, co140, eo140⟩ := Kd.R_slice HO253.out
                (first | subst eo140 | (injection eo140 with f1_ f2_ f3_; have f4_ := f1_.symm; have f5_ := f3_.symm; clear f1_ f2_ f3_; subst f4_; subst f5_))
                refine hK.out _ _ ⟨(blk_cell BK183.out 0).trans rfl, (blk_cell BK183.out 1).trans rfl, (blk_cell BK183.out 2).trans rfl, (blk_cell BK184.out 0).trans rfl, (blk_cell BK184.out 1).trans rfl, (blk_cell BK184.out 2).trans rfl⟩ (fun hHeld => ?_)
                clear hK K
                refine norm_ (a' := ?_) ?_ ?_
                rotate_left
                ·show Act.put _ (some 78) _ = _
                 simp only [Act.put, List.setIfInBounds_toArray, List.set_cons_zero, List.set_cons_succ, i64_w, i32_w]
                 rfl
                refine one_ (i := 4) (N := some 79) #[true, true, true, true, true, true, false] rfl rfl (by kernel_rfl) (by decide) (fun K hK => ?_)
                refine goes_ Try.func31 (by kernel_rfl) rfl #[.agg #[.int .i64 t244, .int .i64 t245, .slice Ao139 t246.length co139], .agg #[.int .i64 t249, .int .i64 t250, .slice Ao140 t251.length co140]] (by rfl) rfl rfl (by (try simp only [List.map_toArray, List.map_cons, List.map_nil]); first | done | rfl | (simp only [List.length_drop, List.length_take]; rfl)) ?_
                with_reducible refine (impl_MatrixMul.calls kj34 t244 t245 _ _ t246 t249 t250 _ _ t251 t254 t255 t256 t259 _ ?side1 ?side2 ?side3 ?side4 A120.out).mono ?_
                (case side1 => repeat (first | exact (Kd.R_reads' HO248.out).2.2 | (with_reducible refine Kd.C_alloc ?_ _) | (with_reducible refine Kd.C_drewN ?_ _) | (with_reducible refine Kd.C_drew ?_)))
                (case side2 => exact (Kd.R_reads' HO248.out).2.1)
                (case side3 => repeat (first | exact (Kd.R_reads' HO253.out).2.2 | (with_reducible refine Kd.C_alloc ?_ _) | (with_reducible refine Kd.C_drewN ?_ _) | (with_reducible refine Kd.C_drew ?_)))
                (case side4 => exact (Kd.R_reads' HO253.out).2.1)
                rintro e w141 ⟨v257, rfl, ho0, hb⟩
                refine ⟨_, rfl, ?_⟩
                have n0_ := Aside0.mk (Kd.R_elder' (Cz.r HO_204002.out) (Kd.R_base ho0) hb)
                have n1_ := Aside0.mk (Kd.R_elder' (Cz.r HO_210002.out) (Kd.R_base ho0) hb)
                have n2_ := Aside0.mk (Kd.R_elder' (Cz.r HO_216002.out) (Kd.R_base ho0) hb)
                have n3_ := Aside0.mk (Kd.R_elder' (Cz.r HO_223002.out) (Kd.R_base ho0) hb)
                have n4_ := Aside0.mk (Kd.R_elder' (Cz.r HO248.out) (Kd.R_base ho0) hb)
                have n5_ := Aside0.mk (Kd.R_elder' (Cz.r HO253.out) (Kd.R_base ho0) hb)
                have n6_ := Aside0.mk (Kd.R_lower (Kd.R_new' (Kd.R_new' (Kd.R_new' (Kd.R_new' (Kd.R_new' (Kd.R_new' ho0 (Kd.R_lt (Cz.r HO_204002.out))) (Kd.R_lt (Cz.r HO_210002.out))) (Kd.R_lt (Cz.r HO_216002.out))) (Kd.R_lt (Cz.r HO_223002.out))) (Kd.R_lt (Cz.r HO248.out))) (Kd.R_lt (Cz.r HO253.out))) (below_size (Cz.w HB.out)))
                have n7_ := Aside0.mk (blk_below (g := gb183) (o := .cells #[.int .i64 a0_0, .int .i64 a0_1, .slice A0_2 l0_2.length c0_2] 24 (0, 0)) (Cz.b BK183.out) hb)
                have n8_ := Aside0.mk (blk_below (g := gb184) (o := .cells #[.int .i64 a1_0, .int .i64 a1_1, .slice A1_2 l1_2.length c1_2] 24 (0, 0)) (Cz.b BK184.out) hb)
                have n9_ := Aside0.mk (blk_below (g := gb203) (o := .cells #[.int .i64 t197, .int .i64 t198, .slice Ao53 t199.length co53, .int .i64 t202] 35 (0, 0)) (Cz.b BK203.out) hb)
                have n10_ := Aside0.mk (blk_below (g := gb209) (o := .cells #[.int .i64 t204, .int .i64 t205, .slice Ao64 t237.length co64] 27 (0, 0)) (Cz.b BK209.out) hb)
                have n11_ := Aside0.mk (blk_below (g := gb215) (o := .cells #[.int .i64 t210, .int .i64 t211, .slice Ao74 t239.length co74] 27 (0, 0)) (Cz.b BK215.out) hb)
                have n12_ := Aside0.mk (blk_below (g := gb222) (o := .cells #[.int .i64 t216, .int .i64 t217, .slice Ao84 t218.length co84, .int .i64 t221] 35 (0, 0)) (Cz.b BK222.out) hb)
                have n13_ := Aside0.mk (blk_below (g := gb260) (o := .cells #[.int .i64 0, .int .i64 0, .slice none 0 0, .int .i64 0] 35 (0, 0)) (Cz.b BK260.out) hb)
                have n14_ := Aside0.mk (below_step (Cz.w HB.out) hb)
                clear HO_204002 HO_210002 HO_216002 HO_223002 HO248 HO253 BK183 BK184 BK203 BK209 BK215 BK222 BK260 HB
                have HO_204002 := n0_
                have HO_210002 := n1_
                have HO_216002 := n2_
                have HO_223002 := n3_
                have HO248 := n4_
                have HO253 := n5_
                have HO258 := n6_
                have BK183 := n7_
                have BK184 := n8_
                have BK203 := n9_
                have BK209 := n10_
                have BK215 := n11_
                have BK222 := n12_
                have BK260 := n13_
                have HB := n14_
                clear n0_ n1_ n2_ n3_ n4_ n5_ n6_ n7_ n8_ n9_ n10_ n11_ n12_ n13_ n14_
                (try clear hb)
                (try clear hb2)
                (try clear hk)
                (try clear hi)
                (try clear ho0)
                refine hK.out _ _ ⟨(blk_cell BK183.out 0).trans rfl, (blk_cell BK183.out 1).trans rfl, (blk_cell BK183.out 2).trans rfl, (blk_cell BK184.out 0).trans rfl, (blk_cell BK184.out 1).trans rfl, (blk_cell BK184.out 2).trans rfl⟩ (fun hHeld => ?_)
                clear hK K
                refine norm_ (a' := ?_) ?_ ?_
                rotate_left
                ·show Act.put _ (some 79) _ = _
                 simp only [Act.put, List.setIfInBounds_toArray, List.set_cons_zero, List.set_cons_succ, i64_w, i32_w]
                 rfl
                exact norm_ (by simp only [putAll, Act.put, List.setIfInBounds_toArray, List.set_cons_zero, List.set_cons_succ]) (hCont (.slice Ao139 t246.length co139, .slice Ao140 t251.length co140, v257, gb260) _ ⟨hHeld, (by (with_reducible repeat (first | apply Kd.R_alloc | apply Kd.R_drewN | apply Kd.R_drew)); exact Kd.R_mono HO248.out (fun _ hk => ⟨hk.1.2, ⟨hk.2, ⟨hk.1.1.1.1.1.2, ⟨hk.1.1.1.1.2, ⟨hk.1.1.1.2, hk.1.1.2⟩⟩⟩⟩⟩)), (by (with_reducible repeat (first | apply Kd.R_alloc | apply Kd.R_drewN | apply Kd.R_drew)); exact Kd.R_mono HO253.out (fun _ hk => ⟨hk.1.2, ⟨hk.2, ⟨hk.1.1.1.1.1.2, ⟨hk.1.1.1.1.2, ⟨hk.1.1.1.2, hk.1.1.2⟩⟩⟩⟩⟩)), (by (with_reducible repeat (first | apply Kd.R_alloc | apply Kd.R_drewN | apply Kd.R_drew)); exact Kd.R_mono HO258.out (fun _ hk => ⟨hk.1.2, ⟨hk.2, ⟨hk.1.1.1.1.1.2, ⟨hk.1.1.1.1.2, ⟨hk.1.1.1.2, hk.1.1.2⟩⟩⟩⟩⟩)), (by (with_reducible repeat (first | apply Kd.R_alloc | apply Kd.R_drewN | apply Kd.R_drew)); exact Kd.R_mono HO_204002.out (fun _ hk => ⟨hk.1.1.2, ⟨hk.1.2, ⟨hk.2, ⟨hk.1.1.1.1, ⟨hk.1.1.1.2.1, hk.1.1.1.2.2⟩⟩⟩⟩⟩)), (by (with_reducible repeat (first | apply Kd.R_alloc | apply Kd.R_drewN | apply Kd.R_drew)); exact Kd.R_mono HO_210002.out (fun _ hk => ⟨hk.1.1.2, ⟨hk.1.2, ⟨hk.2, ⟨hk.1.1.1.1, ⟨hk.1.1.1.2.1, hk.1.1.1.2.2⟩⟩⟩⟩⟩)), (by (with_reducible repeat (first | apply Kd.R_alloc | apply Kd.R_drewN | apply Kd.R_drew)); exact Kd.R_mono HO_216002.out (fun _ hk => ⟨hk.1.1.2, ⟨hk.1.2, ⟨hk.2, ⟨hk.1.1.1.1, ⟨hk.1.1.1.2.1, hk.1.1.1.2.2⟩⟩⟩⟩⟩)), (by (with_reducible repeat (first | apply Kd.R_alloc | apply Kd.R_drewN | apply Kd.R_drew)); exact Kd.R_mono HO_223002.out (fun _ hk => ⟨hk.1.1.2, ⟨hk.1.2, ⟨hk.2, ⟨hk.1.1.1.1, ⟨hk.1.1.1.2.1, hk.1.1.1.2.2⟩⟩⟩⟩⟩)), (Cz.b BK183.out), (Cz.b BK184.out), (Cz.b BK203.out), (Cz.b BK209.out), (Cz.b BK215.out), (Cz.b BK222.out), (Cz.b BK260.out), GW260.out, GE260.out, NB183_260.out, NB260_183.out, NB184_260.out, NB260_184.out, NB203_260.out, NB260_203.out, NB209_260.out, NB260_209.out, NB215_260.out, NB260_215.out, NB222_260.out, NB260_222.out, (Cz.w HB.out)⟩)
              rintro ⟨v247, v252, v257, gb260⟩ w142 ⟨hS_, h0_, h1_, h2_, h3_, h4_, h5_, h6_, h7_, h8_, h9_, h10_, h11_, h12_, h13_, h14_, h15_, h16_, h17_, h18_, h19_, h20_, h21_, h22_, h23_, h24_, h25_, h26_, h27_, h28_⟩
              have n0_ : Aside0 (Kd.R (Kd.int .i64) 2 w142 w.heap.size (fun k_ => some k_ ≠ (v252 : Value).ownBlock ∧ some k_ ≠ (v257 : Value).ownBlock ∧ some k_ ≠ (.slice Ao53 t199.length co53 : Value).ownBlock ∧ some k_ ≠ (.slice Ao64 t237.length co64 : Value).ownBlock ∧ some k_ ≠ (.slice Ao74 t239.length co74 : Value).ownBlock ∧ some k_ ≠ (.slice Ao84 t218.length co84 : Value).ownBlock) v247 t246) := ⟨h0_⟩
              have n1_ : Aside0 (Kd.R (Kd.int .i64) 2 w142 w.heap.size (fun k_ => some k_ ≠ (v247 : Value).ownBlock ∧ some k_ ≠ (v257 : Value).ownBlock ∧ some k_ ≠ (.slice Ao53 t199.length co53 : Value).ownBlock ∧ some k_ ≠ (.slice Ao64 t237.length co64 : Value).ownBlock ∧ some k_ ≠ (.slice Ao74 t239.length co74 : Value).ownBlock ∧ some k_ ≠ (.slice Ao84 t218.length co84 : Value).ownBlock) v252 t251) := ⟨h1_⟩
              have n2_ : Aside0 (Kd.R (Kd.int .i64) 2 w142 w.heap.size (fun k_ => some k_ ≠ (v247 : Value).ownBlock ∧ some k_ ≠ (v252 : Value).ownBlock ∧ some k_ ≠ (.slice Ao53 t199.length co53 : Value).ownBlock ∧ some k_ ≠ (.slice Ao64 t237.length co64 : Value).ownBlock ∧ some k_ ≠ (.slice Ao74 t239.length co74 : Value).ownBlock ∧ some k_ ≠ (.slice Ao84 t218.length co84 : Value).ownBlock) v257 t256) := ⟨h2_⟩
              have n3_ : Aside0 (Kd.R (Kd.int .i64) 2 w142 w.heap.size (fun k_ => some k_ ≠ (v247 : Value).ownBlock ∧ some k_ ≠ (v252 : Value).ownBlock ∧ some k_ ≠ (v257 : Value).ownBlock ∧ some k_ ≠ (.slice Ao64 t237.length co64 : Value).ownBlock ∧ some k_ ≠ (.slice Ao74 t239.length co74 : Value).ownBlock ∧ some k_ ≠ (.slice Ao84 t218.length co84 : Value).ownBlock) (.slice Ao53 t199.length co53) t199) := ⟨h3_⟩
              have n4_ : Aside0 (Kd.R (Kd.int .i64) 2 w142 w.heap.size (fun k_ => some k_ ≠ (v247 : Value).ownBlock ∧ some k_ ≠ (v252 : Value).ownBlock ∧ some k_ ≠ (v257 : Value).ownBlock ∧ some k_ ≠ (.slice Ao53 t199.length co53 : Value).ownBlock ∧ some k_ ≠ (.slice Ao74 t239.length co74 : Value).ownBlock ∧ some k_ ≠ (.slice Ao84 t218.length co84 : Value).ownBlock) (.slice Ao64 t237.length co64) t237) := ⟨h4_⟩
              have n5_ : Aside0 (Kd.R (Kd.int .i64) 2 w142 w.heap.size (fun k_ => some k_ ≠ (v247 : Value).ownBlock ∧ some k_ ≠ (v252 : Value).ownBlock ∧ some k_ ≠ (v257 : Value).ownBlock ∧ some k_ ≠ (.slice Ao53 t199.length co53 : Value).ownBlock ∧ some k_ ≠ (.slice Ao64 t237.length co64 : Value).ownBlock ∧ some k_ ≠ (.slice Ao84 t218.length co84 : Value).ownBlock) (.slice Ao74 t239.length co74) t239) := ⟨h5_⟩
              have n6_ : Aside0 (Kd.R (Kd.int .i64) 2 w142 w.heap.size (fun k_ => some k_ ≠ (v247 : Value).ownBlock ∧ some k_ ≠ (v252 : Value).ownBlock ∧ some k_ ≠ (v257 : Value).ownBlock ∧ some k_ ≠ (.slice Ao53 t199.length co53 : Value).ownBlock ∧ some k_ ≠ (.slice Ao64 t237.length co64 : Value).ownBlock ∧ some k_ ≠ (.slice Ao74 t239.length co74 : Value).ownBlock) (.slice Ao84 t218.length co84) t242) := ⟨h6_⟩
              have n7_ : Aside0 (w142.heap[gb183]? = some (.cells #[.int .i64 a0_0, .int .i64 a0_1, .slice A0_2 l0_2.length c0_2] 24 (0, 0))) := ⟨h7_⟩
              have n8_ : Aside0 (w142.heap[gb184]? = some (.cells #[.int .i64 a1_0, .int .i64 a1_1, .slice A1_2 l1_2.length c1_2] 24 (0, 0))) := ⟨h8_⟩
              have n9_ : Aside0 (w142.heap[gb203]? = some (.cells #[.int .i64 t197, .int .i64 t198, .slice Ao53 t199.length co53, .int .i64 t202] 35 (0, 0))) := ⟨h9_⟩
              have n10_ : Aside0 (w142.heap[gb209]? = some (.cells #[.int .i64 t204, .int .i64 t205, .slice Ao64 t237.length co64] 27 (0, 0))) := ⟨h10_⟩
              have n11_ : Aside0 (w142.heap[gb215]? = some (.cells #[.int .i64 t210, .int .i64 t211, .slice Ao74 t239.length co74] 27 (0, 0))) := ⟨h11_⟩
              have n12_ : Aside0 (w142.heap[gb222]? = some (.cells #[.int .i64 t216, .int .i64 t217, .slice Ao84 t218.length co84, .int .i64 t221] 35 (0, 0))) := ⟨h12_⟩
              have n13_ : Aside0 (w142.heap[gb260]? = some (.cells #[.int .i64 0, .int .i64 0, .slice none 0 0, .int .i64 0] 35 (0, 0))) := ⟨h13_⟩
              have n14_ : Aside0 (w.heap.size ≤ gb260) := ⟨h14_⟩
              have n15_ : Aside0 (w.heap.size ≤ gb260) := ⟨h15_⟩
              have n16_ : Aside0 (gb183 ≠ gb260) := ⟨h16_⟩
              have n17_ : Aside0 (gb260 ≠ gb183) := ⟨h17_⟩
              have n18_ : Aside0 (gb184 ≠ gb260) := ⟨h18_⟩
              have n19_ : Aside0 (gb260 ≠ gb184) := ⟨h19_⟩
              have n20_ : Aside0 (gb203 ≠ gb260) := ⟨h20_⟩
              have n21_ : Aside0 (gb260 ≠ gb203) := ⟨h21_⟩
              have n22_ : Aside0 (gb209 ≠ gb260) := ⟨h22_⟩
              have n23_ : Aside0 (gb260 ≠ gb209) := ⟨h23_⟩
              have n24_ : Aside0 (gb215 ≠ gb260) := ⟨h24_⟩
              have n25_ : Aside0 (gb260 ≠ gb215) := ⟨h25_⟩
              have n26_ : Aside0 (gb222 ≠ gb260) := ⟨h26_⟩
              have n27_ : Aside0 (gb260 ≠ gb222) := ⟨h27_⟩
              have n28_ : Aside0 (Below w.heap.size w w142) := ⟨h28_⟩
              clear HO_204002 HO_210002 HO_216002 HO_223002 BK183 BK184 BK203 BK209 BK215 BK222 HB
              clear h0_ h1_ h2_ h3_ h4_ h5_ h6_ h7_ h8_ h9_ h10_ h11_ h12_ h13_ h14_ h15_ h16_ h17_ h18_ h19_ h20_ h21_ h22_ h23_ h24_ h25_ h26_ h27_ h28_
              have HO248 := n0_
              have HO253 := n1_
              have HO258 := n2_
              have HO_204002 := n3_
              have HO_210002 := n4_
              have HO_216002 := n5_
              have HO_223002 := n6_
              have BK183 := n7_
              have BK184 := n8_
              have BK203 := n9_
              have BK209 := n10_
              have BK215 := n11_
              have BK222 := n12_
              have BK260 := n13_
              have GW260 := n14_
              have GE260 := n15_
              have NB183_260 := n16_
              have NB260_183 := n17_
              have NB184_260 := n18_
              have NB260_184 := n19_
              have NB203_260 := n20_
              have NB260_203 := n21_
              have NB209_260 := n22_
              have NB260_209 := n23_
              have NB215_260 := n24_
              have NB260_215 := n25_
              have NB222_260 := n26_
              have NB260_222 := n27_
              have HB := n28_
              clear n0_ n1_ n2_ n3_ n4_ n5_ n6_ n7_ n8_ n9_ n10_ n11_ n12_ n13_ n14_ n15_ n16_ n17_ n18_ n19_ n20_ n21_ n22_ n23_ n24_ n25_ n26_ n27_ n28_
              have hHeld : w142.cell? ⟨gb183, 0, none⟩ = some (.int .i64 a0_0) ∧ w142.cell? ⟨gb183, 1, none⟩ = some (.int .i64 a0_1) ∧ w142.cell? ⟨gb183, 2, none⟩ = some (.slice A0_2 l0_2.length c0_2) ∧ w142.cell? ⟨gb184, 0, none⟩ = some (.int .i64 a1_0) ∧ w142.cell? ⟨gb184, 1, none⟩ = some (.int .i64 a1_1) ∧ w142.cell? ⟨gb184, 2, none⟩ = some (.slice A1_2 l1_2.length c1_2) := hS_
              obtain ⟨Ao145, co145, eo145⟩ := Kd.R_slice HO258.out
              (first | subst eo145 | (injection eo145 with f1_ f2_ f3_; have f4_ := f1_.symm; have f5_ := f3_.symm; clear f1_ f2_ f3_; subst f4_; subst f5_))
              refine norm_ (a' := ?_) ?_ ?_
              rotate_left
              ·simp only [putAll, Act.put, List.setIfInBounds_toArray, List.set_cons_zero, List.set_cons_succ]
               rfl
              refine one_ (i := 6) (N := none) #[true, true, true, true, true, true, true] rfl rfl (by kernel_rfl) (by decide) (fun K hK => ?_)
              have hs143 : w142.cell? ⟨gb260, 0, none⟩ = some (.int .i64 0) := (blk_cell BK260.out 0).trans rfl
              have hfs143 := blk_frozen BK260.out 0
              have hns143_0 := NB183_260.out
              have hns143_1 := NB184_260.out
              have hns143_2 := NB203_260.out
              have hns143_3 := NB209_260.out
              have hns143_4 := NB215_260.out
              have hns143_5 := NB222_260.out
              have hms143_0 := NB260_183.out
              have hms143_1 := NB260_184.out
              have hms143_2 := NB260_203.out
              have hms143_3 := NB260_209.out
              have hms143_4 := NB260_215.out
              have hms143_5 := NB260_222.out
              have hs144 : w142.cell? ⟨gb260, 1, none⟩ = some (.int .i64 0) := (blk_cell BK260.out 1).trans rfl
              have hfs144 := blk_frozen BK260.out 1
              have hns144_0 := NB183_260.out
              have hns144_1 := NB184_260.out
              have hns144_2 := NB203_260.out
              have hns144_3 := NB209_260.out
              have hns144_4 := NB215_260.out
              have hns144_5 := NB222_260.out
              have hms144_0 := NB260_183.out
              have hms144_1 := NB260_184.out
              have hms144_2 := NB260_203.out
              have hms144_3 := NB260_209.out
              have hms144_4 := NB260_215.out
              have hms144_5 := NB260_222.out
              have hs146 : w142.cell? ⟨gb260, 2, none⟩ = some (.slice none 0 0) := (blk_cell BK260.out 2).trans rfl
              have hfs146 := blk_frozen BK260.out 2
              have hns146_0 := NB183_260.out
              have hns146_1 := NB184_260.out
              have hns146_2 := NB203_260.out
              have hns146_3 := NB209_260.out
              have hns146_4 := NB215_260.out
              have hns146_5 := NB222_260.out
              have hms146_0 := NB260_183.out
              have hms146_1 := NB260_184.out
              have hms146_2 := NB260_203.out
              have hms146_3 := NB260_209.out
              have hms146_4 := NB260_215.out
              have hms146_5 := NB260_222.out
              have hs147 : w142.cell? ⟨gb260, 3, none⟩ = some (.int .i64 0) := (blk_cell BK260.out 3).trans rfl
              have hfs147 := blk_frozen BK260.out 3
              have hns147_0 := NB183_260.out
              have hns147_1 := NB184_260.out
              have hns147_2 := NB203_260.out
              have hns147_3 := NB209_260.out
              have hns147_4 := NB215_260.out
              have hns147_5 := NB222_260.out
              have hms147_0 := NB260_183.out
              have hms147_1 := NB260_184.out
              have hms147_2 := NB260_203.out
              have hms147_3 := NB260_209.out
              have hms147_4 := NB260_215.out
              have hms147_5 := NB260_222.out
              refine skip_ (w1 := ?_) (by rfl) rfl ?_ ?_
              rotate_left
              ·go_simp
               rfl
              refine hK.out _ _ ⟨((cell_far (p := ⟨gb260, _, none⟩) NB183_260.out _).trans (((cell_far (p := ⟨gb260, _, none⟩) NB183_260.out _).trans (((cell_far (p := ⟨gb260, _, none⟩) NB183_260.out _).trans (((cell_far (p := ⟨gb260, _, none⟩) NB183_260.out _).trans (hHeld.1)))))))), ((cell_far (p := ⟨gb260, _, none⟩) NB183_260.out _).trans (((cell_far (p := ⟨gb260, _, none⟩) NB183_260.out _).trans (((cell_far (p := ⟨gb260, _, none⟩) NB183_260.out _).trans (((cell_far (p := ⟨gb260, _, none⟩) NB183_260.out _).trans (hHeld.2.1)))))))), ((cell_far (p := ⟨gb260, _, none⟩) NB183_260.out _).trans (((cell_far (p := ⟨gb260, _, none⟩) NB183_260.out _).trans (((cell_far (p := ⟨gb260, _, none⟩) NB183_260.out _).trans (((cell_far (p := ⟨gb260, _, none⟩) NB183_260.out _).trans (hHeld.2.2.1)))))))), ((cell_far (p := ⟨gb260, _, none⟩) NB184_260.out _).trans (((cell_far (p := ⟨gb260, _, none⟩) NB184_260.out _).trans (((cell_far (p := ⟨gb260, _, none⟩) NB184_260.out _).trans (((cell_far (p := ⟨gb260, _, none⟩) NB184_260.out _).trans (hHeld.2.2.2.1)))))))), ((cell_far (p := ⟨gb260, _, none⟩) NB184_260.out _).trans (((cell_far (p := ⟨gb260, _, none⟩) NB184_260.out _).trans (((cell_far (p := ⟨gb260, _, none⟩) NB184_260.out _).trans (((cell_far (p := ⟨gb260, _, none⟩) NB184_260.out _).trans (hHeld.2.2.2.2.1)))))))), ((cell_far (p := ⟨gb260, _, none⟩) NB184_260.out _).trans (((cell_far (p := ⟨gb260, _, none⟩) NB184_260.out _).trans (((cell_far (p := ⟨gb260, _, none⟩) NB184_260.out _).trans (((cell_far (p := ⟨gb260, _, none⟩) NB184_260.out _).trans (hHeld.2.2.2.2.2))))))))⟩ (fun hHeld => ?_)
              clear hK K
              refine done_ (by kernel_rfl) ?_
              have hnb148 := NB260_183.out
              have hnc148 := NB183_260.out
              have hnb149 := NB260_184.out
              have hnc149 := NB184_260.out
              have hnb150 := NB260_203.out
              have hnc150 := NB203_260.out
              have hnb151 := NB260_209.out
              have hnc151 := NB209_260.out
              have hnb152 := NB260_215.out
              have hnc152 := NB215_260.out
              have hnb153 := NB260_222.out
              have hnc153 := NB222_260.out
              have hcz154_0 : w142.cell? ⟨gb260, 0, none⟩ = some (.int .i64 0) := (blk_cell BK260.out 0).trans rfl
              have hcz154_1 : w142.cell? ⟨gb260, 1, none⟩ = some (.int .i64 0) := (blk_cell BK260.out 1).trans rfl
              have hcz154_2 : w142.cell? ⟨gb260, 2, none⟩ = some (.slice none 0 0) := (blk_cell BK260.out 2).trans rfl
              have hcz154_3 : w142.cell? ⟨gb260, 3, none⟩ = some (.int .i64 0) := (blk_cell BK260.out 3).trans rfl
              have hfz154_0 := blk_frozen BK260.out 0
              have hfz154_1 := blk_frozen BK260.out 1
              have hfz154_2 := blk_frozen BK260.out 2
              have hfz154_3 := blk_frozen BK260.out 3
              have hnb155 := NB203_183.out
              have hnc155 := NB183_203.out
              have hnb156 := NB203_184.out
              have hnc156 := NB184_203.out
              have hnb157 := NB203_209.out
              have hnc157 := NB209_203.out
              have hnb158 := NB203_215.out
              have hnc158 := NB215_203.out
              have hcz159_0 : w142.cell? ⟨gb203, 0, none⟩ = some (.int .i64 t197) := (blk_cell BK203.out 0).trans rfl
              have hcz159_1 : w142.cell? ⟨gb203, 1, none⟩ = some (.int .i64 t198) := (blk_cell BK203.out 1).trans rfl
              have hcz159_2 : w142.cell? ⟨gb203, 2, none⟩ = some (.slice Ao53 t199.length co53) := (blk_cell BK203.out 2).trans rfl
              have hcz159_3 : w142.cell? ⟨gb203, 3, none⟩ = some (.int .i64 t202) := (blk_cell BK203.out 3).trans rfl
              have hfz159_0 := blk_frozen BK203.out 0
              have hfz159_1 := blk_frozen BK203.out 1
              have hfz159_2 := blk_frozen BK203.out 2
              have hfz159_3 := blk_frozen BK203.out 3
              try go_wp2_with (first | ((with_reducible refine gate_callee (f := 32) rfl ?_); refine goesL_ (some 82) rfl rfl Try.func32 (by kernel_rfl) rfl #[.agg #[.int .i64 t254, .int .i64 t255, .slice Ao145 t256.length co145, .int .i64 t259], .agg #[.int .i64 t197, .int .i64 t198, .slice Ao53 t199.length co53, .int .i64 t202]] rfl (by (try simp only [List.map_toArray, List.map_cons, List.map_nil]); first | done | rfl | (simp only [List.length_drop, List.length_take]; rfl)) ?_; (with_reducible refine (laws_eqMatrixOut.calls kj34 t254 t255 _ _ t256 t259 t197 t198 _ _ t199 t202 true _ ?side1 ?side2 ?side3 ?side4 A121.out).mono ?_); (case side1 => refine (Kd.R_reads' (e := 2) (base := w.heap.size) (ok := fun k_ => (some k_ ≠ (v247 : Value).ownBlock ∧ (some k_ ≠ (v252 : Value).ownBlock ∧ (some k_ ≠ (.slice Ao53 t199.length co53 : Value).ownBlock ∧ (some k_ ≠ (.slice Ao64 t237.length co64 : Value).ownBlock ∧ (some k_ ≠ (.slice Ao74 t239.length co74 : Value).ownBlock ∧ some k_ ≠ (.slice Ao84 t218.length co84 : Value).ownBlock)))))) (n := t256.length) (c := co145) ?_).2.2; exact (Cz.q4 HO258.out BK260.out)); (case side2 => exact (Kd.R_reads' HO258.out).2.1); (case side3 => refine (Kd.R_reads' (e := 2) (base := w.heap.size) (ok := fun k_ => (some k_ ≠ (v247 : Value).ownBlock ∧ (some k_ ≠ (v252 : Value).ownBlock ∧ (some k_ ≠ (.slice Ao145 t256.length co145 : Value).ownBlock ∧ (some k_ ≠ (.slice Ao64 t237.length co64 : Value).ownBlock ∧ (some k_ ≠ (.slice Ao74 t239.length co74 : Value).ownBlock ∧ some k_ ≠ (.slice Ao84 t218.length co84 : Value).ownBlock)))))) (n := t199.length) (c := co53) ?_).2.2; exact (Cz.q4 HO_204002.out BK260.out)); (case side4 => exact (Kd.R_reads' HO_204002.out).2.1); rintro e w160 ⟨rfl, hb⟩; refine ⟨_, rfl, ?_⟩; have n0_ := Aside0.mk (Kd.R_below (Cz.q4 HO_204002.out BK260.out) hb); have n1_ := Aside0.mk (Kd.R_below (Cz.q4 HO_210002.out BK260.out) hb); have n2_ := Aside0.mk (Kd.R_below (Cz.q4 HO_216002.out BK260.out) hb); have n3_ := Aside0.mk (Kd.R_below (Cz.q4 HO_223002.out BK260.out) hb); have n4_ := Aside0.mk (Kd.R_below (Cz.q4 HO248.out BK260.out) hb); have n5_ := Aside0.mk (Kd.R_below (Cz.q4 HO253.out BK260.out) hb); have n6_ := Aside0.mk (Kd.R_below (Cz.q4 HO258.out BK260.out) hb); have n7_ := Aside0.mk (blk_below (g := gb183) (o := .cells #[.int .i64 a0_0, .int .i64 a0_1, .slice A0_2 l0_2.length c0_2] 24 (0, 0)) (Cz.f BK183.out NB183_260.out) hb); have n8_ := Aside0.mk (blk_below (g := gb184) (o := .cells #[.int .i64 a1_0, .int .i64 a1_1, .slice A1_2 l1_2.length c1_2] 24 (0, 0)) (Cz.f BK184.out NB184_260.out) hb); have n9_ := Aside0.mk (blk_below (g := gb203) (o := .cells #[.int .i64 t197, .int .i64 t198, .slice Ao53 t199.length co53, .int .i64 t202] 35 (0, 0)) (Cz.f BK203.out NB203_260.out) hb); have n10_ := Aside0.mk (blk_below (g := gb209) (o := .cells #[.int .i64 t204, .int .i64 t205, .slice Ao64 t237.length co64] 27 (0, 0)) (Cz.f BK209.out NB209_260.out) hb); have n11_ := Aside0.mk (blk_below (g := gb215) (o := .cells #[.int .i64 t210, .int .i64 t211, .slice Ao74 t239.length co74] 27 (0, 0)) (Cz.f BK215.out NB215_260.out) hb); have n12_ := Aside0.mk (blk_below (g := gb222) (o := .cells #[.int .i64 t216, .int .i64 t217, .slice Ao84 t218.length co84, .int .i64 t221] 35 (0, 0)) (Cz.f BK222.out NB222_260.out) hb); have n13_ := Aside0.mk (blk_below (g := gb260) (o := .cells #[.int .i64 t254, .int .i64 t255, .slice Ao145 t256.length co145, .int .i64 t259] 35 (0, 0)) (Cz.p4 BK260.out) hb); have n14_ := Aside0.mk (below_step (Cz.w HB.out) hb); clear HO_204002 HO_210002 HO_216002 HO_223002 HO248 HO253 HO258 BK183 BK184 BK203 BK209 BK215 BK222 BK260 HB; have HO_204002 := n0_; have HO_210002 := n1_; have HO_216002 := n2_; have HO_223002 := n3_; have HO248 := n4_; have HO253 := n5_; have HO258 := n6_; have BK183 := n7_; have BK184 := n8_; have BK203 := n9_; have BK209 := n10_; have BK215 := n11_; have BK222 := n12_; have BK260 := n13_; have HB := n14_; clear n0_ n1_ n2_ n3_ n4_ n5_ n6_ n7_ n8_ n9_ n10_ n11_ n12_ n13_ n14_; (try clear hb); (try clear hb2); (try clear hk); (try clear hi); have hcz161_0 : w160.cell? ⟨gb222, 0, none⟩ = some (.int .i64 t216) := (blk_cell BK222.out 0).trans rfl; have hcz161_1 : w160.cell? ⟨gb222, 1, none⟩ = some (.int .i64 t217) := (blk_cell BK222.out 1).trans rfl; have hcz161_2 : w160.cell? ⟨gb222, 2, none⟩ = some (.slice Ao84 t218.length co84) := (blk_cell BK222.out 2).trans rfl; have hcz161_3 : w160.cell? ⟨gb222, 3, none⟩ = some (.int .i64 t221) := (blk_cell BK222.out 3).trans rfl; have hfz161_0 := blk_frozen BK222.out 0; have hfz161_1 := blk_frozen BK222.out 1; have hfz161_2 := blk_frozen BK222.out 2; have hfz161_3 := blk_frozen BK222.out 3) | ((with_reducible refine gate_callee (f := 35) rfl ?_); refine goesL_ (some 86) rfl rfl Try.func35 (by kernel_rfl) rfl #[.agg #[.int .i64 t216, .int .i64 t217, .slice Ao84 t242.length co84, .int .i64 t221], .int .i64 1] rfl (by (try simp only [List.map_toArray, List.map_cons, List.map_nil]); first | done | (rw [show t242.length = t218.length from (Kd.R_reads' HO_223002.out).1.symm] <;> rfl) | rfl | (simp only [List.length_drop, List.length_take]; rfl)) ?_; (with_reducible refine (laws_heldMatrixOut.calls kj34 t216 t217 _ _ t242 t221 1 t262 _ ?side1 ?side2 A123.out).mono ?_); (case side1 => repeat (first | exact (Kd.R_reads' HO_223002.out).2.2 | (with_reducible refine Kd.C_alloc ?_ _) | (with_reducible refine Kd.C_drewN ?_ _) | (with_reducible refine Kd.C_drew ?_))); (case side2 => rw [show t242.length = t218.length from (Kd.R_reads' HO_223002.out).1.symm]; exact (Kd.R_reads' HO_223002.out).2.1); rintro e w162 ⟨rfl, hb⟩; refine ⟨_, rfl, ?_⟩; have n0_ := Aside0.mk (Kd.R_below (Cz.r HO_204002.out) hb); have n1_ := Aside0.mk (Kd.R_below (Cz.r HO_210002.out) hb); have n2_ := Aside0.mk (Kd.R_below (Cz.r HO_216002.out) hb); have n3_ := Aside0.mk (Kd.R_below (Cz.r HO_223002.out) hb); have n4_ := Aside0.mk (Kd.R_below (Cz.r HO248.out) hb); have n5_ := Aside0.mk (Kd.R_below (Cz.r HO253.out) hb); have n6_ := Aside0.mk (Kd.R_below (Cz.r HO258.out) hb); have n7_ := Aside0.mk (blk_below (g := gb183) (o := .cells #[.int .i64 a0_0, .int .i64 a0_1, .slice A0_2 l0_2.length c0_2] 24 (0, 0)) (Cz.b BK183.out) hb); have n8_ := Aside0.mk (blk_below (g := gb184) (o := .cells #[.int .i64 a1_0, .int .i64 a1_1, .slice A1_2 l1_2.length c1_2] 24 (0, 0)) (Cz.b BK184.out) hb); have n9_ := Aside0.mk (blk_below (g := gb203) (o := .cells #[.int .i64 t197, .int .i64 t198, .slice Ao53 t199.length co53, .int .i64 t202] 35 (0, 0)) (Cz.b BK203.out) hb); have n10_ := Aside0.mk (blk_below (g := gb209) (o := .cells #[.int .i64 t204, .int .i64 t205, .slice Ao64 t237.length co64] 27 (0, 0)) (Cz.b BK209.out) hb); have n11_ := Aside0.mk (blk_below (g := gb215) (o := .cells #[.int .i64 t210, .int .i64 t211, .slice Ao74 t239.length co74] 27 (0, 0)) (Cz.b BK215.out) hb); have n12_ := Aside0.mk (blk_below (g := gb222) (o := .cells #[.int .i64 t216, .int .i64 t217, .slice Ao84 t218.length co84, .int .i64 t221] 35 (0, 0)) (Cz.b BK222.out) hb); have n13_ := Aside0.mk (blk_below (g := gb260) (o := .cells #[.int .i64 t254, .int .i64 t255, .slice Ao145 t256.length co145, .int .i64 t259] 35 (0, 0)) (Cz.b BK260.out) hb); have n14_ := Aside0.mk (below_step (Cz.w HB.out) hb); clear HO_204002 HO_210002 HO_216002 HO_223002 HO248 HO253 HO258 BK183 BK184 BK203 BK209 BK215 BK222 BK260 HB; have HO_204002 := n0_; have HO_210002 := n1_; have HO_216002 := n2_; have HO_223002 := n3_; have HO248 := n4_; have HO253 := n5_; have HO258 := n6_; have BK183 := n7_; have BK184 := n8_; have BK203 := n9_; have BK209 := n10_; have BK215 := n11_; have BK222 := n12_; have BK260 := n13_; have HB := n14_; clear n0_ n1_ n2_ n3_ n4_ n5_ n6_ n7_ n8_ n9_ n10_ n11_ n12_ n13_ n14_; (try clear hb); (try clear hb2); (try clear hk); (try clear hi)))
              go_ret
              exact ⟨by first | rfl | (simp [errW_none, errW_some] <;> rfl) | (simp [*, errW_none, errW_some] <;> rfl), Cz.w HB.out⟩
             ·rw [if_neg c125] at H
              exact absurd H (by simp)
           ·replace c122 := Bool.eq_false_iff.mpr c122
            subst c122
            have H1 : (none) = some r := by rw [if_neg (show ¬ (false = true) by decide)] at H; exact H
            clear H
            have H := H1
            clear H1
            exact absurd H (by simp)
          ·rw [if_neg c117] at H
           exact absurd H (by simp)
     ·replace c32 := Bool.eq_false_iff.mpr c32
      subst c32
      have H1 : (none) = some r := by rw [if_neg (show ¬ (false = true) by decide)] at H; exact H
      clear H
      have H := H1
      clear H1
      exact absurd H (by simp)
    ·replace c29 := Bool.eq_false_iff.mpr c29
     subst c29
     have H1 : (none) = some r := by rw [if_neg (show ¬ (false = true) by decide)] at H; exact H
     clear H
     have H := H1
     clear H1
     exact absurd H (by simp)
   ·replace c26 := Bool.eq_false_iff.mpr c26
    subst c26
    have H1 : (none) = some r := by rw [if_neg (show ¬ (false = true) by decide)] at H; exact H
    clear H
    have H := H1
    clear H1
    exact absurd H (by simp)
end Go.Proofs.Ytlololbhlnapkaa.XFnExactMatrixMul

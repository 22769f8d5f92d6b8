/- Plain functions of what the law reaches, proofs that the calls come to them, and the law's row: written by a program of this session (xprint.py) over the kit's print. No conditions beyond each lemma's own. -/
import Derived.Test.YtlololbhlnapkaaKxCy
import Derived.Test.YtlololbhlnapkaaKxXFnExactRepairx0
import Derived.Test.YtlololbhlnapkaaKxXFnExactRepairx2
import Derived.Test.YtlololbhlnapkaaKxXFnExactRepairx3
import Derived.Test.YtlololbhlnapkaaKxXFnExactRepairx4
import Derived.Test.YtlololbhlnapkaaKxXFnExactRepairx5
import Derived.Test.YtlololbhlnapkaaKxXFnExactRepairx7
namespace Go.Proofs.Ytlololbhlnapkaa.XFnExactRepair
open Go.RowKit Go.Proofs.YtlololbhlnapkaaW.PrintWords Go.Proofs.YtlololbhlnapkaaW.PrintLast Go.Proofs.YtlololbhlnapkaaW.PrintMore
attribute [local go_sem] max2_int min2_int max_two min_two max_three min_three max_four min_four   -- for this text's walks alone
set_option linter.unusedVariables false
set_option linter.unusedSimpArgs false
def spec_MatrixInv.j0 : Nat → Bool → Int → Int → List Int → Option (Int × Int × List Int × Int)
  | 0, _, _, _, _ => none
  | k + 1, x13, x237000, x237001, x237002 => if x13 = true then (none) else ((spec_l03Unit.f k x237000).bind fun bt245 => ((spec_l03Copy.f x237000 x237001 x237002).bind fun bt251 => ((spec_l03Steps.f k bt251.1 bt251.2.1 bt251.2.2 bt245.1 bt245.2.1 bt245.2.2).bind fun bt256 => (if bt256.1 < x237000 then (none) else (some (bt245.1, bt245.2.1, bt256.2.2, 0))))))
def spec_MatrixInv.f (k : Nat) (a0_0 : Int) (a0_1 : Int) (l0_2 : List Int) : Option (Int × Int × List Int × Int) := (spec_MatrixRight.f k a0_0 a0_1 l0_2).bind fun t238 => (if t238 = true then (spec_MatrixInv.j0 k (a0_0 != a0_1) a0_0 a0_1 l0_2) else (spec_MatrixInv.j0 k true a0_0 a0_1 l0_2))
set_option maxHeartbeats 8000000 in
set_option maxRecDepth 100000 in
theorem spec_MatrixInv.calls (k : Nat) (a0_0 : Int) (a0_1 : Int) (A0_2 : Option Addr) (c0_2 : Nat) (l0_2 : List Int) (r1 : Int) (r2 : Int) (r3 : List Int) (r4 : Int) (w : World) (hr0_2 : Kd.C (Kd.int .i64) w A0_2 l0_2.length l0_2) (hc0_2 : l0_2.length ≤ c0_2) (h : spec_MatrixInv.f k a0_0 a0_1 l0_2 = some (r1, r2, r3, r4)) :
  Calls Try.prog 49 #[.agg #[.int .i64 a0_0, .int .i64 a0_1, .slice A0_2 l0_2.length c0_2]] w fun e w' => ∃ v2_ : Value, e = .returned (.agg #[.int .i64 r1, .int .i64 r2, v2_, .int .i64 r4]) ∧ Kd.R (Kd.int .i64) 2 w' w.heap.size (fun _ => True) v2_ r3 ∧ Below w.heap.size w w' := by
 have hu27 := Try.underlying27
 have hu35 := Try.underlying35
 have HR0_2 := Aside0.mk hr0_2
 have HC0_2 := Aside0.mk hc0_2
 clear hr0_2 hc0_2
 have HB := Aside0.mk (Below.refl w.heap.size w)
 have H : ((spec_MatrixRight.f k a0_0 a0_1 l0_2).bind fun t238 => (if t238 = true then (spec_MatrixInv.j0 k (a0_0 != a0_1) a0_0 a0_1 l0_2) else (spec_MatrixInv.j0 k true a0_0 a0_1 l0_2))) = some (r1, r2, r3, r4) := h
 clear h
 have HC2 := Aside0.mk H
 clear H
 go_enter Try.func49, Try.ntmps49
 go_upto_region 1 with (first | ((with_reducible refine gate_dst (N := 1) rfl ?_); refine box_event ?hg (N := 1) ?hd (cs := #[.int .i64 a0_0, .int .i64 a0_1, .slice A0_2 l0_2.length c0_2]) (t := 27) ?hr ?_; (case hd => rfl); (case hg => rfl); (case hr => first | (go_simp; done) | (go_simp; rfl)); intro gb236 hg w3 hbox hb; have n_ := Cy.a4 (below_step (Cz.w HB.out) hb) hbox (Cy.gw hg HB.out) (Cy.gw hg HB.out); clear HB; obtain ⟨HB, BK236, GW236, GE236⟩ := n_; clear hb hbox hg) | ((with_reducible refine gate_dst (N := 2) rfl ?_); refine box_event ?hg (N := 2) ?hd (cs := #[.int .i64 0, .int .i64 0, .slice none 0 0, .int .i64 0]) (t := 35) ?hr ?_; (case hd => rfl); (case hg => rfl); (case hr => first | (go_simp; done) | (go_simp; rfl)); intro gb237 hg w4 hbox hb; have n_ := Cy.a7 (blk_below (g := gb236) (o := .cells #[.int .i64 a0_0, .int .i64 a0_1, .slice A0_2 l0_2.length c0_2] 27 (0, 0)) (Cz.b BK236.out) hb) (below_step (Cz.w HB.out) hb) hbox (Cy.gw hg HB.out) (Cy.gw hg HB.out) (by rw [hg]; exact Nat.ne_of_lt (blk_lt (g := gb236) (o := .cells #[.int .i64 a0_0, .int .i64 a0_1, .slice A0_2 l0_2.length c0_2] 27 (0, 0)) (Cz.b BK236.out)) : gb236 ≠ gb237) (by rw [hg]; exact Nat.ne_of_gt (blk_lt (g := gb236) (o := .cells #[.int .i64 a0_0, .int .i64 a0_1, .slice A0_2 l0_2.length c0_2] 27 (0, 0)) (Cz.b BK236.out)) : gb237 ≠ gb236); clear BK236 HB; obtain ⟨BK236, HB, BK237, GW237, GE237, NB236_237, NB237_236⟩ := n_; clear hb hbox hg))
 (try simp only [Act.put, List.setIfInBounds_toArray, List.set_cons_zero, List.set_cons_succ])
 go_cut [13] (fun v13 wc => ∃ (kq : Nat) (x13_1 : Bool), v13 = .bool x13_1 ∧ Aside0 (spec_MatrixInv.j0 kq x13_1 a0_0 a0_1 l0_2 = some (r1, r2, r3, r4)) ∧ Aside0 (kq ≤ k) ∧ Aside0 (wc.heap[gb236]? = some (.cells #[.int .i64 a0_0, .int .i64 a0_1, (.slice A0_2 l0_2.length c0_2)] 27 (0, 0))) ∧ Aside0 (wc.heap[gb237]? = some (.cells #[.int .i64 0, .int .i64 0, (.slice none 0 0), .int .i64 0] 35 (0, 0))) ∧ Aside0 (Below w.heap.size w wc))
 case first =>
  have H := HC2.out
  clear HC2
  replace H := Option.bind_eq_some_iff.mp H
  obtain ⟨t238, A50, H⟩ := H
  replace H : (if t238 = true then (spec_MatrixInv.j0 k (a0_0 != a0_1) a0_0 a0_1 l0_2) else (spec_MatrixInv.j0 k true a0_0 a0_1 l0_2)) = some (r1, r2, r3, r4) := H
  have A5 := Aside0.mk A50
  clear A50
  by_cases c6 : t238 = true
  ·subst c6
   have H1 : (spec_MatrixInv.j0 k (a0_0 != a0_1) a0_0 a0_1 l0_2) = some (r1, r2, r3, r4) := by rw [if_pos rfl] at H; exact H
   clear H
   have H := H1
   clear H1
   have H' := Aside0.mk H
   clear H
   have hnb7 := NB236_237.out
   have hnc7 := NB237_236.out
   obtain ⟨hcz8_0, hcz8_1, hcz8_2, hfz8_0, hfz8_1, hfz8_2⟩ := Cy.z3 BK236.out
   go_wp2_with (first | ((with_reducible refine gate_callee (f := 16) rfl ?_); refine goesL_ (some 5) rfl rfl Try.func16 (by kernel_rfl) rfl #[.agg #[.int .i64 a0_0, .int .i64 a0_1, .slice A0_2 l0_2.length c0_2]] rfl (by (try simp only [List.map_toArray, List.map_cons, List.map_nil]); first | done | rfl | (simp only [List.length_drop, List.length_take]; rfl)) ?_; (with_reducible refine (spec_MatrixRight.calls k a0_0 a0_1 _ _ l0_2 true _ ?side1 ?side2 A5.out).mono ?_); (case side1 => exact Cz.c HR0_2.out HB.out); (case side2 => exact HC0_2.out); rintro e w9 ⟨rfl, hb⟩; refine ⟨_, rfl, ?_⟩; have n_ := Cy.a3 (blk_below (g := gb236) (o := .cells #[.int .i64 a0_0, .int .i64 a0_1, .slice A0_2 l0_2.length c0_2] 27 (0, 0)) (Cz.b BK236.out) hb) (blk_below (g := gb237) (o := .cells #[.int .i64 0, .int .i64 0, .slice none 0 0, .int .i64 0] 35 (0, 0)) (Cz.b BK237.out) hb) (below_step (Cz.w HB.out) hb); clear BK236 BK237 HB; obtain ⟨BK236, BK237, HB⟩ := n_; (try clear hb); (try clear hb2); (try clear hk); (try clear hi); obtain ⟨hcz10_0, hcz10_1, hcz10_2, hfz10_0, hfz10_1, hfz10_2⟩ := Cy.z3 BK236.out))
   go_meet
   case rel => exact ⟨_, ((a0_0 != a0_1)), (by first | rfl | (simp; done) | (simp [*]; done)), H', ⟨by first | omega | exact Nat.le_refl _⟩, ⟨Cz.b BK236.out⟩, ⟨Cz.b BK237.out⟩, ⟨Cz.w HB.out⟩⟩
  ·replace c6 := Bool.eq_false_iff.mpr c6
   subst c6
   have H1 : (spec_MatrixInv.j0 k true a0_0 a0_1 l0_2) = some (r1, r2, r3, r4) := by rw [if_neg (show ¬ (false = true) by decide)] at H; exact H
   clear H
   have H := H1
   clear H1
   have H' := Aside0.mk H
   clear H
   have hnb11 := NB236_237.out
   have hnc11 := NB237_236.out
   obtain ⟨hcz12_0, hcz12_1, hcz12_2, hfz12_0, hfz12_1, hfz12_2⟩ := Cy.z3 BK236.out
   go_wp2_with (first | ((with_reducible refine gate_callee (f := 16) rfl ?_); refine goesL_ (some 5) rfl rfl Try.func16 (by kernel_rfl) rfl #[.agg #[.int .i64 a0_0, .int .i64 a0_1, .slice A0_2 l0_2.length c0_2]] rfl (by (try simp only [List.map_toArray, List.map_cons, List.map_nil]); first | done | rfl | (simp only [List.length_drop, List.length_take]; rfl)) ?_; (with_reducible refine (spec_MatrixRight.calls k a0_0 a0_1 _ _ l0_2 false _ ?side1 ?side2 A5.out).mono ?_); (case side1 => exact Cz.c HR0_2.out HB.out); (case side2 => exact HC0_2.out); rintro e w13 ⟨rfl, hb⟩; refine ⟨_, rfl, ?_⟩; have n_ := Cy.a3 (blk_below (g := gb236) (o := .cells #[.int .i64 a0_0, .int .i64 a0_1, .slice A0_2 l0_2.length c0_2] 27 (0, 0)) (Cz.b BK236.out) hb) (blk_below (g := gb237) (o := .cells #[.int .i64 0, .int .i64 0, .slice none 0 0, .int .i64 0] 35 (0, 0)) (Cz.b BK237.out) hb) (below_step (Cz.w HB.out) hb); clear BK236 BK237 HB; obtain ⟨BK236, BK237, HB⟩ := n_; (try clear hb); (try clear hb2); (try clear hk); (try clear hi)))
   go_meet
   case rel => exact ⟨_, (true), (by first | rfl | (simp; done) | (simp [*]; done)), H', ⟨by first | omega | exact Nat.le_refl _⟩, ⟨Cz.b BK236.out⟩, ⟨Cz.b BK237.out⟩, ⟨Cz.w HB.out⟩⟩
 case rest =>
  clear HC2
  try clear c1
  try clear p2
  try clear c4
  try clear c6
  try clear c7
  try clear c11
  try clear hcz10_0
  try clear hcz10_1
  try clear hcz10_2
  try clear hcz12_0
  try clear hcz12_1
  try clear hcz12_2
  try clear hcz8_0
  try clear hcz8_1
  try clear hcz8_2
  try clear hfz10_0
  try clear hfz10_1
  try clear hfz10_2
  try clear hfz12_0
  try clear hfz12_1
  try clear hfz12_2
  try clear hfz8_0
  try clear hfz8_1
  try clear hfz8_2
  obtain ⟨kq, x13_1, rfl, HA, HJ1, BK236, BK237, HB⟩ := hcut
  cases kq with
  | zero => exact absurd HA.out (by simp [spec_MatrixInv.j0])
  | succ kj1 =>
   have H := HA.out
   clear HA
   simp only [spec_MatrixInv.j0] at H
   by_cases c14 : x13_1 = true
   ·subst c14
    have H1 : (none) = some (r1, r2, r3, r4) := by rw [if_pos rfl] at H; exact H
    clear H
    have H := H1
    clear H1
    exact absurd H (by simp)
   ·replace c14 := Bool.eq_false_iff.mpr c14
    subst c14
    have H1 : ((spec_l03Unit.f kj1 a0_0).bind fun bt245 => ((spec_l03Copy.f a0_0 a0_1 l0_2).bind fun bt251 => ((spec_l03Steps.f kj1 bt251.1 bt251.2.1 bt251.2.2 bt245.1 bt245.2.1 bt245.2.2).bind fun bt256 => (if bt256.1 < a0_0 then (none) else (some (bt245.1, bt245.2.1, bt256.2.2, 0)))))) = some (r1, r2, r3, r4) := by rw [if_neg (show ¬ (false = true) by decide)] at H; exact H
    clear H
    have H := H1
    clear H1
    replace H := Option.bind_eq_some_iff.mp H
    obtain ⟨⟨t245, t246, t247⟩, A150, H⟩ := H
    replace H : ((spec_l03Copy.f a0_0 a0_1 l0_2).bind fun bt251 => ((spec_l03Steps.f kj1 bt251.1 bt251.2.1 bt251.2.2 t245 t246 t247).bind fun bt256 => (if bt256.1 < a0_0 then (none) else (some (t245, t246, bt256.2.2, 0))))) = some (r1, r2, r3, r4) := H
    have A15 := Aside0.mk A150
    clear A150
    replace H := Option.bind_eq_some_iff.mp H
    obtain ⟨⟨t251, t252, t253⟩, A160, H⟩ := H
    replace H : ((spec_l03Steps.f kj1 t251 t252 t253 t245 t246 t247).bind fun bt256 => (if bt256.1 < a0_0 then (none) else (some (t245, t246, bt256.2.2, 0)))) = some (r1, r2, r3, r4) := H
    have A16 := Aside0.mk A160
    clear A160
    replace H := Option.bind_eq_some_iff.mp H
    obtain ⟨⟨t256, t257, t258⟩, A170, H⟩ := H
    replace H : (if t256 < a0_0 then (none) else (some (t245, t246, t258, 0))) = some (r1, r2, r3, r4) := H
    have A17 := Aside0.mk A170
    clear A170
    by_cases c18 : t256 < a0_0
    ·rw [if_pos c18] at H
     exact absurd H (by simp)
    ·rw [if_neg c18] at H
     have c18b0 : decide (t256 < a0_0) = false := decide_eq_false c18
     clear c18
     simp only [Option.some.injEq, Prod.mk.injEq] at H
     obtain ⟨rfl, rfl, rfl, rfl⟩ := H
     have hnb19 := NB236_237.out
     have hnc19 := NB237_236.out
     obtain ⟨hcz20_0, hcz20_1, hcz20_2, hfz20_0, hfz20_1, hfz20_2⟩ := Cy.z3 BK236.out
     try go_wp2_with (first | ((with_reducible refine gate_callee (f := 77) rfl ?_); refine goesL_ (some 17) rfl rfl Try.func77 (by kernel_rfl) rfl #[.int .i64 a0_0] rfl (by (try simp only [List.map_toArray, List.map_cons, List.map_nil]); first | done | rfl | (simp only [List.length_drop, List.length_take]; rfl)) ?_; (with_reducible refine (spec_l03Unit.calls kj1 a0_0 t245 t246 t247 _ A15.out).mono ?_); rintro e w21 ⟨v248, rfl, ho0, hb⟩; refine ⟨_, rfl, ?_⟩; have n_ := Cy.a4 (Kd.R_lower ho0 (below_size (Cz.w HB.out))) (blk_below (g := gb236) (o := .cells #[.int .i64 a0_0, .int .i64 a0_1, .slice A0_2 l0_2.length c0_2] 27 (0, 0)) (Cz.b BK236.out) hb) (blk_below (g := gb237) (o := .cells #[.int .i64 0, .int .i64 0, .slice none 0 0, .int .i64 0] 35 (0, 0)) (Cz.b BK237.out) hb) (below_step (Cz.w HB.out) hb); clear BK236 BK237 HB; obtain ⟨HO249, BK236, BK237, HB⟩ := n_; (try clear hb); (try clear hb2); (try clear hk); (try clear hi); (try clear ho0)) | ((with_reducible refine gate_dst (N := 3) rfl ?_); refine box_event ?hg (N := 3) ?hd (cs := #[.int .i64 0, .int .i64 0, .slice none 0 0]) (t := 27) ?hr ?_; (case hd => rfl); (case hg => rfl); (case hr => first | (go_simp; done) | (go_simp; rfl)); intro gb250 hg w22 hbox hb; have n_ := Cy.a11 (Kd.R_below (Cz.r HO249.out) hb) (blk_below (g := gb236) (o := .cells #[.int .i64 a0_0, .int .i64 a0_1, .slice A0_2 l0_2.length c0_2] 27 (0, 0)) (Cz.b BK236.out) hb) (blk_below (g := gb237) (o := .cells #[.int .i64 0, .int .i64 0, .slice none 0 0, .int .i64 0] 35 (0, 0)) (Cz.b BK237.out) hb) (below_step (Cz.w HB.out) hb) hbox (Cy.gw hg HB.out) (Cy.gw hg HB.out) (by rw [hg]; exact Nat.ne_of_lt (blk_lt (g := gb236) (o := .cells #[.int .i64 a0_0, .int .i64 a0_1, .slice A0_2 l0_2.length c0_2] 27 (0, 0)) (Cz.b BK236.out)) : gb236 ≠ gb250) (by rw [hg]; exact Nat.ne_of_gt (blk_lt (g := gb236) (o := .cells #[.int .i64 a0_0, .int .i64 a0_1, .slice A0_2 l0_2.length c0_2] 27 (0, 0)) (Cz.b BK236.out)) : gb250 ≠ gb236) (by rw [hg]; exact Nat.ne_of_lt (blk_lt (g := gb237) (o := .cells #[.int .i64 0, .int .i64 0, .slice none 0 0, .int .i64 0] 35 (0, 0)) (Cz.b BK237.out)) : gb237 ≠ gb250) (by rw [hg]; exact Nat.ne_of_gt (blk_lt (g := gb237) (o := .cells #[.int .i64 0, .int .i64 0, .slice none 0 0, .int .i64 0] 35 (0, 0)) (Cz.b BK237.out)) : gb250 ≠ gb237); clear HO249 BK236 BK237 HB; obtain ⟨HO249, BK236, BK237, HB, BK250, GW250, GE250, NB236_250, NB250_236, NB237_250, NB250_237⟩ := n_; clear hb hbox hg; have hnb23 := NB250_236.out; have hnc23 := NB236_250.out; have hnb24 := NB250_237.out; have hnc24 := NB237_250.out; obtain ⟨hcz25_0, hcz25_1, hcz25_2, hfz25_0, hfz25_1, hfz25_2⟩ := Cy.z3 BK250.out; obtain ⟨Ao26, co26, eo26⟩ := Kd.R_slice HO249.out; subst eo26))
     have n0_ : Aside0 (Kd.R (Kd.int .i64) 2 (((w22.setCell ⟨gb250, 0, none⟩ (.int .i64 t245)).setCell ⟨gb250, 1, none⟩ (.int .i64 t246)).setCell ⟨gb250, 2, none⟩ (.slice Ao26 t247.length co26)) w.heap.size (fun _ => True) (.slice Ao26 t247.length co26) t247) := ⟨by (with_reducible repeat (first | apply Kd.R_alloc | apply Kd.R_drewN | apply Kd.R_drew)); exact Kd.R_mono (Kd.R_far (p := ⟨gb250, 2, none⟩) (Kd.R_far (p := ⟨gb250, 1, none⟩) (Kd.R_far (p := ⟨gb250, 0, none⟩) (Kd.R_types HO249.out BK250.out (by decide)) (fun _ hk => hk.2) (.int .i64 t245)) (fun _ hk => hk.2) (.int .i64 t246)) (fun _ hk => hk.2) (.slice Ao26 t247.length co26)) (fun _ hk => trivial)⟩
     have n1_ : Aside0 ((((w22.setCell ⟨gb250, 0, none⟩ (.int .i64 t245)).setCell ⟨gb250, 1, none⟩ (.int .i64 t246)).setCell ⟨gb250, 2, none⟩ (.slice Ao26 t247.length co26)).heap[gb236]? = some (.cells #[.int .i64 a0_0, .int .i64 a0_1, .slice A0_2 l0_2.length c0_2] 27 (0, 0))) := ⟨Cz.f BK236.out NB236_250.out⟩
     have n2_ : Aside0 ((((w22.setCell ⟨gb250, 0, none⟩ (.int .i64 t245)).setCell ⟨gb250, 1, none⟩ (.int .i64 t246)).setCell ⟨gb250, 2, none⟩ (.slice Ao26 t247.length co26)).heap[gb237]? = some (.cells #[.int .i64 0, .int .i64 0, .slice none 0 0, .int .i64 0] 35 (0, 0))) := ⟨Cz.f BK237.out NB237_250.out⟩
     have n3_ : Aside0 ((((w22.setCell ⟨gb250, 0, none⟩ (.int .i64 t245)).setCell ⟨gb250, 1, none⟩ (.int .i64 t246)).setCell ⟨gb250, 2, none⟩ (.slice Ao26 t247.length co26)).heap[gb250]? = some (.cells #[.int .i64 t245, .int .i64 t246, .slice Ao26 t247.length co26] 27 (0, 0))) := ⟨Cz.p3 BK250.out⟩
     have n4_ : Aside0 (Below w.heap.size w (((w22.setCell ⟨gb250, 0, none⟩ (.int .i64 t245)).setCell ⟨gb250, 1, none⟩ (.int .i64 t246)).setCell ⟨gb250, 2, none⟩ (.slice Ao26 t247.length co26))) := ⟨Cz.w HB.out⟩
     (try clear HO249)
     (try clear BK236)
     (try clear BK237)
     (try clear BK250)
     (try clear HB)
     generalize (((w22.setCell ⟨gb250, 0, none⟩ (.int .i64 t245)).setCell ⟨gb250, 1, none⟩ (.int .i64 t246)).setCell ⟨gb250, 2, none⟩ (.slice Ao26 t247.length co26)) = w27 at n0_ n1_ n2_ n3_ n4_ ⊢
     have HO249 := n0_
     have BK236 := n1_
     have BK237 := n2_
     have BK250 := n3_
     have HB := n4_
     clear n0_ n1_ n2_ n3_ n4_
     have n_ := Cy.a5 (Kd.R_drew HO249.out) (blk_drew BK236.out) (blk_drew BK237.out) (blk_drew BK250.out) (below_drew1 HB.out)
     clear HO249 BK236 BK237 BK250 HB
     obtain ⟨HO249, BK236, BK237, BK250, HB⟩ := n_
     refine start_ (n := 7) (S := fun w' => w'.cell? ⟨gb236, 0, none⟩ = some (.int .i64 a0_0) ∧ w'.cell? ⟨gb236, 1, none⟩ = some (.int .i64 a0_1) ∧ w'.cell? ⟨gb236, 2, none⟩ = some (.slice A0_2 l0_2.length c0_2) ∧ w'.cell? ⟨gb250, 0, none⟩ = some (.int .i64 t245) ∧ w'.cell? ⟨gb250, 1, none⟩ = some (.int .i64 t246) ∧ w'.cell? ⟨gb250, 2, none⟩ = some (.slice Ao26 t247.length co26)) (ds := []) #[false, false, false, false, false, false, false] (by kernel_rfl) rfl rfl ⟨(blk_cell BK236.out 0).trans rfl, (blk_cell BK236.out 1).trans rfl, (blk_cell BK236.out 2).trans rfl, (blk_cell BK250.out 0).trans rfl, (blk_cell BK250.out 1).trans rfl, (blk_cell BK250.out 2).trans rfl⟩ (fun hHeld => ?_)
     generalize w27.drew = w28 at HO249 BK236 BK237 BK250 HB hHeld ⊢
     refine pure_ (i := 4) (N := some 22) (v := ?_) (a' := ?_) #[false, false, false, false, true, false, false] rfl rfl (by kernel_rfl) (fun _ _ _ h => h) (Or.inl ⟨by rfl, ?_⟩) ?_ ?_
     rotate_left
     ·intro w'
      go_simp
      with_reducible rfl
     rotate_left
     ·simp only [Act.put, List.setIfInBounds_toArray, List.set_cons_zero, List.set_cons_succ, i64_w, i32_w]
      rfl
     refine take_ (i := 0) (N := some 18) (v := ?_) (a' := ?_) #[true, false, false, false, true, false, false] rfl rfl (by kernel_rfl) (fun _ _ _ h => h) (Or.inl ⟨by rfl, ?_⟩) hHeld ?_ ?_
     rotate_left
     ·rintro w' ⟨s0, s1, s2, s3, s4, s5⟩
      go_simp
      with_reducible rfl
     rotate_left
     ·simp only [Act.put, List.setIfInBounds_toArray, List.set_cons_zero, List.set_cons_succ, i64_w, i32_w]
      rfl
     refine take_ (i := 2) (N := some 20) (v := ?_) (a' := ?_) #[true, false, true, false, true, false, false] rfl rfl (by kernel_rfl) (fun _ _ _ h => h) (Or.inl ⟨by rfl, ?_⟩) hHeld ?_ ?_
     rotate_left
     ·rintro w' ⟨s0, s1, s2, s3, s4, s5⟩
      go_simp
      with_reducible rfl
     rotate_left
     ·simp only [Act.put, List.setIfInBounds_toArray, List.set_cons_zero, List.set_cons_succ, i64_w, i32_w]
      rfl
     refine take_ (i := 5) (N := some 23) (v := ?_) (a' := ?_) #[true, false, true, false, true, true, false] rfl rfl (by kernel_rfl) (fun _ _ _ h => h) (Or.inl ⟨by rfl, ?_⟩) hHeld ?_ ?_
     rotate_left
     ·rintro w' ⟨s0, s1, s2, s3, s4, s5⟩
      go_simp
      with_reducible rfl
     rotate_left
     ·simp only [Act.put, List.setIfInBounds_toArray, List.set_cons_zero, List.set_cons_succ, i64_w, i32_w]
      rfl
     refine one_ (i := 1) (N := some 19) #[true, true, true, false, true, true, false] rfl rfl (by kernel_rfl) (by decide) (fun K hK => ?_)
     refine goes_ Try.func98 (by kernel_rfl) rfl #[.agg #[.int .i64 a0_0, .int .i64 a0_1, .slice A0_2 l0_2.length c0_2]] (by rfl) rfl rfl (by (try simp only [List.map_toArray, List.map_cons, List.map_nil]); first | done | rfl | (simp only [List.length_drop, List.length_take]; rfl)) ?_
     with_reducible refine (spec_l03Copy.calls a0_0 a0_1 _ _ l0_2 t251 t252 t253 _ ?side1 ?side2 A16.out).mono ?_
     (case side1 => exact Cz.c HR0_2.out HB.out)
     (case side2 => exact HC0_2.out)
     rintro e w29 ⟨v254, rfl, ho0, hb⟩
     refine ⟨_, rfl, ?_⟩
     have n_ := Cy.a6 (Kd.R_elder' (Cz.r HO249.out) (Kd.R_base ho0) hb) (Kd.R_lower (Kd.R_new' ho0 (Kd.R_lt (Cz.r HO249.out))) (below_size (Cz.w HB.out))) (blk_below (g := gb236) (o := .cells #[.int .i64 a0_0, .int .i64 a0_1, .slice A0_2 l0_2.length c0_2] 27 (0, 0)) (Cz.b BK236.out) hb) (blk_below (g := gb237) (o := .cells #[.int .i64 0, .int .i64 0, .slice none 0 0, .int .i64 0] 35 (0, 0)) (Cz.b BK237.out) hb) (blk_below (g := gb250) (o := .cells #[.int .i64 t245, .int .i64 t246, .slice Ao26 t247.length co26] 27 (0, 0)) (Cz.b BK250.out) hb) (below_step (Cz.w HB.out) hb)
     clear HO249 BK236 BK237 BK250 HB
     obtain ⟨HO249, HO255, BK236, BK237, BK250, HB⟩ := n_
     (try clear hb)
     (try clear hb2)
     (try clear hk)
     (try clear hi)
     (try clear ho0)
     obtain ⟨Ao30, co30, eo30⟩ := Kd.R_slice HO255.out
     (first | subst eo30 | (injection eo30 with f1_ f2_ f3_; have f4_ := f1_.symm; have f5_ := f3_.symm; clear f1_ f2_ f3_; subst f4_; subst f5_))
     refine hK.out _ _ ⟨(blk_cell BK236.out 0).trans rfl, (blk_cell BK236.out 1).trans rfl, (blk_cell BK236.out 2).trans rfl, (blk_cell BK250.out 0).trans rfl, (blk_cell BK250.out 1).trans rfl, (blk_cell BK250.out 2).trans rfl⟩ (fun hHeld => ?_)
     clear hK K
     refine norm_ (a' := ?_) ?_ ?_
     rotate_left
     ·show Act.put _ (some 19) _ = _
      simp only [Act.put, List.setIfInBounds_toArray, List.set_cons_zero, List.set_cons_succ, i64_w, i32_w]
      rfl
     refine one_ (i := 3) (N := some 21) #[true, true, true, true, true, true, false] rfl rfl (by kernel_rfl) (by decide) (fun K hK => ?_)
     refine goes_ Try.func97 (by kernel_rfl) rfl #[.agg #[.int .i64 t251, .int .i64 t252, .slice Ao30 t253.length co30], .agg #[.int .i64 t245, .int .i64 t246, .slice Ao26 t247.length co26]] (by rfl) rfl rfl (by (try simp only [List.map_toArray, List.map_cons, List.map_nil]); first | done | rfl | (simp only [List.length_drop, List.length_take]; rfl)) ?_
     with_reducible refine (spec_l03Steps.calls kj1 t251 t252 (fun k_ => some k_ = (.slice Ao30 t253.length co30 : Value).ownBlock) (.slice Ao30 t253.length co30) t253 t245 t246 (fun k_ => some k_ = (.slice Ao26 t247.length co26 : Value).ownBlock) (.slice Ao26 t247.length co26) t247 t256 t257 t258 w _ ?side1 ?side2 ?side3 ?side4 ?side5 A17.out).mono ?_
     (case side1 => repeat (first | (with_reducible first | exact HB.out | apply below_alloc | apply pw_below_drewN | apply below_drew1 | refine below_set ?_ GE236.out | refine below_set ?_ GE237.out | refine below_set ?_ GE250.out) | exact HB.out))
     (case side2 => exact Kd.R_tight rfl HO255.out)
     (case side3 => exact fun k_ e_ => (HO255.out.1 k_ e_.symm).2)
     (case side4 => exact Kd.R_tight rfl HO249.out)
     (case side5 => exact fun k_ e_ => (HO249.out.1 k_ e_.symm).2)
     rintro e w31 ⟨rfl, hy0, hy1, hb, hkp⟩
     refine ⟨_, rfl, ?_⟩
     have n_ := Cy.a6 (blk_kept (Cz.b BK236.out) hkp (fun hs_ => Or.elim hs_ (fun e_ => (fun e_ => (Kd.R_ne HO255.out BK236.out (by decide)) e_) e_) (fun e_ => (fun e_ => (Kd.R_ne HO249.out BK236.out (by decide)) e_) e_))) (blk_kept (Cz.b BK237.out) hkp (fun hs_ => Or.elim hs_ (fun e_ => (fun e_ => (Kd.R_ne HO255.out BK237.out (by decide)) e_) e_) (fun e_ => (fun e_ => (Kd.R_ne HO249.out BK237.out (by decide)) e_) e_))) (Kd.R_reok rfl hy1 (fun k_ e_ => HO249.out.1 k_ e_)) (blk_kept (Cz.b BK250.out) hkp (fun hs_ => Or.elim hs_ (fun e_ => (fun e_ => (Kd.R_ne HO255.out BK250.out (by decide)) e_) e_) (fun e_ => (fun e_ => (Kd.R_ne HO249.out BK250.out (by decide)) e_) e_))) (Kd.R_reok rfl hy0 (fun k_ e_ => HO255.out.1 k_ e_)) hb
     clear BK236 BK237 HO249 BK250 HO255 HB
     obtain ⟨BK236, BK237, HO249, BK250, HO255, HB⟩ := n_
     (try clear hb)
     (try clear hkp)
     (try clear hy0)
     (try clear hy1)
     refine hK.out _ _ ⟨(blk_cell BK236.out 0).trans rfl, (blk_cell BK236.out 1).trans rfl, (blk_cell BK236.out 2).trans rfl, (blk_cell BK250.out 0).trans rfl, (blk_cell BK250.out 1).trans rfl, (blk_cell BK250.out 2).trans rfl⟩ (fun hHeld => ?_)
     clear hK K
     refine norm_ (a' := ?_) ?_ ?_
     rotate_left
     ·show Act.put _ (some 21) _ = _
      simp only [Act.put, List.setIfInBounds_toArray, List.set_cons_zero, List.set_cons_succ, i64_w, i32_w]
      rfl
     refine pure_ (i := 6) (N := some 24) (v := ?_) (a' := ?_) #[true, true, true, true, true, true, true] rfl rfl (by kernel_rfl) (fun _ _ _ h => h) (Or.inl ⟨by rfl, ?_⟩) ?_ ?_
     rotate_left
     ·intro w'
      go_simp
      with_reducible rfl
     rotate_left
     ·simp only [Act.put, List.setIfInBounds_toArray, List.set_cons_zero, List.set_cons_succ, i64_w, i32_w]
      rfl
     refine done_ (by kernel_rfl) ?_
     obtain ⟨hcz32_0, hcz32_1, hcz32_2, hfz32_0, hfz32_1, hfz32_2⟩ := Cy.z3 BK250.out
     obtain ⟨hcz33_0, hcz33_1, hcz33_2, hcz33_3, hfz33_0, hfz33_1, hfz33_2, hfz33_3⟩ := Cy.z4 BK237.out
     try go_wp2
     refine bodyPost_ret (results_cell_row rfl _ _ gb237 35 #[.int .i64 t245, .int .i64 t246, .slice Ao26 t247.length co26, .int .i64 0] (0, 0) _ rfl (Cz.p4 BK237.out) Try.underlying35 rfl (by kernel_rfl)) rfl ?_
     exact ⟨_, by first | rfl | (simp [errW_none, errW_some] <;> rfl) | (simp [*, errW_none, errW_some] <;> rfl), by (with_reducible repeat (first | apply Kd.R_alloc | apply Kd.R_drewN | apply Kd.R_drew)); exact Kd.R_mono (Kd.R_far (p := ⟨gb237, 3, none⟩) (Kd.R_far (p := ⟨gb237, 2, none⟩) (Kd.R_far (p := ⟨gb237, 1, none⟩) (Kd.R_far (p := ⟨gb237, 0, none⟩) (Kd.R_types HO249.out BK237.out (by decide)) (fun _ hk => hk.2) (.int .i64 t245)) (fun _ hk => hk.2) (.int .i64 t246)) (fun _ hk => hk.2) (.slice Ao26 t247.length co26)) (fun _ hk => hk.2) (.int .i64 0)) (fun _ hk => trivial), Cz.w HB.out⟩
mutual
def spec_l04Data.l0 : Nat → Int → Int → List (S112) → List Int → List ByteArray → Int → Option (List ByteArray × Bool)
 | 0, _, _, _, _, _, _ => none
 | k + 1, x0, x1, x2, x8, x9, x10 => if x10 < (wrap64 (x0 + x1)) then (spec_l04Data.j1 k x0 x1 x2 x8 x9 x10 (decide ((x8.length : Int) < x0))) else (spec_l04Data.j1 k x0 x1 x2 x8 x9 x10 false)
def spec_l04Data.j1 : Nat → Int → Int → List (S112) → List Int → List ByteArray → Int → Bool → Option (List ByteArray × Bool)
 | 0, _, _, _, _, _, _, _ => none
 | k + 1, x0, x1, x2, x8, x9, x10, x24 => if x24 = true then (if 0 ≤ x10 then (if x10 < (x2.length : Int) then (if (rd_T112 x2 x10).f0 = true then (if x8.length < 17592186044416 then (if x9.length < 8796093022208 then (spec_l04Data.l0 k x0 x1 x2 (x8 ++ [x10]) (x9 ++ [(rd_T112 x2 x10).f1]) (wrap64 (x10 + 1))) else (none)) else (none)) else (spec_l04Data.l0 k x0 x1 x2 x8 x9 (wrap64 (x10 + 1)))) else (none)) else (none)) else (if (x8.length : Int) < x0 then (some ((([] : List ByteArray)), false)) else ((spec_Cauchy.f k x0 x1).bind fun bt282 => ((spec_MatrixPick.f k bt282.1 bt282.2.1 bt282.2.2.1 x8).bind fun bt288 => ((spec_MatrixInv.f k bt288.1 bt288.2.1 bt288.2.2.1).bind fun bt294 => ((spec_l04Times.f k bt294.1 bt294.2.1 bt294.2.2.1 x9).bind fun t301 => (some (t301, true)))))))
end
def spec_l04Data.f (k : Nat) (a0 : Int) (a1 : Int) (l2 : List (S112)) : Option (List ByteArray × Bool) := spec_l04Data.l0 k a0 a1 l2 (([] : List Int)) (([] : List ByteArray)) 0
set_option maxHeartbeats 8000000 in
set_option maxRecDepth 100000 in
theorem spec_l04Data.calls (k : Nat) (a0 : Int) (a1 : Int) (A2 : Option Addr) (c2 : Nat) (l2 : List (S112)) (r1 : List ByteArray) (r2 : Bool) (w : World) (hr2 : Kd.C k112 w A2 l2.length l2) (hc2 : l2.length ≤ c2) (h : spec_l04Data.f k a0 a1 l2 = some (r1, r2)) :
  Calls Try.prog 106 #[.int .i64 a0, .int .i64 a1, .slice A2 l2.length c2] w fun e w' => ∃ v0_ : Value, e = .returned (.tuple #[v0_, .bool r2]) ∧ Kd.R Kd.string 9 w' w.heap.size (fun _ => True) v0_ r1 ∧ Below w.heap.size w w' := by
 have hu35 := Try.underlying35
 have hu27 := Try.underlying27
 have HR2 := Aside0.mk hr2
 have HC2 := Aside0.mk hc2
 clear hr2 hc2
 have HB := Aside0.mk (Below.refl w.heap.size w)
 have H : (spec_l04Data.l0 k a0 a1 l2 (([] : List Int)) (([] : List ByteArray)) 0) = some (r1, r2) := h
 clear h
 obtain ⟨y265, hy265⟩ : ∃ y_ : List Int, y_ = (([] : List Int)) := ⟨_, rfl⟩
 replace H : (spec_l04Data.l0 k a0 a1 l2 y265 (([] : List ByteArray)) 0) = some (r1, r2) := by first | (rw [hy265]; with_reducible exact H) | (have H2_ := (Option.bind_some _ _).symm.trans H; rw [hy265]; with_reducible exact H2_) | (have H2_ := (Option.bind_some _ _).symm.trans H; with_reducible exact H2_) | with_reducible exact H | (rw [hy265]; exact H) | exact H
 have Ny265 := Aside0.mk hy265
 clear hy265
 obtain ⟨y268, hy268⟩ : ∃ y_ : List ByteArray, y_ = (([] : List ByteArray)) := ⟨_, rfl⟩
 replace H : (spec_l04Data.l0 k a0 a1 l2 y265 y268 0) = some (r1, r2) := by first | (rw [hy268]; with_reducible exact H) | (have H2_ := (Option.bind_some _ _).symm.trans H; rw [hy268]; with_reducible exact H2_) | (have H2_ := (Option.bind_some _ _).symm.trans H; with_reducible exact H2_) | with_reducible exact H | (rw [hy268]; exact H) | exact H
 have Ny268 := Aside0.mk hy268
 clear hy268
 have H' := Aside0.mk H
 clear H
 go_enter Try.func106, Try.ntmps106
 go_wp2_with (first | ((with_reducible refine gate_dst (N := 12) rfl ?_); (try (refine gate_guard (by rfl) ?_; dsimp only)); refine Kd.R_lit (Kd.int .i64) _ 2 ?hg (N := 12) ?hd (xs := ([] : List Int)) (inner := []) (ok := fun _ => True) (okp := fun _ => True) ?hr ?hp (fun _ hk => hk) trivial (Below.refl _ _) (Nat.le_refl _) (by simp) ?_; (case hd => rfl); (case hg => rfl); (case hr => first | (go_simp; done) | (go_simp; rfl)); (case hp => exact (Reps.none _ _)); intro v266 w4 ho5 hb hg_ hnew_; clear hg_ hnew_; (first | rw [← Ny265.out] at ho5 | (simp only [Int.reduceToNat] at ho5; rw [← Ny265.out] at ho5)); have n_ := Cy.a2 (Kd.R_lower ho5 (below_size (Cz.w HB.out))) (below_step (Cz.w HB.out) hb); clear HB; obtain ⟨HO267, HB⟩ := n_; clear hb ho5) | ((with_reducible refine gate_dst (N := 13) rfl ?_); (try (refine gate_guard (by rfl) ?_; dsimp only)); refine Kd.R_lit Kd.string _ 9 ?hg (N := 13) ?hd (xs := ([] : List ByteArray)) (inner := []) (ok := fun _ => True) (okp := fun _ => True) ?hr ?hp (fun _ hk => hk) trivial (Below.refl _ _) (Nat.le_refl _) (by simp) ?_; (case hd => rfl); (case hg => rfl); (case hr => first | (go_simp; done) | (go_simp; rfl)); (case hp => exact (Reps.none _ _)); intro v269 w6 ho7 hb hg_ hnew_; clear hg_ hnew_; (first | rw [← Ny268.out] at ho7 | (simp only [Int.reduceToNat] at ho7; rw [← Ny268.out] at ho7)); have n_ := Cy.a3 (Kd.R_below (Cz.r HO267.out) hb) (Kd.R_lower ho7 (below_size (Cz.w HB.out))) (below_step (Cz.w HB.out) hb); clear HO267 HB; obtain ⟨HO267, HO270, HB⟩ := n_; clear hb ho7))
 go_loopg [8, 9, 10] k (fun kq v8 v9 v10 w' => ∃ (x8_1 : List Int) (x9_1 : List ByteArray) (x10_1 : Int), v10 = .int .i64 x10_1 ∧ Aside0 (spec_l04Data.l0 kq a0 a1 l2 x8_1 x9_1 x10_1 = some (r1, r2)) ∧ Aside0 (kq ≤ k) ∧ Aside0 (Kd.R (Kd.int .i64) 2 w' w.heap.size (fun _ => True) v8 x8_1) ∧ Aside0 (Kd.R Kd.string 9 w' w.heap.size (fun _ => True) v9 x9_1) ∧ Aside0 (Below w.heap.size w w'))
 case atStart => exact ⟨(y265), (y268), (0), (by first | rfl | (simp; done) | (simp [*]; done)), H', ⟨Nat.le_refl _⟩, ⟨Cz.r HO267.out⟩, ⟨Cz.r HO270.out⟩, ⟨Cz.w HB.out⟩⟩
 case round =>
  clear H'
  try clear c1
  try clear c2
  try clear p2
  obtain ⟨x8_1, x9_1, x10_1, rfl, HA, HK1, HO_8, HO_9, HB⟩ := hrel
  cases gk with
  | zero => exact absurd HA.out (by simp [spec_l04Data.l0])
  | succ k1 =>
   have H := HA.out
   clear HA
   simp only [spec_l04Data.l0] at H
   have HC8 := Aside0.mk H
   clear H
   go_upto_region 4 with (fail)
   go_cut [24] (fun v24 wc => ∃ (kq : Nat) (x24_7 : Bool), v24 = .bool x24_7 ∧ Aside0 (spec_l04Data.j1 kq a0 a1 l2 x8_1 x9_1 x10_1 x24_7 = some (r1, r2)) ∧ Aside0 (kq ≤ k1) ∧ Aside0 (Kd.R (Kd.int .i64) 2 wc w.heap.size (fun _ => True) u8 x8_1) ∧ Aside0 (Kd.R Kd.string 9 wc w.heap.size (fun _ => True) u9 x9_1) ∧ Aside0 (Below w.heap.size w wc))
   case first =>
    have H := HC8.out
    clear HC8
    by_cases c9 : x10_1 < (wrap64 (a0 + a1))
    ·rw [if_pos c9] at H
     have c9b0 : decide (x10_1 < (wrap64 (a0 + a1))) = true := decide_eq_true c9
     clear c9
     (first | rw [c9b0] | (simp only [i64_w, i32_w]; rw [c9b0]) | skip)
     have H' := Aside0.mk H
     clear H
     obtain ⟨Ao10, co10, eo10⟩ := Kd.R_slice HO_8.out
     subst eo10
     go_wp2
     go_meet
     case rel => exact ⟨_, (decide ((x8_1.length : Int) < a0)), (by first | rfl | (simp; done) | (simp [*]; done)), H', ⟨by have := HK1.out; first | omega | exact Nat.le_refl _⟩, ⟨Cz.r HO_8.out⟩, ⟨Cz.r HO_9.out⟩, ⟨Cz.w HB.out⟩⟩
    ·rw [if_neg c9] at H
     have c9b0 : decide (x10_1 < (wrap64 (a0 + a1))) = false := decide_eq_false c9
     clear c9
     (first | rw [c9b0] | (simp only [i64_w, i32_w]; rw [c9b0]) | skip)
     have H' := Aside0.mk H
     clear H
     go_wp2
     go_meet
     case rel => exact ⟨_, (false), (by first | rfl | (simp; done) | (simp [*]; done)), H', ⟨by have := HK1.out; first | omega | exact Nat.le_refl _⟩, ⟨Cz.r HO_8.out⟩, ⟨Cz.r HO_9.out⟩, ⟨Cz.w HB.out⟩⟩
   case rest =>
    clear HC8
    try clear c1
    try clear c2
    try clear p2
    try clear p6
    try clear c9
    try clear c9b0
    try clear c10
    try clear p2
    obtain ⟨kq, x24_7, rfl, HA, HJ7, HO_8, HO_9, HB⟩ := hcut
    cases kq with
    | zero => exact absurd HA.out (by simp [spec_l04Data.j1])
    | succ kj7 =>
     have H := HA.out
     clear HA
     simp only [spec_l04Data.j1] at H
     by_cases c11 : x24_7 = true
     ·subst c11
      have H1 : (if 0 ≤ x10_1 then (if x10_1 < (l2.length : Int) then (if (rd_T112 l2 x10_1).f0 = true then (if x8_1.length < 17592186044416 then (if x9_1.length < 8796093022208 then (spec_l04Data.l0 kj7 a0 a1 l2 (x8_1 ++ [x10_1]) (x9_1 ++ [(rd_T112 l2 x10_1).f1]) (wrap64 (x10_1 + 1))) else (none)) else (none)) else (spec_l04Data.l0 kj7 a0 a1 l2 x8_1 x9_1 (wrap64 (x10_1 + 1)))) else (none)) else (none)) = some (r1, r2) := by rw [if_pos rfl] at H; exact H
      clear H
      have H := H1
      clear H1
      by_cases c12 : 0 ≤ x10_1
      ·rw [if_pos c12] at H
       have c12b0 : decide (0 ≤ x10_1) = true := decide_eq_true c12
       clear c12
       by_cases c13 : x10_1 < (l2.length : Int)
       ·rw [if_pos c13] at H
        have c13b0 : decide (x10_1 < (l2.length : Int)) = true := decide_eq_true c13
        clear c13
        obtain ⟨bq14, hbq14⟩ : ∃ b_ : Bool, b_ = ((rd_T112 l2 x10_1).f0) := ⟨_, rfl⟩
        replace H : (if bq14 = true then (if x8_1.length < 17592186044416 then (if x9_1.length < 8796093022208 then (spec_l04Data.l0 kj7 a0 a1 l2 (x8_1 ++ [x10_1]) (x9_1 ++ [(rd_T112 l2 x10_1).f1]) (wrap64 (x10_1 + 1))) else (none)) else (none)) else (spec_l04Data.l0 kj7 a0 a1 l2 x8_1 x9_1 (wrap64 (x10_1 + 1)))) = some (r1, r2) := by rw [← hbq14] at H; exact H
        have Nbq14 := Aside0.mk hbq14
        clear hbq14
        by_cases c15 : bq14 = true
        ·subst c15
         have H1 : (if x8_1.length < 17592186044416 then (if x9_1.length < 8796093022208 then (spec_l04Data.l0 kj7 a0 a1 l2 (x8_1 ++ [x10_1]) (x9_1 ++ [(rd_T112 l2 x10_1).f1]) (wrap64 (x10_1 + 1))) else (none)) else (none)) = some (r1, r2) := by rw [if_pos rfl] at H; exact H
         clear H
         have H := H1
         clear H1
         by_cases c16 : x8_1.length < 17592186044416
         ·rw [if_pos c16] at H
          have LMc16 := Aside0.mk c16
          clear c16
          obtain ⟨y272, hy272⟩ : ∃ y_ : List Int, y_ = (x8_1 ++ [x10_1]) := ⟨_, rfl⟩
          replace H : (if x9_1.length < 8796093022208 then (spec_l04Data.l0 kj7 a0 a1 l2 y272 (x9_1 ++ [(rd_T112 l2 x10_1).f1]) (wrap64 (x10_1 + 1))) else (none)) = some (r1, r2) := by first | (rw [hy272]; with_reducible exact H) | (have H2_ := (Option.bind_some _ _).symm.trans H; rw [hy272]; with_reducible exact H2_) | (have H2_ := (Option.bind_some _ _).symm.trans H; with_reducible exact H2_) | with_reducible exact H | (rw [hy272]; exact H) | exact H
          have Ny272 := Aside0.mk hy272
          clear hy272
          by_cases c17 : x9_1.length < 8796093022208
          ·rw [if_pos c17] at H
           have LMc17 := Aside0.mk c17
           clear c17
           obtain ⟨y276, hy276⟩ : ∃ y_ : List ByteArray, y_ = (x9_1 ++ [(rd_T112 l2 x10_1).f1]) := ⟨_, rfl⟩
           replace H : (spec_l04Data.l0 kj7 a0 a1 l2 y272 y276 (wrap64 (x10_1 + 1))) = some (r1, r2) := by first | (rw [hy276]; with_reducible exact H) | (have H2_ := (Option.bind_some _ _).symm.trans H; rw [hy276]; with_reducible exact H2_) | (have H2_ := (Option.bind_some _ _).symm.trans H; with_reducible exact H2_) | with_reducible exact H | (rw [hy276]; exact H) | exact H
           have Ny276 := Aside0.mk hy276
           clear hy276
           have H' := Aside0.mk H
           clear H
           have p271 : 0 ≤ (x10_1 : Int) := of_decide_eq_true (by first | (with_reducible assumption) | assumption)
           have q271 : x10_1 < (l2.length : Int) := of_decide_eq_true (by first | (with_reducible assumption) | assumption)
           obtain ⟨ad271, e271, hx271_0, hx271_1⟩ := at_T112 HR2.out x10_1 p271 q271
           (try rw [← Nbq14.out] at hx271_0)
           cases e271
           replace hx271_0 := (HB.out.cell (World.block_lt_of_cell? w _ hx271_0)).trans hx271_0
           replace hx271_1 := (HB.out.cell (World.block_lt_of_cell? w _ hx271_1)).trans hx271_1
           replace p271 := eq_true p271
           replace q271 := eq_true q271
           go_wp2_with (first | ((with_reducible refine gate_builtin (b := .append) (xs := #[.tmp 32, .tmp 34]) rfl ?_); (try (refine gate_guard (by rfl) ?_; dsimp only)); at_builtin; refine Kd.R_append (Kd.int .i64) (w0 := w) w.heap.size rfl (.tmp 32) (.tmp 34) 22 2 (.int .i64 0) 8 rfl Try.underlying22 info2 rfl (by decide) (by omega) u8 x8_1 x10_1 [.int .i64 x10_1] (fun _ => True) (fun _ => False) rfl rfl ?aP (fun _ hk => hk.elim) ?aF ?aO ?aB ?aS ?aL ?_; (case aP => exact rfl); (case aB => exact (Cz.w HB.out)); (case aF => exact (fun _ _ => trivial)); (case aO => exact (Cz.r HO_8.out)); (case aS => exact (below_size (Cz.w HB.out))); (case aL => have := LMc16.out; omega); intro v273 w18 ho hb hg hat; rw [← Ny272.out] at ho; have n_ := Cy.a3 (Kd.R_over' (Cz.r HO_9.out) (Kd.R_typed (Cz.r HO_8.out)) (by decide) hg) hb ho; clear HO_9 HB HO_8; obtain ⟨HO_9, HB, HO274⟩ := n_; clear ho hb hg hat; have p275 : 0 ≤ (x10_1 : Int) := of_decide_eq_true (by first | (with_reducible assumption) | assumption); have q275 : x10_1 < (l2.length : Int) := of_decide_eq_true (by first | (with_reducible assumption) | assumption); obtain ⟨ad275, e275, hx275_0, hx275_1⟩ := at_T112 HR2.out x10_1 p275 q275; (try rw [← Nbq14.out] at hx275_0); obtain rfl : ad271 = ad275 := (by injection e275); replace hx275_0 := (HB.out.cell (World.block_lt_of_cell? w _ hx275_0)).trans hx275_0; replace hx275_1 := (HB.out.cell (World.block_lt_of_cell? w _ hx275_1)).trans hx275_1; replace p275 := eq_true p275; replace q275 := eq_true q275) | ((with_reducible refine gate_builtin (b := .append) (xs := #[.tmp 36, .tmp 42]) rfl ?_); (try (refine gate_guard (by rfl) ?_; dsimp only)); at_builtin; refine Kd.R_append Kd.string (w0 := w) w.heap.size rfl (.tmp 36) (.tmp 42) 52 9 (.string ⟨#[]⟩) 16 rfl Try.underlying52 info9 rfl (by decide) (by omega) u9 x9_1 ((rd_T112 l2 x10_1).f1) [.string ((rd_T112 l2 x10_1).f1)] (fun _ => True) (fun _ => False) rfl rfl ?aP (fun _ hk => hk.elim) ?aF ?aO ?aB ?aS ?aL ?_; (case aP => exact rfl); (case aB => exact (Cz.w HB.out)); (case aF => exact (fun _ _ => trivial)); (case aO => exact (Cz.r HO_9.out)); (case aS => exact (below_size (Cz.w HB.out))); (case aL => have := LMc17.out; omega); intro v277 w19 ho hb hg hat; rw [← Ny276.out] at ho; have n_ := Cy.a3 (Kd.R_over' (Cz.r HO274.out) (Kd.R_typed (Cz.r HO_9.out)) (by decide) hg) hb ho; clear HO274 HB HO_9; obtain ⟨HO274, HB, HO278⟩ := n_; clear ho hb hg hat))
           go_roundg kj7
           case measure => have := HK1.out; have := HJ7.out; omega
           case rel => exact ⟨(y272), (y276), (wrap64 (x10_1 + 1)), (by first | rfl | (simp; done) | (simp [*]; done)), H', ⟨by have := HK1.out; have := HJ7.out; omega⟩, ⟨Cz.r HO274.out⟩, ⟨Cz.r HO278.out⟩, ⟨Cz.w HB.out⟩⟩
          ·rw [if_neg c17] at H
           exact absurd H (by simp)
         ·rw [if_neg c16] at H
          exact absurd H (by simp)
        ·replace c15 := Bool.eq_false_iff.mpr c15
         subst c15
         have H1 : (spec_l04Data.l0 kj7 a0 a1 l2 x8_1 x9_1 (wrap64 (x10_1 + 1))) = some (r1, r2) := by rw [if_neg (show ¬ (false = true) by decide)] at H; exact H
         clear H
         have H := H1
         clear H1
         have H' := Aside0.mk H
         clear H
         have p271 : 0 ≤ (x10_1 : Int) := of_decide_eq_true (by first | (with_reducible assumption) | assumption)
         have q271 : x10_1 < (l2.length : Int) := of_decide_eq_true (by first | (with_reducible assumption) | assumption)
         obtain ⟨ad271, e271, hx271_0, hx271_1⟩ := at_T112 HR2.out x10_1 p271 q271
         (try rw [← Nbq14.out] at hx271_0)
         cases e271
         replace hx271_0 := (HB.out.cell (World.block_lt_of_cell? w _ hx271_0)).trans hx271_0
         replace hx271_1 := (HB.out.cell (World.block_lt_of_cell? w _ hx271_1)).trans hx271_1
         replace p271 := eq_true p271
         replace q271 := eq_true q271
         go_wp2
         go_roundg kj7
         case measure => have := HK1.out; have := HJ7.out; omega
         case rel => exact ⟨(x8_1), (x9_1), (wrap64 (x10_1 + 1)), (by first | rfl | (simp; done) | (simp [*]; done)), H', ⟨by have := HK1.out; have := HJ7.out; omega⟩, ⟨Cz.r HO_8.out⟩, ⟨Cz.r HO_9.out⟩, ⟨Cz.w HB.out⟩⟩
       ·rw [if_neg c13] at H
        exact absurd H (by simp)
      ·rw [if_neg c12] at H
       exact absurd H (by simp)
     ·replace c11 := Bool.eq_false_iff.mpr c11
      subst c11
      have H1 : (if (x8_1.length : Int) < a0 then (some ((([] : List ByteArray)), false)) else ((spec_Cauchy.f kj7 a0 a1).bind fun bt282 => ((spec_MatrixPick.f kj7 bt282.1 bt282.2.1 bt282.2.2.1 x8_1).bind fun bt288 => ((spec_MatrixInv.f kj7 bt288.1 bt288.2.1 bt288.2.2.1).bind fun bt294 => ((spec_l04Times.f kj7 bt294.1 bt294.2.1 bt294.2.2.1 x9_1).bind fun t301 => (some (t301, true))))))) = some (r1, r2) := by rw [if_neg (show ¬ (false = true) by decide)] at H; exact H
      clear H
      have H := H1
      clear H1
      by_cases c20 : (x8_1.length : Int) < a0
      ·rw [if_pos c20] at H
       have c20b0 : decide ((x8_1.length : Int) < a0) = true := decide_eq_true c20
       clear c20
       obtain ⟨y279, hy279⟩ : ∃ y_ : List ByteArray, y_ = (([] : List ByteArray)) := ⟨_, rfl⟩
       replace H : (some (y279, false)) = some (r1, r2) := by first | (rw [hy279]; with_reducible exact H) | (have H2_ := (Option.bind_some _ _).symm.trans H; rw [hy279]; with_reducible exact H2_) | (have H2_ := (Option.bind_some _ _).symm.trans H; with_reducible exact H2_) | with_reducible exact H | (rw [hy279]; exact H) | exact H
       have Ny279 := Aside0.mk hy279
       clear hy279
       simp only [Option.some.injEq, Prod.mk.injEq] at H
       obtain ⟨rfl, rfl⟩ := H
       obtain ⟨Ao21, co21, eo21⟩ := Kd.R_slice HO_8.out
       subst eo21
       go_wp2_with (first | ((with_reducible refine gate_dst (N := 48) rfl ?_); (try (refine gate_guard (by rfl) ?_; dsimp only)); refine Kd.R_lit Kd.string _ 9 ?hg (N := 48) ?hd (xs := ([] : List ByteArray)) (inner := []) (ok := fun _ => True) (okp := fun _ => True) ?hr ?hp (fun _ hk => hk) trivial (Below.refl _ _) (Nat.le_refl _) (by simp) ?_; (case hd => rfl); (case hg => rfl); (case hr => first | (go_simp; done) | (go_simp; rfl)); (case hp => exact (Reps.none _ _)); intro v280 w22 ho23 hb hg_ hnew_; clear hg_ hnew_; (first | rw [← Ny279.out] at ho23 | (simp only [Int.reduceToNat] at ho23; rw [← Ny279.out] at ho23)); have n_ := Cy.a4 (Kd.R_below (Cz.r HO_8.out) hb) (Kd.R_elder' (Cz.r HO_9.out) (Kd.R_base ho23) hb) (Kd.R_lower (Kd.R_new' ho23 (Kd.R_lt (Cz.r HO_9.out))) (below_size (Cz.w HB.out))) (below_step (Cz.w HB.out) hb); clear HO_8 HO_9 HB; obtain ⟨HO_8, HO_9, HO281, HB⟩ := n_; clear hb ho23))
       go_ret2
       exact ⟨_, by first | rfl | (simp [errW_none, errW_some] <;> rfl) | (simp [*, errW_none, errW_some] <;> rfl), by (with_reducible repeat (first | apply Kd.R_alloc | apply Kd.R_drewN | apply Kd.R_drew)); exact Kd.R_mono HO281.out (fun _ hk => trivial), Cz.w HB.out⟩
      ·rw [if_neg c20] at H
       have c20b0 : decide ((x8_1.length : Int) < a0) = false := decide_eq_false c20
       clear c20
       replace H := Option.bind_eq_some_iff.mp H
       obtain ⟨⟨t282, t283, t284, t287⟩, A240, H⟩ := H
       replace H : ((spec_MatrixPick.f kj7 t282 t283 t284 x8_1).bind fun bt288 => ((spec_MatrixInv.f kj7 bt288.1 bt288.2.1 bt288.2.2.1).bind fun bt294 => ((spec_l04Times.f kj7 bt294.1 bt294.2.1 bt294.2.2.1 x9_1).bind fun t301 => (some (t301, true))))) = some (r1, r2) := H
       have A24 := Aside0.mk A240
       clear A240
       replace H := Option.bind_eq_some_iff.mp H
       obtain ⟨⟨t288, t289, t290, t293⟩, A250, H⟩ := H
       replace H : ((spec_MatrixInv.f kj7 t288 t289 t290).bind fun bt294 => ((spec_l04Times.f kj7 bt294.1 bt294.2.1 bt294.2.2.1 x9_1).bind fun t301 => (some (t301, true)))) = some (r1, r2) := H
       have A25 := Aside0.mk A250
       clear A250
       replace H := Option.bind_eq_some_iff.mp H
       obtain ⟨⟨t294, t295, t296, t299⟩, A260, H⟩ := H
       replace H : ((spec_l04Times.f kj7 t294 t295 t296 x9_1).bind fun t301 => (some (t301, true))) = some (r1, r2) := H
       have A26 := Aside0.mk A260
       clear A260
       replace H := Option.bind_eq_some_iff.mp H
       obtain ⟨t301, A270, H⟩ := H
       replace H : (some (t301, true)) = some (r1, r2) := H
       have A27 := Aside0.mk A270
       clear A270
       simp only [Option.some.injEq, Prod.mk.injEq] at H
       obtain ⟨rfl, rfl⟩ := H
       obtain ⟨Ao28, co28, eo28⟩ := Kd.R_slice HO_8.out
       subst eo28
       go_wp2_with (first | ((with_reducible refine gate_callee (f := 25) rfl ?_); refine goesL_ (some 51) rfl rfl Try.func25 (by kernel_rfl) rfl #[.int .i64 a0, .int .i64 a1] rfl (by (try simp only [List.map_toArray, List.map_cons, List.map_nil]); first | done | rfl | (simp only [List.length_drop, List.length_take]; rfl)) ?_; (with_reducible refine (spec_Cauchy.calls kj7 a0 a1 t282 t283 t284 t287 _ A24.out).mono ?_); rintro e w29 ⟨v285, rfl, ho0, hb⟩; have hf0_v285 : ∀ w : World, (Instr.field 35 (.agg #[.int .i64 t282, .int .i64 t283, v285, .int .i64 t287]) 0).run Try.prog w = .ok (.agg #[.int .i64 t282, .int .i64 t283, v285]) w := (fun _ => by kernel_rfl); refine ⟨_, rfl, ?_⟩; have n_ := Cy.a4 (Kd.R_elder' (Cz.r HO_8.out) (Kd.R_base ho0) hb) (Kd.R_below (Cz.r HO_9.out) hb) (Kd.R_lower (Kd.R_new' ho0 (Kd.R_lt (Cz.r HO_8.out))) (below_size (Cz.w HB.out))) (below_step (Cz.w HB.out) hb); clear HO_8 HO_9 HB; obtain ⟨HO_8, HO_9, HO286, HB⟩ := n_; (try clear hb); (try clear hb2); (try clear hk); (try clear hi); (try clear ho0); obtain ⟨Ao30, co30, eo30⟩ := Kd.R_slice HO286.out; subst eo30) | ((with_reducible refine gate_callee (f := 36) rfl ?_); refine goesL_ (some 54) rfl rfl Try.func36 (by kernel_rfl) rfl #[.agg #[.int .i64 t282, .int .i64 t283, .slice Ao30 t284.length co30], .slice Ao28 x8_1.length co28] rfl (by (try simp only [List.map_toArray, List.map_cons, List.map_nil]); first | done | rfl | (simp only [List.length_drop, List.length_take]; rfl)) ?_; (with_reducible refine (spec_MatrixPick.calls kj7 t282 t283 _ _ t284 _ _ x8_1 t288 t289 t290 t293 _ ?side1 ?side2 ?side3 ?side4 A25.out).mono ?_); (case side1 => repeat (first | exact (Kd.R_reads' HO286.out).2.2 | (with_reducible refine Kd.C_alloc ?_ _) | (with_reducible refine Kd.C_drewN ?_ _) | (with_reducible refine Kd.C_drew ?_))); (case side2 => exact (Kd.R_reads' HO286.out).2.1); (case side3 => repeat (first | exact (Kd.R_reads' HO_8.out).2.2 | (with_reducible refine Kd.C_alloc ?_ _) | (with_reducible refine Kd.C_drewN ?_ _) | (with_reducible refine Kd.C_drew ?_))); (case side4 => exact (Kd.R_reads' HO_8.out).2.1); rintro e w31 ⟨v291, rfl, ho0, hb⟩; have hf0_v291 : ∀ w : World, (Instr.field 35 (.agg #[.int .i64 t288, .int .i64 t289, v291, .int .i64 t293]) 0).run Try.prog w = .ok (.agg #[.int .i64 t288, .int .i64 t289, v291]) w := (fun _ => by kernel_rfl); refine ⟨_, rfl, ?_⟩; have n_ := Cy.a5 (Kd.R_elder' (Cz.r HO_8.out) (Kd.R_base ho0) hb) (Kd.R_below (Cz.r HO_9.out) hb) (Kd.R_elder' (Cz.r HO286.out) (Kd.R_base ho0) hb) (Kd.R_lower (Kd.R_new' (Kd.R_new' ho0 (Kd.R_lt (Cz.r HO_8.out))) (Kd.R_lt (Cz.r HO286.out))) (below_size (Cz.w HB.out))) (below_step (Cz.w HB.out) hb); clear HO_8 HO_9 HO286 HB; obtain ⟨HO_8, HO_9, HO286, HO292, HB⟩ := n_; (try clear hb); (try clear hb2); (try clear hk); (try clear hi); (try clear ho0); obtain ⟨Ao32, co32, eo32⟩ := Kd.R_slice HO292.out; subst eo32) | ((with_reducible refine gate_callee (f := 49) rfl ?_); refine goesL_ (some 56) rfl rfl Try.func49 (by kernel_rfl) rfl #[.agg #[.int .i64 t288, .int .i64 t289, .slice Ao32 t290.length co32]] rfl (by (try simp only [List.map_toArray, List.map_cons, List.map_nil]); first | done | rfl | (simp only [List.length_drop, List.length_take]; rfl)) ?_; (with_reducible refine (spec_MatrixInv.calls kj7 t288 t289 _ _ t290 t294 t295 t296 t299 _ ?side1 ?side2 A26.out).mono ?_); (case side1 => repeat (first | exact (Kd.R_reads' HO292.out).2.2 | (with_reducible refine Kd.C_alloc ?_ _) | (with_reducible refine Kd.C_drewN ?_ _) | (with_reducible refine Kd.C_drew ?_))); (case side2 => exact (Kd.R_reads' HO292.out).2.1); rintro e w33 ⟨v297, rfl, ho0, hb⟩; have hf0_v297 : ∀ w : World, (Instr.field 35 (.agg #[.int .i64 t294, .int .i64 t295, v297, .int .i64 t299]) 0).run Try.prog w = .ok (.agg #[.int .i64 t294, .int .i64 t295, v297]) w := (fun _ => by kernel_rfl); refine ⟨_, rfl, ?_⟩; have n_ := Cy.a6 (Kd.R_elder' (Cz.r HO_8.out) (Kd.R_base ho0) hb) (Kd.R_below (Cz.r HO_9.out) hb) (Kd.R_elder' (Cz.r HO286.out) (Kd.R_base ho0) hb) (Kd.R_elder' (Cz.r HO292.out) (Kd.R_base ho0) hb) (Kd.R_lower (Kd.R_new' (Kd.R_new' (Kd.R_new' ho0 (Kd.R_lt (Cz.r HO_8.out))) (Kd.R_lt (Cz.r HO286.out))) (Kd.R_lt (Cz.r HO292.out))) (below_size (Cz.w HB.out))) (below_step (Cz.w HB.out) hb); clear HO_8 HO_9 HO286 HO292 HB; obtain ⟨HO_8, HO_9, HO286, HO292, HO298, HB⟩ := n_; (try clear hb); (try clear hb2); (try clear hk); (try clear hi); (try clear ho0)) | ((with_reducible refine gate_dst (N := 11) rfl ?_); (try (refine gate_guard (by rfl) ?_; dsimp only)); refine box_event ?hg (N := 11) ?hd (cs := #[.int .i64 0, .int .i64 0, .slice none 0 0, .int .i64 0]) (t := 35) ?hr ?_; (case hd => rfl); (case hg => rfl); (case hr => first | (go_simp; done) | (go_simp; rfl)); intro gb300 hg w34 hbox hb; have n_ := Cy.a9 (Kd.R_below (Cz.r HO_8.out) hb) (Kd.R_below (Cz.r HO_9.out) hb) (Kd.R_below (Cz.r HO286.out) hb) (Kd.R_below (Cz.r HO292.out) hb) (Kd.R_below (Cz.r HO298.out) hb) (below_step (Cz.w HB.out) hb) hbox (Cy.gw hg HB.out) (Cy.gw hg HB.out); clear HO_8 HO_9 HO286 HO292 HO298 HB; obtain ⟨HO_8, HO_9, HO286, HO292, HO298, HB, BK300, GW300, GE300⟩ := n_; clear hb hbox hg; obtain ⟨hcz35_0, hcz35_1, hcz35_2, hcz35_3, hfz35_0, hfz35_1, hfz35_2, hfz35_3⟩ := Cy.z4 BK300.out; obtain ⟨Ao36, co36, eo36⟩ := Kd.R_slice HO298.out; subst eo36; obtain ⟨Ao37, co37, eo37⟩ := Kd.R_slice HO_9.out; subst eo37) | ((with_reducible refine gate_callee (f := 89) rfl ?_); refine goesL_ (some 60) rfl rfl Try.func89 (by kernel_rfl) rfl #[.agg #[.int .i64 t294, .int .i64 t295, .slice Ao36 t296.length co36], .slice Ao37 x9_1.length co37] rfl (by (try simp only [List.map_toArray, List.map_cons, List.map_nil]); first | done | rfl | (simp only [List.length_drop, List.length_take]; rfl)) ?_; (with_reducible refine (spec_l04Times.calls kj7 t294 t295 _ _ t296 _ _ x9_1 t301 _ ?side1 ?side2 ?side3 ?side4 A27.out).mono ?_); (case side1 => refine (Kd.R_reads' (e := 2) (base := w.heap.size) (ok := fun k_ => (((True ∧ some k_ ≠ (.slice Ao28 x8_1.length co28 : Value).ownBlock) ∧ some k_ ≠ (.slice Ao30 t284.length co30 : Value).ownBlock) ∧ some k_ ≠ (.slice Ao32 t290.length co32 : Value).ownBlock)) (n := t296.length) (c := co36) ?_).2.2; exact (Cz.q4 HO298.out BK300.out)); (case side2 => exact (Kd.R_reads' HO298.out).2.1); (case side3 => refine (Kd.R_reads' (e := 9) (base := w.heap.size) (ok := fun k_ => True) (n := x9_1.length) (c := co37) ?_).2.2; exact (Cz.q4 HO_9.out BK300.out)); (case side4 => exact (Kd.R_reads' HO_9.out).2.1); rintro e w38 ⟨v302, rfl, ho0, hb⟩; refine ⟨_, rfl, ?_⟩; have n_ := Cy.a8 (Kd.R_below (Cz.q4 HO_8.out BK300.out) hb) (Kd.R_elder' (Cz.q4 HO_9.out BK300.out) (Kd.R_base ho0) hb) (Kd.R_below (Cz.q4 HO286.out BK300.out) hb) (Kd.R_below (Cz.q4 HO292.out BK300.out) hb) (Kd.R_below (Cz.q4 HO298.out BK300.out) hb) (Kd.R_lower (Kd.R_new' ho0 (Kd.R_lt (Cz.q4 HO_9.out BK300.out))) (below_size (Cz.w HB.out))) (blk_below (g := gb300) (o := .cells #[.int .i64 t294, .int .i64 t295, .slice Ao36 t296.length co36, .int .i64 t299] 35 (0, 0)) (Cz.p4 BK300.out) hb) (below_step (Cz.w HB.out) hb); clear HO_8 HO_9 HO286 HO292 HO298 BK300 HB; obtain ⟨HO_8, HO_9, HO286, HO292, HO298, HO303, BK300, HB⟩ := n_; (try clear hb); (try clear hb2); (try clear hk); (try clear hi); (try clear ho0)))
       go_ret2
       exact ⟨_, by first | rfl | (simp [errW_none, errW_some] <;> rfl) | (simp [*, errW_none, errW_some] <;> rfl), by (with_reducible repeat (first | apply Kd.R_alloc | apply Kd.R_drewN | apply Kd.R_drew)); exact Kd.R_mono HO303.out (fun _ hk => trivial), Cz.w HB.out⟩
end Go.Proofs.Ytlololbhlnapkaa.XFnExactRepair

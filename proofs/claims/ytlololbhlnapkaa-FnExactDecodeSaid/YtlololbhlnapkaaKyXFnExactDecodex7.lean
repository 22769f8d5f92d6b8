/- Plain functions of what the law reaches, proofs that the calls come to them, and the law's row: written by a program of this session (xprint.py) over the kit's print. No conditions beyond each lemma's own. -/
import Derived.Test.YtlololbhlnapkaaKyCy
import Derived.Test.YtlololbhlnapkaaKyXFnExactDecodex0
import Derived.Test.YtlololbhlnapkaaKyXFnExactDecodex2
import Derived.Test.YtlololbhlnapkaaKyXFnExactDecodex3
import Derived.Test.YtlololbhlnapkaaKyXFnExactDecodex6
namespace Go.Proofs.Ytlololbhlnapkaa.XFnExactDecode
open Go.RowKit Go.Proofs.YtlololbhlnapkaaW.PrintWords Go.Proofs.YtlololbhlnapkaaW.PrintLast Go.Proofs.YtlololbhlnapkaaW.PrintMore
attribute [local go_sem] max2_int min2_int max_two min_two max_three min_three max_four min_four   -- for this text's walks alone
set_option linter.unusedVariables false
set_option linter.unusedSimpArgs false
def spec_MatrixInv.j0 : Nat → Bool → Int → Int → List Int → Option (Int × Int × List Int × Int)
  | 0, _, _, _, _ => none
  | k + 1, x13, x221000, x221001, x221002 => if x13 = true then (none) else ((spec_l03Unit.f k x221000).bind fun bt229 => ((spec_l03Copy.f x221000 x221001 x221002).bind fun bt235 => ((spec_l03Steps.f k bt235.1 bt235.2.1 bt235.2.2 bt229.1 bt229.2.1 bt229.2.2).bind fun bt240 => (if bt240.1 < x221000 then (none) else (some (bt229.1, bt229.2.1, bt240.2.2, 0))))))
def spec_MatrixInv.f (k : Nat) (a0_0 : Int) (a0_1 : Int) (l0_2 : List Int) : Option (Int × Int × List Int × Int) := (spec_MatrixRight.f k a0_0 a0_1 l0_2).bind fun t222 => (if t222 = true then (spec_MatrixInv.j0 k (a0_0 != a0_1) a0_0 a0_1 l0_2) else (spec_MatrixInv.j0 k true a0_0 a0_1 l0_2))
set_option maxHeartbeats 8000000 in
set_option maxRecDepth 100000 in
theorem spec_MatrixInv.calls (k : Nat) (a0_0 : Int) (a0_1 : Int) (A0_2 : Option Addr) (c0_2 : Nat) (l0_2 : List Int) (r1 : Int) (r2 : Int) (r3 : List Int) (r4 : Int) (w : World) (hr0_2 : Kd.C (Kd.int .i64) w A0_2 l0_2.length l0_2) (hc0_2 : l0_2.length ≤ c0_2) (h : spec_MatrixInv.f k a0_0 a0_1 l0_2 = some (r1, r2, r3, r4)) :
  Calls Try.prog 49 #[.agg #[.int .i64 a0_0, .int .i64 a0_1, .slice A0_2 l0_2.length c0_2]] w fun e w' => ∃ v2_ : Value, e = .returned (.agg #[.int .i64 r1, .int .i64 r2, v2_, .int .i64 r4]) ∧ Kd.R (Kd.int .i64) 2 w' w.heap.size (fun _ => True) v2_ r3 ∧ Below w.heap.size w w' := by
 have hu27 := Try.underlying27
 have hu35 := Try.underlying35
 have HR0_2 := Aside0.mk hr0_2
 have HC0_2 := Aside0.mk hc0_2
 clear hr0_2 hc0_2
 have HB := Aside0.mk (Below.refl w.heap.size w)
 have H : ((spec_MatrixRight.f k a0_0 a0_1 l0_2).bind fun t222 => (if t222 = true then (spec_MatrixInv.j0 k (a0_0 != a0_1) a0_0 a0_1 l0_2) else (spec_MatrixInv.j0 k true a0_0 a0_1 l0_2))) = some (r1, r2, r3, r4) := h
 clear h
 have HC2 := Aside0.mk H
 clear H
 go_enter Try.func49, Try.ntmps49
 go_upto_region 1 with (first | ((with_reducible refine gate_dst (N := 1) rfl ?_); refine box_event ?hg (N := 1) ?hd (cs := #[.int .i64 a0_0, .int .i64 a0_1, .slice A0_2 l0_2.length c0_2]) (t := 27) ?hr ?_; (case hd => rfl); (case hg => rfl); (case hr => first | (go_simp; done) | (go_simp; rfl)); intro gb220 hg w3 hbox hb; have n_ := Cy.a4 (below_step (Cz.w HB.out) hb) hbox (Cy.gw hg HB.out) (Cy.gw hg HB.out); clear HB; obtain ⟨HB, BK220, GW220, GE220⟩ := n_; clear hb hbox hg) | ((with_reducible refine gate_dst (N := 2) rfl ?_); refine box_event ?hg (N := 2) ?hd (cs := #[.int .i64 0, .int .i64 0, .slice none 0 0, .int .i64 0]) (t := 35) ?hr ?_; (case hd => rfl); (case hg => rfl); (case hr => first | (go_simp; done) | (go_simp; rfl)); intro gb221 hg w4 hbox hb; have n_ := Cy.a7 (blk_below (g := gb220) (o := .cells #[.int .i64 a0_0, .int .i64 a0_1, .slice A0_2 l0_2.length c0_2] 27 (0, 0)) (Cz.b BK220.out) hb) (below_step (Cz.w HB.out) hb) hbox (Cy.gw hg HB.out) (Cy.gw hg HB.out) (by rw [hg]; exact Nat.ne_of_lt (blk_lt (g := gb220) (o := .cells #[.int .i64 a0_0, .int .i64 a0_1, .slice A0_2 l0_2.length c0_2] 27 (0, 0)) (Cz.b BK220.out)) : gb220 ≠ gb221) (by rw [hg]; exact Nat.ne_of_gt (blk_lt (g := gb220) (o := .cells #[.int .i64 a0_0, .int .i64 a0_1, .slice A0_2 l0_2.length c0_2] 27 (0, 0)) (Cz.b BK220.out)) : gb221 ≠ gb220); clear BK220 HB; obtain ⟨BK220, HB, BK221, GW221, GE221, NB220_221, NB221_220⟩ := n_; clear hb hbox hg))
 (try simp only [Act.put, List.setIfInBounds_toArray, List.set_cons_zero, List.set_cons_succ])
 go_cut [13] (fun v13 wc => ∃ (kq : Nat) (x13_1 : Bool), v13 = .bool x13_1 ∧ Aside0 (spec_MatrixInv.j0 kq x13_1 a0_0 a0_1 l0_2 = some (r1, r2, r3, r4)) ∧ Aside0 (kq ≤ k) ∧ Aside0 (wc.heap[gb220]? = some (.cells #[.int .i64 a0_0, .int .i64 a0_1, (.slice A0_2 l0_2.length c0_2)] 27 (0, 0))) ∧ Aside0 (wc.heap[gb221]? = some (.cells #[.int .i64 0, .int .i64 0, (.slice none 0 0), .int .i64 0] 35 (0, 0))) ∧ Aside0 (Below w.heap.size w wc))
 case first =>
  have H := HC2.out
  clear HC2
  replace H := Option.bind_eq_some_iff.mp H
  obtain ⟨t222, A50, H⟩ := H
  replace H : (if t222 = true then (spec_MatrixInv.j0 k (a0_0 != a0_1) a0_0 a0_1 l0_2) else (spec_MatrixInv.j0 k true a0_0 a0_1 l0_2)) = some (r1, r2, r3, r4) := H
  have A5 := Aside0.mk A50
  clear A50
  by_cases c6 : t222 = true
  ·subst c6
   have H1 : (spec_MatrixInv.j0 k (a0_0 != a0_1) a0_0 a0_1 l0_2) = some (r1, r2, r3, r4) := by rw [if_pos rfl] at H; exact H
   clear H
   have H := H1
   clear H1
   have H' := Aside0.mk H
   clear H
   have hnb7 := NB220_221.out
   have hnc7 := NB221_220.out
   obtain ⟨hcz8_0, hcz8_1, hcz8_2, hfz8_0, hfz8_1, hfz8_2⟩ := Cy.z3 BK220.out
   go_wp2_with (first | ((with_reducible refine gate_callee (f := 16) rfl ?_); refine goesL_ (some 5) rfl rfl Try.func16 (by kernel_rfl) rfl #[.agg #[.int .i64 a0_0, .int .i64 a0_1, .slice A0_2 l0_2.length c0_2]] rfl Cy.ls ?_; (with_reducible refine (spec_MatrixRight.calls k a0_0 a0_1 _ _ l0_2 true _ ?side1 ?side2 A5.out).mono ?_); (case side1 => exact Cz.c HR0_2.out HB.out); (case side2 => exact HC0_2.out); rintro e w9 ⟨rfl, hb⟩; refine ⟨_, rfl, ?_⟩; have n_ := Cy.a3 (blk_below (g := gb220) (o := .cells #[.int .i64 a0_0, .int .i64 a0_1, .slice A0_2 l0_2.length c0_2] 27 (0, 0)) (Cz.b BK220.out) hb) (blk_below (g := gb221) (o := .cells #[.int .i64 0, .int .i64 0, .slice none 0 0, .int .i64 0] 35 (0, 0)) (Cz.b BK221.out) hb) (below_step (Cz.w HB.out) hb); clear BK220 BK221 HB; obtain ⟨BK220, BK221, HB⟩ := n_; (try clear hb); (try clear hb2); (try clear hk); (try clear hi); obtain ⟨hcz10_0, hcz10_1, hcz10_2, hfz10_0, hfz10_1, hfz10_2⟩ := Cy.z3 BK220.out))
   go_meet
   case rel => exact ⟨_, ((a0_0 != a0_1)), (by first | rfl | (simp; done) | (simp [*]; done)), H', ⟨by first | omega | exact Nat.le_refl _⟩, ⟨Cz.b BK220.out⟩, ⟨Cz.b BK221.out⟩, ⟨Cz.w HB.out⟩⟩
  ·replace c6 := Bool.eq_false_iff.mpr c6
   subst c6
   have H1 : (spec_MatrixInv.j0 k true a0_0 a0_1 l0_2) = some (r1, r2, r3, r4) := by rw [if_neg (show ¬ (false = true) by decide)] at H; exact H
   clear H
   have H := H1
   clear H1
   have H' := Aside0.mk H
   clear H
   have hnb11 := NB220_221.out
   have hnc11 := NB221_220.out
   obtain ⟨hcz12_0, hcz12_1, hcz12_2, hfz12_0, hfz12_1, hfz12_2⟩ := Cy.z3 BK220.out
   go_wp2_with (first | ((with_reducible refine gate_callee (f := 16) rfl ?_); refine goesL_ (some 5) rfl rfl Try.func16 (by kernel_rfl) rfl #[.agg #[.int .i64 a0_0, .int .i64 a0_1, .slice A0_2 l0_2.length c0_2]] rfl Cy.ls ?_; (with_reducible refine (spec_MatrixRight.calls k a0_0 a0_1 _ _ l0_2 false _ ?side1 ?side2 A5.out).mono ?_); (case side1 => exact Cz.c HR0_2.out HB.out); (case side2 => exact HC0_2.out); rintro e w13 ⟨rfl, hb⟩; refine ⟨_, rfl, ?_⟩; have n_ := Cy.a3 (blk_below (g := gb220) (o := .cells #[.int .i64 a0_0, .int .i64 a0_1, .slice A0_2 l0_2.length c0_2] 27 (0, 0)) (Cz.b BK220.out) hb) (blk_below (g := gb221) (o := .cells #[.int .i64 0, .int .i64 0, .slice none 0 0, .int .i64 0] 35 (0, 0)) (Cz.b BK221.out) hb) (below_step (Cz.w HB.out) hb); clear BK220 BK221 HB; obtain ⟨BK220, BK221, HB⟩ := n_; (try clear hb); (try clear hb2); (try clear hk); (try clear hi)))
   go_meet
   case rel => exact ⟨_, (true), (by first | rfl | (simp; done) | (simp [*]; done)), H', ⟨by first | omega | exact Nat.le_refl _⟩, ⟨Cz.b BK220.out⟩, ⟨Cz.b BK221.out⟩, ⟨Cz.w HB.out⟩⟩
 case rest =>
  clear HC2
  try clear c1
  try clear p2
  try clear c4
  try clear c6
  try clear c7
  try clear c11
  try clear hcz10_0
  try clear hcz10_1
  try clear hcz10_2
  try clear hcz12_0
  try clear hcz12_1
  try clear hcz12_2
  try clear hcz8_0
  try clear hcz8_1
  try clear hcz8_2
  try clear hfz10_0
  try clear hfz10_1
  try clear hfz10_2
  try clear hfz12_0
  try clear hfz12_1
  try clear hfz12_2
  try clear hfz8_0
  try clear hfz8_1
  try clear hfz8_2
  obtain ⟨kq, x13_1, rfl, HA, HJ1, BK220, BK221, HB⟩ := hcut
  cases kq with
  | zero => exact absurd HA.out (by simp [spec_MatrixInv.j0])
  | succ kj1 =>
   have H := HA.out
   clear HA
   simp only [spec_MatrixInv.j0] at H
   by_cases c14 : x13_1 = true
   ·subst c14
    have H1 : (none) = some (r1, r2, r3, r4) := by rw [if_pos rfl] at H; exact H
    clear H
    have H := H1
    clear H1
    exact absurd H (by simp)
   ·replace c14 := Bool.eq_false_iff.mpr c14
    subst c14
    have H1 : ((spec_l03Unit.f kj1 a0_0).bind fun bt229 => ((spec_l03Copy.f a0_0 a0_1 l0_2).bind fun bt235 => ((spec_l03Steps.f kj1 bt235.1 bt235.2.1 bt235.2.2 bt229.1 bt229.2.1 bt229.2.2).bind fun bt240 => (if bt240.1 < a0_0 then (none) else (some (bt229.1, bt229.2.1, bt240.2.2, 0)))))) = some (r1, r2, r3, r4) := by rw [if_neg (show ¬ (false = true) by decide)] at H; exact H
    clear H
    have H := H1
    clear H1
    replace H := Option.bind_eq_some_iff.mp H
    obtain ⟨⟨t229, t230, t231⟩, A150, H⟩ := H
    replace H : ((spec_l03Copy.f a0_0 a0_1 l0_2).bind fun bt235 => ((spec_l03Steps.f kj1 bt235.1 bt235.2.1 bt235.2.2 t229 t230 t231).bind fun bt240 => (if bt240.1 < a0_0 then (none) else (some (t229, t230, bt240.2.2, 0))))) = some (r1, r2, r3, r4) := H
    have A15 := Aside0.mk A150
    clear A150
    replace H := Option.bind_eq_some_iff.mp H
    obtain ⟨⟨t235, t236, t237⟩, A160, H⟩ := H
    replace H : ((spec_l03Steps.f kj1 t235 t236 t237 t229 t230 t231).bind fun bt240 => (if bt240.1 < a0_0 then (none) else (some (t229, t230, bt240.2.2, 0)))) = some (r1, r2, r3, r4) := H
    have A16 := Aside0.mk A160
    clear A160
    replace H := Option.bind_eq_some_iff.mp H
    obtain ⟨⟨t240, t241, t242⟩, A170, H⟩ := H
    replace H : (if t240 < a0_0 then (none) else (some (t229, t230, t242, 0))) = some (r1, r2, r3, r4) := H
    have A17 := Aside0.mk A170
    clear A170
    by_cases c18 : t240 < a0_0
    ·rw [if_pos c18] at H
     exact absurd H (by simp)
    ·rw [if_neg c18] at H
     have c18b0 : decide (t240 < a0_0) = false := decide_eq_false c18
     clear c18
     simp only [Option.some.injEq, Prod.mk.injEq] at H
     obtain ⟨rfl, rfl, rfl, rfl⟩ := H
     have hnb19 := NB220_221.out
     have hnc19 := NB221_220.out
     obtain ⟨hcz20_0, hcz20_1, hcz20_2, hfz20_0, hfz20_1, hfz20_2⟩ := Cy.z3 BK220.out
     try go_wp2_with (first | ((with_reducible refine gate_callee (f := 77) rfl ?_); refine goesL_ (some 17) rfl rfl Try.func77 (by kernel_rfl) rfl #[.int .i64 a0_0] rfl Cy.ls ?_; (with_reducible refine (spec_l03Unit.calls kj1 a0_0 t229 t230 t231 _ A15.out).mono ?_); rintro e w21 ⟨v232, rfl, ho0, hb⟩; refine ⟨_, rfl, ?_⟩; have n_ := Cy.a4 (Kd.R_lower ho0 (below_size (Cz.w HB.out))) (blk_below (g := gb220) (o := .cells #[.int .i64 a0_0, .int .i64 a0_1, .slice A0_2 l0_2.length c0_2] 27 (0, 0)) (Cz.b BK220.out) hb) (blk_below (g := gb221) (o := .cells #[.int .i64 0, .int .i64 0, .slice none 0 0, .int .i64 0] 35 (0, 0)) (Cz.b BK221.out) hb) (below_step (Cz.w HB.out) hb); clear BK220 BK221 HB; obtain ⟨HO233, BK220, BK221, HB⟩ := n_; (try clear hb); (try clear hb2); (try clear hk); (try clear hi); (try clear ho0)) | ((with_reducible refine gate_dst (N := 3) rfl ?_); refine box_event ?hg (N := 3) ?hd (cs := #[.int .i64 0, .int .i64 0, .slice none 0 0]) (t := 27) ?hr ?_; (case hd => rfl); (case hg => rfl); (case hr => first | (go_simp; done) | (go_simp; rfl)); intro gb234 hg w22 hbox hb; have n_ := Cy.a11 (Kd.R_below (Cz.r HO233.out) hb) (blk_below (g := gb220) (o := .cells #[.int .i64 a0_0, .int .i64 a0_1, .slice A0_2 l0_2.length c0_2] 27 (0, 0)) (Cz.b BK220.out) hb) (blk_below (g := gb221) (o := .cells #[.int .i64 0, .int .i64 0, .slice none 0 0, .int .i64 0] 35 (0, 0)) (Cz.b BK221.out) hb) (below_step (Cz.w HB.out) hb) hbox (Cy.gw hg HB.out) (Cy.gw hg HB.out) (by rw [hg]; exact Nat.ne_of_lt (blk_lt (g := gb220) (o := .cells #[.int .i64 a0_0, .int .i64 a0_1, .slice A0_2 l0_2.length c0_2] 27 (0, 0)) (Cz.b BK220.out)) : gb220 ≠ gb234) (by rw [hg]; exact Nat.ne_of_gt (blk_lt (g := gb220) (o := .cells #[.int .i64 a0_0, .int .i64 a0_1, .slice A0_2 l0_2.length c0_2] 27 (0, 0)) (Cz.b BK220.out)) : gb234 ≠ gb220) (by rw [hg]; exact Nat.ne_of_lt (blk_lt (g := gb221) (o := .cells #[.int .i64 0, .int .i64 0, .slice none 0 0, .int .i64 0] 35 (0, 0)) (Cz.b BK221.out)) : gb221 ≠ gb234) (by rw [hg]; exact Nat.ne_of_gt (blk_lt (g := gb221) (o := .cells #[.int .i64 0, .int .i64 0, .slice none 0 0, .int .i64 0] 35 (0, 0)) (Cz.b BK221.out)) : gb234 ≠ gb221); clear HO233 BK220 BK221 HB; obtain ⟨HO233, BK220, BK221, HB, BK234, GW234, GE234, NB220_234, NB234_220, NB221_234, NB234_221⟩ := n_; clear hb hbox hg; have hnb23 := NB234_220.out; have hnc23 := NB220_234.out; have hnb24 := NB234_221.out; have hnc24 := NB221_234.out; obtain ⟨hcz25_0, hcz25_1, hcz25_2, hfz25_0, hfz25_1, hfz25_2⟩ := Cy.z3 BK234.out; obtain ⟨Ao26, co26, eo26⟩ := Kd.R_slice HO233.out; subst eo26))
     have n0_ : Aside0 (Kd.R (Kd.int .i64) 2 (((w22.setCell ⟨gb234, 0, none⟩ (.int .i64 t229)).setCell ⟨gb234, 1, none⟩ (.int .i64 t230)).setCell ⟨gb234, 2, none⟩ (.slice Ao26 t231.length co26)) w.heap.size (fun _ => True) (.slice Ao26 t231.length co26) t231) := ⟨by (with_reducible repeat (first | apply Kd.R_alloc | apply Kd.R_drewN | apply Kd.R_drew)); exact Kd.R_mono (Kd.R_far (p := ⟨gb234, 2, none⟩) (Kd.R_far (p := ⟨gb234, 1, none⟩) (Kd.R_far (p := ⟨gb234, 0, none⟩) (Kd.R_types HO233.out BK234.out (by decide)) (fun _ hk => hk.2) (.int .i64 t229)) (fun _ hk => hk.2) (.int .i64 t230)) (fun _ hk => hk.2) (.slice Ao26 t231.length co26)) (fun _ hk => trivial)⟩
     have n1_ : Aside0 ((((w22.setCell ⟨gb234, 0, none⟩ (.int .i64 t229)).setCell ⟨gb234, 1, none⟩ (.int .i64 t230)).setCell ⟨gb234, 2, none⟩ (.slice Ao26 t231.length co26)).heap[gb220]? = some (.cells #[.int .i64 a0_0, .int .i64 a0_1, .slice A0_2 l0_2.length c0_2] 27 (0, 0))) := ⟨Cz.f BK220.out NB220_234.out⟩
     have n2_ : Aside0 ((((w22.setCell ⟨gb234, 0, none⟩ (.int .i64 t229)).setCell ⟨gb234, 1, none⟩ (.int .i64 t230)).setCell ⟨gb234, 2, none⟩ (.slice Ao26 t231.length co26)).heap[gb221]? = some (.cells #[.int .i64 0, .int .i64 0, .slice none 0 0, .int .i64 0] 35 (0, 0))) := ⟨Cz.f BK221.out NB221_234.out⟩
     have n3_ : Aside0 ((((w22.setCell ⟨gb234, 0, none⟩ (.int .i64 t229)).setCell ⟨gb234, 1, none⟩ (.int .i64 t230)).setCell ⟨gb234, 2, none⟩ (.slice Ao26 t231.length co26)).heap[gb234]? = some (.cells #[.int .i64 t229, .int .i64 t230, .slice Ao26 t231.length co26] 27 (0, 0))) := ⟨Cz.p3 BK234.out⟩
     have n4_ : Aside0 (Below w.heap.size w (((w22.setCell ⟨gb234, 0, none⟩ (.int .i64 t229)).setCell ⟨gb234, 1, none⟩ (.int .i64 t230)).setCell ⟨gb234, 2, none⟩ (.slice Ao26 t231.length co26))) := ⟨Cz.w HB.out⟩
     (try clear HO233)
     (try clear BK220)
     (try clear BK221)
     (try clear BK234)
     (try clear HB)
     generalize (((w22.setCell ⟨gb234, 0, none⟩ (.int .i64 t229)).setCell ⟨gb234, 1, none⟩ (.int .i64 t230)).setCell ⟨gb234, 2, none⟩ (.slice Ao26 t231.length co26)) = w27 at n0_ n1_ n2_ n3_ n4_ ⊢
     have HO233 := n0_
     have BK220 := n1_
     have BK221 := n2_
     have BK234 := n3_
     have HB := n4_
     clear n0_ n1_ n2_ n3_ n4_
     have n_ := Cy.a5 (Kd.R_drew HO233.out) (blk_drew BK220.out) (blk_drew BK221.out) (blk_drew BK234.out) (below_drew1 HB.out)
     clear HO233 BK220 BK221 BK234 HB
     obtain ⟨HO233, BK220, BK221, BK234, HB⟩ := n_
     refine start_ (n := 7) (S := fun w' => w'.cell? ⟨gb220, 0, none⟩ = some (.int .i64 a0_0) ∧ w'.cell? ⟨gb220, 1, none⟩ = some (.int .i64 a0_1) ∧ w'.cell? ⟨gb220, 2, none⟩ = some (.slice A0_2 l0_2.length c0_2) ∧ w'.cell? ⟨gb234, 0, none⟩ = some (.int .i64 t229) ∧ w'.cell? ⟨gb234, 1, none⟩ = some (.int .i64 t230) ∧ w'.cell? ⟨gb234, 2, none⟩ = some (.slice Ao26 t231.length co26)) (ds := []) #[false, false, false, false, false, false, false] (by kernel_rfl) rfl rfl ⟨(blk_cell BK220.out 0).trans rfl, (blk_cell BK220.out 1).trans rfl, (blk_cell BK220.out 2).trans rfl, (blk_cell BK234.out 0).trans rfl, (blk_cell BK234.out 1).trans rfl, (blk_cell BK234.out 2).trans rfl⟩ (fun hHeld => ?_)
     generalize w27.drew = w28 at HO233 BK220 BK221 BK234 HB hHeld ⊢
     refine pure_ (i := 4) (N := some 22) (v := ?_) (a' := ?_) #[false, false, false, false, true, false, false] rfl rfl (by kernel_rfl) (fun _ _ _ h => h) (Or.inl ⟨by rfl, ?_⟩) ?_ ?_
     rotate_left
     ·intro w'
      go_simp
      with_reducible rfl
     rotate_left
     ·simp only [Act.put, List.setIfInBounds_toArray, List.set_cons_zero, List.set_cons_succ, i64_w, i32_w]
      rfl
     refine take_ (i := 0) (N := some 18) (v := ?_) (a' := ?_) #[true, false, false, false, true, false, false] rfl rfl (by kernel_rfl) (fun _ _ _ h => h) (Or.inl ⟨by rfl, ?_⟩) hHeld ?_ ?_
     rotate_left
     ·rintro w' ⟨s0, s1, s2, s3, s4, s5⟩
      go_simp
      with_reducible rfl
     rotate_left
     ·simp only [Act.put, List.setIfInBounds_toArray, List.set_cons_zero, List.set_cons_succ, i64_w, i32_w]
      rfl
     refine take_ (i := 2) (N := some 20) (v := ?_) (a' := ?_) #[true, false, true, false, true, false, false] rfl rfl (by kernel_rfl) (fun _ _ _ h => h) (Or.inl ⟨by rfl, ?_⟩) hHeld ?_ ?_
     rotate_left
     ·rintro w' ⟨s0, s1, s2, s3, s4, s5⟩
      go_simp
      with_reducible rfl
     rotate_left
     ·simp only [Act.put, List.setIfInBounds_toArray, List.set_cons_zero, List.set_cons_succ, i64_w, i32_w]
      rfl
     refine take_ (i := 5) (N := some 23) (v := ?_) (a' := ?_) #[true, false, true, false, true, true, false] rfl rfl (by kernel_rfl) (fun _ _ _ h => h) (Or.inl ⟨by rfl, ?_⟩) hHeld ?_ ?_
     rotate_left
     ·rintro w' ⟨s0, s1, s2, s3, s4, s5⟩
      go_simp
      with_reducible rfl
     rotate_left
     ·simp only [Act.put, List.setIfInBounds_toArray, List.set_cons_zero, List.set_cons_succ, i64_w, i32_w]
      rfl
     refine one_ (i := 1) (N := some 19) #[true, true, true, false, true, true, false] rfl rfl (by kernel_rfl) (by decide) (fun K hK => ?_)
     refine goes_ Try.func98 (by kernel_rfl) rfl #[.agg #[.int .i64 a0_0, .int .i64 a0_1, .slice A0_2 l0_2.length c0_2]] (by rfl) rfl rfl Cy.ls ?_
     with_reducible refine (spec_l03Copy.calls a0_0 a0_1 _ _ l0_2 t235 t236 t237 _ ?side1 ?side2 A16.out).mono ?_
     (case side1 => exact Cz.c HR0_2.out HB.out)
     (case side2 => exact HC0_2.out)
     rintro e w29 ⟨v238, rfl, ho0, hb⟩
     refine ⟨_, rfl, ?_⟩
     have n_ := Cy.a6 (Kd.R_elder' (Cz.r HO233.out) (Kd.R_base ho0) hb) (Kd.R_lower (Kd.R_new' ho0 (Kd.R_lt (Cz.r HO233.out))) (below_size (Cz.w HB.out))) (blk_below (g := gb220) (o := .cells #[.int .i64 a0_0, .int .i64 a0_1, .slice A0_2 l0_2.length c0_2] 27 (0, 0)) (Cz.b BK220.out) hb) (blk_below (g := gb221) (o := .cells #[.int .i64 0, .int .i64 0, .slice none 0 0, .int .i64 0] 35 (0, 0)) (Cz.b BK221.out) hb) (blk_below (g := gb234) (o := .cells #[.int .i64 t229, .int .i64 t230, .slice Ao26 t231.length co26] 27 (0, 0)) (Cz.b BK234.out) hb) (below_step (Cz.w HB.out) hb)
     clear HO233 BK220 BK221 BK234 HB
     obtain ⟨HO233, HO239, BK220, BK221, BK234, HB⟩ := n_
     (try clear hb)
     (try clear hb2)
     (try clear hk)
     (try clear hi)
     (try clear ho0)
     obtain ⟨Ao30, co30, eo30⟩ := Kd.R_slice HO239.out
     (first | subst eo30 | (injection eo30 with f1_ f2_ f3_; have f4_ := f1_.symm; have f5_ := f3_.symm; clear f1_ f2_ f3_; subst f4_; subst f5_))
     refine hK.out _ _ ⟨(blk_cell BK220.out 0).trans rfl, (blk_cell BK220.out 1).trans rfl, (blk_cell BK220.out 2).trans rfl, (blk_cell BK234.out 0).trans rfl, (blk_cell BK234.out 1).trans rfl, (blk_cell BK234.out 2).trans rfl⟩ (fun hHeld => ?_)
     clear hK K
     refine norm_ (a' := ?_) ?_ ?_
     rotate_left
     ·show Act.put _ (some 19) _ = _
      simp only [Act.put, List.setIfInBounds_toArray, List.set_cons_zero, List.set_cons_succ, i64_w, i32_w]
      rfl
     refine one_ (i := 3) (N := some 21) #[true, true, true, true, true, true, false] rfl rfl (by kernel_rfl) (by decide) (fun K hK => ?_)
     refine goes_ Try.func97 (by kernel_rfl) rfl #[.agg #[.int .i64 t235, .int .i64 t236, .slice Ao30 t237.length co30], .agg #[.int .i64 t229, .int .i64 t230, .slice Ao26 t231.length co26]] (by rfl) rfl rfl Cy.ls ?_
     with_reducible refine (spec_l03Steps.calls kj1 t235 t236 (fun k_ => some k_ = (.slice Ao30 t237.length co30 : Value).ownBlock) (.slice Ao30 t237.length co30) t237 t229 t230 (fun k_ => some k_ = (.slice Ao26 t231.length co26 : Value).ownBlock) (.slice Ao26 t231.length co26) t231 t240 t241 t242 w _ ?side1 ?side2 ?side3 ?side4 ?side5 A17.out).mono ?_
     (case side1 => repeat (first | (with_reducible first | exact HB.out | apply below_alloc | apply pw_below_drewN | apply below_drew1 | refine below_set ?_ GE220.out | refine below_set ?_ GE221.out | refine below_set ?_ GE234.out) | exact HB.out))
     (case side2 => exact Kd.R_tight rfl HO239.out)
     (case side3 => exact fun k_ e_ => (HO239.out.1 k_ e_.symm).2)
     (case side4 => exact Kd.R_tight rfl HO233.out)
     (case side5 => exact fun k_ e_ => (HO233.out.1 k_ e_.symm).2)
     rintro e w31 ⟨rfl, hy0, hy1, hb, hkp⟩
     refine ⟨_, rfl, ?_⟩
     have n_ := Cy.a6 (blk_kept (Cz.b BK220.out) hkp (fun hs_ => Or.elim hs_ (fun e_ => (fun e_ => (Kd.R_ne HO239.out BK220.out (by decide)) e_) e_) (fun e_ => (fun e_ => (Kd.R_ne HO233.out BK220.out (by decide)) e_) e_))) (blk_kept (Cz.b BK221.out) hkp (fun hs_ => Or.elim hs_ (fun e_ => (fun e_ => (Kd.R_ne HO239.out BK221.out (by decide)) e_) e_) (fun e_ => (fun e_ => (Kd.R_ne HO233.out BK221.out (by decide)) e_) e_))) (Kd.R_reok rfl hy1 (fun k_ e_ => HO233.out.1 k_ e_)) (blk_kept (Cz.b BK234.out) hkp (fun hs_ => Or.elim hs_ (fun e_ => (fun e_ => (Kd.R_ne HO239.out BK234.out (by decide)) e_) e_) (fun e_ => (fun e_ => (Kd.R_ne HO233.out BK234.out (by decide)) e_) e_))) (Kd.R_reok rfl hy0 (fun k_ e_ => HO239.out.1 k_ e_)) hb
     clear BK220 BK221 HO233 BK234 HO239 HB
     obtain ⟨BK220, BK221, HO233, BK234, HO239, HB⟩ := n_
     (try clear hb)
     (try clear hkp)
     (try clear hy0)
     (try clear hy1)
     refine hK.out _ _ ⟨(blk_cell BK220.out 0).trans rfl, (blk_cell BK220.out 1).trans rfl, (blk_cell BK220.out 2).trans rfl, (blk_cell BK234.out 0).trans rfl, (blk_cell BK234.out 1).trans rfl, (blk_cell BK234.out 2).trans rfl⟩ (fun hHeld => ?_)
     clear hK K
     refine norm_ (a' := ?_) ?_ ?_
     rotate_left
     ·show Act.put _ (some 21) _ = _
      simp only [Act.put, List.setIfInBounds_toArray, List.set_cons_zero, List.set_cons_succ, i64_w, i32_w]
      rfl
     refine pure_ (i := 6) (N := some 24) (v := ?_) (a' := ?_) #[true, true, true, true, true, true, true] rfl rfl (by kernel_rfl) (fun _ _ _ h => h) (Or.inl ⟨by rfl, ?_⟩) ?_ ?_
     rotate_left
     ·intro w'
      go_simp
      with_reducible rfl
     rotate_left
     ·simp only [Act.put, List.setIfInBounds_toArray, List.set_cons_zero, List.set_cons_succ, i64_w, i32_w]
      rfl
     refine done_ (by kernel_rfl) ?_
     obtain ⟨hcz32_0, hcz32_1, hcz32_2, hfz32_0, hfz32_1, hfz32_2⟩ := Cy.z3 BK234.out
     obtain ⟨hcz33_0, hcz33_1, hcz33_2, hcz33_3, hfz33_0, hfz33_1, hfz33_2, hfz33_3⟩ := Cy.z4 BK221.out
     try go_wp2
     refine bodyPost_ret (results_cell_row rfl _ _ gb221 35 #[.int .i64 t229, .int .i64 t230, .slice Ao26 t231.length co26, .int .i64 0] (0, 0) _ rfl (Cz.p4 BK221.out) Try.underlying35 rfl (by kernel_rfl)) rfl ?_
     exact ⟨_, by first | rfl | (simp [errW_none, errW_some] <;> rfl) | (simp [*, errW_none, errW_some] <;> rfl), by (with_reducible repeat (first | apply Kd.R_alloc | apply Kd.R_drewN | apply Kd.R_drew)); exact Kd.R_mono (Kd.R_far (p := ⟨gb221, 3, none⟩) (Kd.R_far (p := ⟨gb221, 2, none⟩) (Kd.R_far (p := ⟨gb221, 1, none⟩) (Kd.R_far (p := ⟨gb221, 0, none⟩) (Kd.R_types HO233.out BK221.out (by decide)) (fun _ hk => hk.2) (.int .i64 t229)) (fun _ hk => hk.2) (.int .i64 t230)) (fun _ hk => hk.2) (.slice Ao26 t231.length co26)) (fun _ hk => hk.2) (.int .i64 0)) (fun _ hk => trivial), Cz.w HB.out⟩
end Go.Proofs.Ytlololbhlnapkaa.XFnExactDecode

/- Plain functions of what the law reaches, proofs that the calls come to them, and the law's row: written by a program of this session (xprint.py) over the kit's print. No conditions beyond each lemma's own. -/
import Derived.Test.YtlololbhlnapkaaKyCy
import Derived.Test.YtlololbhlnapkaaKyXFnExactDecodex0
import Derived.Test.YtlololbhlnapkaaKyXFnExactDecodex3
namespace Go.Proofs.Ytlololbhlnapkaa.XFnExactDecode
open Go.RowKit Go.Proofs.YtlololbhlnapkaaW.PrintWords Go.Proofs.YtlololbhlnapkaaW.PrintLast Go.Proofs.YtlololbhlnapkaaW.PrintMore
attribute [local go_sem] max2_int min2_int max_two min_two max_three min_three max_four min_four   -- for this text's walks alone
set_option linter.unusedVariables false
set_option linter.unusedSimpArgs false
mutual
def spec_MatrixPick.j0 : Nat → List Int → Bool → Int → Int → List Int → Option (Int × Int × List Int × Int)
  | 0, _, _, _, _, _ => none
  | k + 1, x1, x23, x155000, x155001, x155002 => if x23 = true then (none) else (spec_MatrixPick.l0 k x1 0 x155000 x155001 x155002 (x1.length : Int) x155001 ([] : List Int))
def spec_MatrixPick.l0 : Nat → List Int → Int → Int → Int → List Int → Int → Int → List Int → Option (Int × Int × List Int × Int)
  | 0, _, _, _, _, _, _, _, _ => none
  | k + 1, x1, x6, x155000, x155001, x155002, x170000, x170001, x170002 => if x6 < (x1.length : Int) then (if 0 ≤ x6 then (if (rd x1 x6) < 0 then (none) else (if (rd x1 x6) ≥ x155000 then (none) else (if 0 ≤ (wrap64 ((rd x1 x6) * x155001)) then (if (wrap64 ((rd x1 x6) * x155001)) ≤ (wrap64 ((wrap64 ((rd x1 x6) + 1)) * x155001)) then (if (wrap64 ((wrap64 ((rd x1 x6) + 1)) * x155001)) ≤ (x155002.length : Int) then (if x170002.length + ((x155002.take ((wrap64 ((wrap64 ((rd x1 x6) + 1)) * x155001)) : Int).toNat).drop ((wrap64 ((rd x1 x6) * x155001)) : Int).toNat).length < 17592186044416 then (spec_MatrixPick.l0 k x1 (wrap64 (x6 + 1)) x155000 x155001 x155002 x170000 x170001 (x170002 ++ ((x155002.take ((wrap64 ((wrap64 ((rd x1 x6) + 1)) * x155001)) : Int).toNat).drop ((wrap64 ((rd x1 x6) * x155001)) : Int).toNat))) else (none)) else (none)) else (none)) else (none)))) else (none)) else (some (x170000, x170001, x170002, 0))
end
def spec_MatrixPick.f (k : Nat) (a0_0 : Int) (a0_1 : Int) (l0_2 : List Int) (l1 : List Int) : Option (Int × Int × List Int × Int) := if (l1.length : Int) > 400 then (none) else ((spec_MatrixRight.f k a0_0 a0_1 l0_2).bind fun t162 => (if t162 = true then (if (l1.length : Int) < 1 then (spec_MatrixPick.j0 k l1 true a0_0 a0_1 l0_2) else (spec_MatrixPick.j0 k l1 (decide ((l1.length : Int) > 16)) a0_0 a0_1 l0_2)) else (spec_MatrixPick.j0 k l1 true a0_0 a0_1 l0_2)))
def spec_MatrixPick.T9 : Bool × List (List Nat × List Nat) := (true, [([], []), ([], []), ([0, 1], [0, 1]), ([2], [2]), ([3], [3]), ([4], [4]), ([5], [5]), ([5], [5]), ([6, 7, 5], [5, 6, 7]), ([8, 5], [5, 8]), ([5], [5]), ([10, 5], [5, 10]), ([9, 11, 5], [5, 9, 11]), ([5, 12], [5, 12])])
def spec_MatrixPick.B9 : List Nat := [0, 0, 3, 7, 15, 31, 63, 63, 255, 511, 63, 1087, 4095, 8191]
theorem spec_MatrixPick.tab9 : rtab .any (opsOf Try.f36 9) = spec_MatrixPick.T9 := by kernel_rfl
theorem spec_MatrixPick.bits9 : waitsOk spec_MatrixPick.T9.2 spec_MatrixPick.B9 = true := by kernel_rfl
def spec_MatrixPick.T11 : Bool × List (List Nat × List Nat) := (true, [([], []), ([0], [0]), ([], []), ([2], [2]), ([], []), ([], []), ([4, 5], [4, 5]), ([6], [6]), ([], []), ([8], [8]), ([7, 9], [7, 9]), ([], []), ([], []), ([11, 12], [11, 12]), ([13], [13]), ([14], [14]), ([], []), ([16], [16]), ([15, 17], [15, 17]), ([3, 10, 18], [3, 10, 18]), ([1, 19], [1, 19]), ([0, 1, 2, 3, 4, 5, 6, 7, 8, 9, 10, 11, 12, 13, 14, 15, 16, 17, 18, 19, 20], []), ([21, 20, 20, 0, 1, 2, 3, 4, 5, 6, 7, 8, 9, 10, 11, 12, 13, 14, 15, 16, 17, 18, 19, 20], [20, 21])])
def spec_MatrixPick.B11 : List Nat := [0, 1, 0, 4, 0, 0, 48, 112, 0, 256, 1008, 0, 0, 6144, 14336, 30720, 0, 65536, 260096, 524284, 1048575, 2097151, 4194303]
theorem spec_MatrixPick.tab11 : rtab .any (opsOf Try.f36 11) = spec_MatrixPick.T11 := by kernel_rfl
theorem spec_MatrixPick.bits11 : waitsOk spec_MatrixPick.T11.2 spec_MatrixPick.B11 = true := by kernel_rfl
set_option maxHeartbeats 8000000 in
set_option maxRecDepth 100000 in
theorem spec_MatrixPick.calls (k : Nat) (a0_0 : Int) (a0_1 : Int) (A0_2 : Option Addr) (c0_2 : Nat) (l0_2 : List Int) (A1 : Option Addr) (c1 : Nat) (l1 : List Int) (r1 : Int) (r2 : Int) (r3 : List Int) (r4 : Int) (w : World) (hr0_2 : Kd.C (Kd.int .i64) w A0_2 l0_2.length l0_2) (hc0_2 : l0_2.length ≤ c0_2) (hr1 : Kd.C (Kd.int .i64) w A1 l1.length l1) (hc1 : l1.length ≤ c1) (h : spec_MatrixPick.f k a0_0 a0_1 l0_2 l1 = some (r1, r2, r3, r4)) :
  Calls Try.prog 36 #[.agg #[.int .i64 a0_0, .int .i64 a0_1, .slice A0_2 l0_2.length c0_2], .slice A1 l1.length c1] w fun e w' => ∃ v2_ : Value, e = .returned (.agg #[.int .i64 r1, .int .i64 r2, v2_, .int .i64 r4]) ∧ Kd.R (Kd.int .i64) 2 w' w.heap.size (fun _ => True) v2_ r3 ∧ Below w.heap.size w w' := by
 have hu27 := Try.underlying27
 have hu35 := Try.underlying35
 have HR0_2 := Aside0.mk hr0_2
 have HC0_2 := Aside0.mk hc0_2
 clear hr0_2 hc0_2
 have HR1 := Aside0.mk hr1
 have HC1 := Aside0.mk hc1
 clear hr1 hc1
 have HB := Aside0.mk (Below.refl w.heap.size w)
 have H : (if (l1.length : Int) > 400 then (none) else ((spec_MatrixRight.f k a0_0 a0_1 l0_2).bind fun t162 => (if t162 = true then (if (l1.length : Int) < 1 then (spec_MatrixPick.j0 k l1 true a0_0 a0_1 l0_2) else (spec_MatrixPick.j0 k l1 (decide ((l1.length : Int) > 16)) a0_0 a0_1 l0_2)) else (spec_MatrixPick.j0 k l1 true a0_0 a0_1 l0_2)))) = some (r1, r2, r3, r4) := h
 clear h
 by_cases c3 : (l1.length : Int) > 400
 ·rw [if_pos c3] at H
  exact absurd H (by simp)
 ·rw [if_neg c3] at H
  have c3b0 : decide (400 < (l1.length : Int)) = false := decide_eq_false c3
  have c3b1 : decide (400 < l1.length) = false := decide_eq_false (by omega)
  clear c3
  have HC4 := Aside0.mk H
  clear H
  go_enter Try.func36, Try.ntmps36
  go_upto_region 3 with (first | ((with_reducible refine gate_dst (N := 2) rfl ?_); (try (refine gate_guard (by rfl) ?_; dsimp only)); refine box_event ?hg (N := 2) ?hd (cs := #[.int .i64 a0_0, .int .i64 a0_1, .slice A0_2 l0_2.length c0_2]) (t := 27) ?hr ?_; (case hd => rfl); (case hg => rfl); (case hr => first | (go_simp; done) | (go_simp; rfl)); intro gb154 hg w5 hbox hb; have n_ := Cy.a4 (below_step (Cz.w HB.out) hb) hbox (Cy.gw hg HB.out) (Cy.gw hg HB.out); clear HB; obtain ⟨HB, BK154, GW154, GE154⟩ := n_; clear hb hbox hg) | ((with_reducible refine gate_dst (N := 4) rfl ?_); (try (refine gate_guard (by rfl) ?_; dsimp only)); refine box_event ?hg (N := 4) ?hd (cs := #[.int .i64 0, .int .i64 0, .slice none 0 0, .int .i64 0]) (t := 35) ?hr ?_; (case hd => rfl); (case hg => rfl); (case hr => first | (go_simp; done) | (go_simp; rfl)); intro gb155 hg w6 hbox hb; have n_ := Cy.a7 (blk_below (g := gb154) (o := .cells #[.int .i64 a0_0, .int .i64 a0_1, .slice A0_2 l0_2.length c0_2] 27 (0, 0)) (Cz.b BK154.out) hb) (below_step (Cz.w HB.out) hb) hbox (Cy.gw hg HB.out) (Cy.gw hg HB.out) (by rw [hg]; exact Nat.ne_of_lt (blk_lt (g := gb154) (o := .cells #[.int .i64 a0_0, .int .i64 a0_1, .slice A0_2 l0_2.length c0_2] 27 (0, 0)) (Cz.b BK154.out)) : gb154 ≠ gb155) (by rw [hg]; exact Nat.ne_of_gt (blk_lt (g := gb154) (o := .cells #[.int .i64 a0_0, .int .i64 a0_1, .slice A0_2 l0_2.length c0_2] 27 (0, 0)) (Cz.b BK154.out)) : gb155 ≠ gb154); clear BK154 HB; obtain ⟨BK154, HB, BK155, GW155, GE155, NB154_155, NB155_154⟩ := n_; clear hb hbox hg))
  (try simp only [Act.put, List.setIfInBounds_toArray, List.set_cons_zero, List.set_cons_succ])
  go_cut [23] (fun v23 wc => ∃ (kq : Nat) (x23_3 : Bool), v23 = .bool x23_3 ∧ Aside0 (spec_MatrixPick.j0 kq l1 x23_3 a0_0 a0_1 l0_2 = some (r1, r2, r3, r4)) ∧ Aside0 (kq ≤ k) ∧ Aside0 (wc.heap[gb154]? = some (.cells #[.int .i64 a0_0, .int .i64 a0_1, (.slice A0_2 l0_2.length c0_2)] 27 (0, 0))) ∧ Aside0 (wc.heap[gb155]? = some (.cells #[.int .i64 0, .int .i64 0, (.slice none 0 0), .int .i64 0] 35 (0, 0))) ∧ Aside0 (Below w.heap.size w wc))
  case first =>
   have H := HC4.out
   clear HC4
   replace H := Option.bind_eq_some_iff.mp H
   obtain ⟨t162, A70, H⟩ := H
   replace H : (if t162 = true then (if (l1.length : Int) < 1 then (spec_MatrixPick.j0 k l1 true a0_0 a0_1 l0_2) else (spec_MatrixPick.j0 k l1 (decide ((l1.length : Int) > 16)) a0_0 a0_1 l0_2)) else (spec_MatrixPick.j0 k l1 true a0_0 a0_1 l0_2)) = some (r1, r2, r3, r4) := H
   have A7 := Aside0.mk A70
   clear A70
   by_cases c8 : t162 = true
   ·subst c8
    have H1 : (if (l1.length : Int) < 1 then (spec_MatrixPick.j0 k l1 true a0_0 a0_1 l0_2) else (spec_MatrixPick.j0 k l1 (decide ((l1.length : Int) > 16)) a0_0 a0_1 l0_2)) = some (r1, r2, r3, r4) := by rw [if_pos rfl] at H; exact H
    clear H
    have H := H1
    clear H1
    by_cases c9 : (l1.length : Int) < 1
    ·rw [if_pos c9] at H
     have c9b0 : decide ((l1.length : Int) < 1) = true := decide_eq_true c9
     have c9b1 : decide (l1.length < 1) = true := decide_eq_true (by omega)
     clear c9
     (first | rw [c9b0] | (simp only [i64_w, i32_w]; rw [c9b0]) | skip)
     have H' := Aside0.mk H
     clear H
     have hnb10 := NB154_155.out
     have hnc10 := NB155_154.out
     obtain ⟨hcz11_0, hcz11_1, hcz11_2, hfz11_0, hfz11_1, hfz11_2⟩ := Cy.z3 BK154.out
     go_wp2_with (first | ((with_reducible refine gate_callee (f := 16) rfl ?_); refine goesL_ (some 12) rfl rfl Try.func16 (by kernel_rfl) rfl #[.agg #[.int .i64 a0_0, .int .i64 a0_1, .slice A0_2 l0_2.length c0_2]] rfl Cy.ls ?_; (with_reducible refine (spec_MatrixRight.calls k a0_0 a0_1 _ _ l0_2 true _ ?side1 ?side2 A7.out).mono ?_); (case side1 => exact Cz.c HR0_2.out HB.out); (case side2 => exact HC0_2.out); rintro e w12 ⟨rfl, hb⟩; refine ⟨_, rfl, ?_⟩; have n_ := Cy.a3 (blk_below (g := gb154) (o := .cells #[.int .i64 a0_0, .int .i64 a0_1, .slice A0_2 l0_2.length c0_2] 27 (0, 0)) (Cz.b BK154.out) hb) (blk_below (g := gb155) (o := .cells #[.int .i64 0, .int .i64 0, .slice none 0 0, .int .i64 0] 35 (0, 0)) (Cz.b BK155.out) hb) (below_step (Cz.w HB.out) hb); clear BK154 BK155 HB; obtain ⟨BK154, BK155, HB⟩ := n_; (try clear hb); (try clear hb2); (try clear hk); (try clear hi)))
     go_meet
     case rel => exact ⟨_, (true), (by first | rfl | (simp; done) | (simp [*]; done)), H', ⟨by first | omega | exact Nat.le_refl _⟩, ⟨Cz.b BK154.out⟩, ⟨Cz.b BK155.out⟩, ⟨Cz.w HB.out⟩⟩
    ·rw [if_neg c9] at H
     have c9b0 : decide ((l1.length : Int) < 1) = false := decide_eq_false c9
     have c9b1 : decide (l1.length < 1) = false := decide_eq_false (by omega)
     clear c9
     (first | rw [c9b0] | (simp only [i64_w, i32_w]; rw [c9b0]) | skip)
     have H' := Aside0.mk H
     clear H
     have hnb13 := NB154_155.out
     have hnc13 := NB155_154.out
     obtain ⟨hcz14_0, hcz14_1, hcz14_2, hfz14_0, hfz14_1, hfz14_2⟩ := Cy.z3 BK154.out
     go_wp2_with (first | ((with_reducible refine gate_callee (f := 16) rfl ?_); refine goesL_ (some 12) rfl rfl Try.func16 (by kernel_rfl) rfl #[.agg #[.int .i64 a0_0, .int .i64 a0_1, .slice A0_2 l0_2.length c0_2]] rfl Cy.ls ?_; (with_reducible refine (spec_MatrixRight.calls k a0_0 a0_1 _ _ l0_2 true _ ?side1 ?side2 A7.out).mono ?_); (case side1 => exact Cz.c HR0_2.out HB.out); (case side2 => exact HC0_2.out); rintro e w15 ⟨rfl, hb⟩; refine ⟨_, rfl, ?_⟩; have n_ := Cy.a3 (blk_below (g := gb154) (o := .cells #[.int .i64 a0_0, .int .i64 a0_1, .slice A0_2 l0_2.length c0_2] 27 (0, 0)) (Cz.b BK154.out) hb) (blk_below (g := gb155) (o := .cells #[.int .i64 0, .int .i64 0, .slice none 0 0, .int .i64 0] 35 (0, 0)) (Cz.b BK155.out) hb) (below_step (Cz.w HB.out) hb); clear BK154 BK155 HB; obtain ⟨BK154, BK155, HB⟩ := n_; (try clear hb); (try clear hb2); (try clear hk); (try clear hi)))
     go_meet
     case rel => exact ⟨_, (decide ((l1.length : Int) > 16)), (by first | rfl | (simp; done) | (simp [*]; done)), H', ⟨by first | omega | exact Nat.le_refl _⟩, ⟨Cz.b BK154.out⟩, ⟨Cz.b BK155.out⟩, ⟨Cz.w HB.out⟩⟩
   ·replace c8 := Bool.eq_false_iff.mpr c8
    subst c8
    have H1 : (spec_MatrixPick.j0 k l1 true a0_0 a0_1 l0_2) = some (r1, r2, r3, r4) := by rw [if_neg (show ¬ (false = true) by decide)] at H; exact H
    clear H
    have H := H1
    clear H1
    have H' := Aside0.mk H
    clear H
    have hnb16 := NB154_155.out
    have hnc16 := NB155_154.out
    obtain ⟨hcz17_0, hcz17_1, hcz17_2, hfz17_0, hfz17_1, hfz17_2⟩ := Cy.z3 BK154.out
    go_wp2_with (first | ((with_reducible refine gate_callee (f := 16) rfl ?_); refine goesL_ (some 12) rfl rfl Try.func16 (by kernel_rfl) rfl #[.agg #[.int .i64 a0_0, .int .i64 a0_1, .slice A0_2 l0_2.length c0_2]] rfl Cy.ls ?_; (with_reducible refine (spec_MatrixRight.calls k a0_0 a0_1 _ _ l0_2 false _ ?side1 ?side2 A7.out).mono ?_); (case side1 => exact Cz.c HR0_2.out HB.out); (case side2 => exact HC0_2.out); rintro e w18 ⟨rfl, hb⟩; refine ⟨_, rfl, ?_⟩; have n_ := Cy.a3 (blk_below (g := gb154) (o := .cells #[.int .i64 a0_0, .int .i64 a0_1, .slice A0_2 l0_2.length c0_2] 27 (0, 0)) (Cz.b BK154.out) hb) (blk_below (g := gb155) (o := .cells #[.int .i64 0, .int .i64 0, .slice none 0 0, .int .i64 0] 35 (0, 0)) (Cz.b BK155.out) hb) (below_step (Cz.w HB.out) hb); clear BK154 BK155 HB; obtain ⟨BK154, BK155, HB⟩ := n_; (try clear hb); (try clear hb2); (try clear hk); (try clear hi)))
    go_meet
    case rel => exact ⟨_, (true), (by first | rfl | (simp; done) | (simp [*]; done)), H', ⟨by first | omega | exact Nat.le_refl _⟩, ⟨Cz.b BK154.out⟩, ⟨Cz.b BK155.out⟩, ⟨Cz.w HB.out⟩⟩
  case rest =>
   clear HC4
   try clear c1
   try clear p2
   try clear c3
   try clear c3b0
   try clear c3b1
   try clear c8
   try clear c9
   try clear c9b0
   try clear c9b1
   try clear c10
   try clear c13
   try clear c16
   try clear hcz11_0
   try clear hcz11_1
   try clear hcz11_2
   try clear hcz14_0
   try clear hcz14_1
   try clear hcz14_2
   try clear hcz17_0
   try clear hcz17_1
   try clear hcz17_2
   try clear hfz11_0
   try clear hfz11_1
   try clear hfz11_2
   try clear hfz14_0
   try clear hfz14_1
   try clear hfz14_2
   try clear hfz17_0
   try clear hfz17_1
   try clear hfz17_2
   obtain ⟨kq, x23_3, rfl, HA, HJ3, BK154, BK155, HB⟩ := hcut
   cases kq with
   | zero => exact absurd HA.out (by simp [spec_MatrixPick.j0])
   | succ kj3 =>
    have H := HA.out
    clear HA
    simp only [spec_MatrixPick.j0] at H
    by_cases c19 : x23_3 = true
    ·subst c19
     have H1 : (none) = some (r1, r2, r3, r4) := by rw [if_pos rfl] at H; exact H
     clear H
     have H := H1
     clear H1
     exact absurd H (by simp)
    ·replace c19 := Bool.eq_false_iff.mpr c19
     subst c19
     have H1 : (spec_MatrixPick.l0 kj3 l1 0 a0_0 a0_1 l0_2 (l1.length : Int) a0_1 ([] : List Int)) = some (r1, r2, r3, r4) := by rw [if_neg (show ¬ (false = true) by decide)] at H; exact H
     clear H
     have H := H1
     clear H1
     have H' := Aside0.mk H
     clear H
     have hnb20 := NB154_155.out
     have hnc20 := NB155_154.out
     obtain ⟨hcz21_0, hcz21_1, hcz21_2, hfz21_0, hfz21_1, hfz21_2⟩ := Cy.z3 BK154.out
     go_wp2_with (first | ((with_reducible refine gate_dst (N := 5) rfl ?_); (try (refine gate_guard (by rfl) ?_; dsimp only)); refine box_event ?hg (N := 5) ?hd (cs := #[.int .i64 0, .int .i64 0, .slice none 0 0]) (t := 27) ?hr ?_; (case hd => rfl); (case hg => rfl); (case hr => first | (go_simp; done) | (go_simp; rfl)); intro gb169 hg w22 hbox hb; have n_ := Cy.a10 (blk_below (g := gb154) (o := .cells #[.int .i64 a0_0, .int .i64 a0_1, .slice A0_2 l0_2.length c0_2] 27 (0, 0)) (Cz.b BK154.out) hb) (blk_below (g := gb155) (o := .cells #[.int .i64 0, .int .i64 0, .slice none 0 0, .int .i64 0] 35 (0, 0)) (Cz.b BK155.out) hb) (below_step (Cz.w HB.out) hb) hbox (Cy.gw hg HB.out) (Cy.gw hg HB.out) (by rw [hg]; exact Nat.ne_of_lt (blk_lt (g := gb154) (o := .cells #[.int .i64 a0_0, .int .i64 a0_1, .slice A0_2 l0_2.length c0_2] 27 (0, 0)) (Cz.b BK154.out)) : gb154 ≠ gb169) (by rw [hg]; exact Nat.ne_of_gt (blk_lt (g := gb154) (o := .cells #[.int .i64 a0_0, .int .i64 a0_1, .slice A0_2 l0_2.length c0_2] 27 (0, 0)) (Cz.b BK154.out)) : gb169 ≠ gb154) (by rw [hg]; exact Nat.ne_of_lt (blk_lt (g := gb155) (o := .cells #[.int .i64 0, .int .i64 0, .slice none 0 0, .int .i64 0] 35 (0, 0)) (Cz.b BK155.out)) : gb155 ≠ gb169) (by rw [hg]; exact Nat.ne_of_gt (blk_lt (g := gb155) (o := .cells #[.int .i64 0, .int .i64 0, .slice none 0 0, .int .i64 0] 35 (0, 0)) (Cz.b BK155.out)) : gb169 ≠ gb155); clear BK154 BK155 HB; obtain ⟨BK154, BK155, HB, BK169, GW169, GE169, NB154_169, NB169_154, NB155_169, NB169_155⟩ := n_; clear hb hbox hg; have hnb23 := NB169_154.out; have hnc23 := NB154_169.out; have hnb24 := NB169_155.out; have hnc24 := NB155_169.out; obtain ⟨hcz25_0, hcz25_1, hcz25_2, hfz25_0, hfz25_1, hfz25_2⟩ := Cy.z3 BK169.out))
     go_loopg [6] kj3 (fun kq v6 w' => ∃ (x6_2 : Int) (x156000_2 : Int) (x156001_2 : Int) (x156003_2 : Int) (x170002_2 : List Int) (u170002 : Value), v6 = .int .i64 x6_2 ∧ Aside0 (spec_MatrixPick.l0 kq l1 x6_2 a0_0 a0_1 l0_2 (l1.length : Int) a0_1 x170002_2 = some (r1, r2, r3, r4)) ∧ Aside0 (kq ≤ kj3) ∧ Aside0 (Kd.R (Kd.int .i64) 2 w' w.heap.size (fun _ => True) u170002 x170002_2) ∧ Aside0 (w'.heap[gb154]? = some (.cells #[.int .i64 a0_0, .int .i64 a0_1, (.slice A0_2 l0_2.length c0_2)] 27 (0, 0))) ∧ Aside0 (w'.heap[gb155]? = some (.cells #[.int .i64 x156000_2, .int .i64 x156001_2, (.slice none 0 0), .int .i64 x156003_2] 35 (0, 0))) ∧ Aside0 (w'.heap[gb169]? = some (.cells #[.int .i64 (l1.length : Int), .int .i64 a0_1, u170002] 27 (0, 0))) ∧ Aside0 (Below w.heap.size w w'))
     case atStart => exact ⟨(0), (0), (0), (0), (([] : List Int)), (.slice none 0 0), (by first | rfl | (simp; done) | (simp [*]; done)), H', ⟨Nat.le_refl _⟩, ⟨by first | exact Kd.R_nil _ _ _ _ _ | exact Kd.N_nil _ _ _ _ _ | exact Kd.V_nil _ _ _ _ _ | exact Kd.Q_nil _ _ _ _ _ | exact Kd.S_nil _ _ _ _ _⟩, ⟨Cz.f BK154.out NB154_169.out⟩, ⟨Cz.f BK155.out NB155_169.out⟩, ⟨Cz.p3 BK169.out⟩, ⟨Cz.w HB.out⟩⟩
     case round =>
      clear H'
      try clear c1
      try clear c2
      try clear p2
      try clear c3
      try clear c3b0
      try clear c3b1
      try clear c8
      try clear c9
      try clear c9b0
      try clear c9b1
      try clear c10
      try clear c13
      try clear c16
      try clear c19
      try clear c20
      try clear c23
      try clear c24
      try clear hcz11_0
      try clear hcz11_1
      try clear hcz11_2
      try clear hcz14_0
      try clear hcz14_1
      try clear hcz14_2
      try clear hcz17_0
      try clear hcz17_1
      try clear hcz17_2
      try clear hcz21_0
      try clear hcz21_1
      try clear hcz21_2
      try clear hcz25_0
      try clear hcz25_1
      try clear hcz25_2
      try clear hfz11_0
      try clear hfz11_1
      try clear hfz11_2
      try clear hfz14_0
      try clear hfz14_1
      try clear hfz14_2
      try clear hfz17_0
      try clear hfz17_1
      try clear hfz17_2
      try clear hfz21_0
      try clear hfz21_1
      try clear hfz21_2
      try clear hfz25_0
      try clear hfz25_1
      try clear hfz25_2
      try clear p2
      obtain ⟨x6_2, x156000_2, x156001_2, x156003_2, x170002_2, u170002, rfl, HA, HK2, HO_170002, BK154, BK155, BK169, HB⟩ := hrel
      cases gk with
      | zero => exact absurd HA.out (by simp [spec_MatrixPick.l0])
      | succ k2 =>
       have H := HA.out
       clear HA
       simp only [spec_MatrixPick.l0] at H
       by_cases c26 : x6_2 < (l1.length : Int)
       ·rw [if_pos c26] at H
        have c26b0 : decide (x6_2 < (l1.length : Int)) = true := decide_eq_true c26
        clear c26
        by_cases c27 : 0 ≤ x6_2
        ·rw [if_pos c27] at H
         have c27b0 : decide (0 ≤ x6_2) = true := decide_eq_true c27
         clear c27
         by_cases c28 : (rd l1 x6_2) < 0
         ·rw [if_pos c28] at H
          exact absurd H (by simp)
         ·rw [if_neg c28] at H
          have c28b0 : decide ((rd l1 x6_2) < 0) = false := decide_eq_false c28
          clear c28
          by_cases c29 : (rd l1 x6_2) ≥ a0_0
          ·rw [if_pos c29] at H
           exact absurd H (by simp)
          ·rw [if_neg c29] at H
           have c29b0 : decide (a0_0 ≤ (rd l1 x6_2)) = false := decide_eq_false c29
           clear c29
           obtain ⟨ji30, hji30⟩ : ∃ j_ : Int, (wrap64 ((rd l1 x6_2) * a0_1)) = j_ := ⟨_, rfl⟩
           replace H : (if 0 ≤ (ji30) then (if (ji30) ≤ (wrap64 ((wrap64 ((rd l1 x6_2) + 1)) * a0_1)) then (if (wrap64 ((wrap64 ((rd l1 x6_2) + 1)) * a0_1)) ≤ (l0_2.length : Int) then (if x170002_2.length + ((l0_2.take ((wrap64 ((wrap64 ((rd l1 x6_2) + 1)) * a0_1)) : Int).toNat).drop ((ji30) : Int).toNat).length < 17592186044416 then (spec_MatrixPick.l0 k2 l1 (wrap64 (x6_2 + 1)) a0_0 a0_1 l0_2 (l1.length : Int) a0_1 (x170002_2 ++ ((l0_2.take ((wrap64 ((wrap64 ((rd l1 x6_2) + 1)) * a0_1)) : Int).toNat).drop ((ji30) : Int).toNat))) else (none)) else (none)) else (none)) else (none)) = some (r1, r2, r3, r4) := by first | (rw [hji30] at H; exact H) | (simp only [hji30] at H ⊢; exact H)
           have hji30w : (IntKind.i64.wrap ((rd l1 x6_2) * a0_1)) = ji30 := (i64_w _).trans hji30
           by_cases c31 : 0 ≤ (ji30)
           ·rw [if_pos c31] at H
            have c31b0 := eq_true c31
            have c31b1 : decide (0 ≤ (ji30)) = true := decide_eq_true c31
            clear c31
            by_cases c32 : (ji30) ≤ (wrap64 ((wrap64 ((rd l1 x6_2) + 1)) * a0_1))
            ·rw [if_pos c32] at H
             have c32b0 := eq_true c32
             have c32b1 : decide ((ji30) ≤ (wrap64 ((wrap64 ((rd l1 x6_2) + 1)) * a0_1))) = true := decide_eq_true c32
             by_cases c33 : (wrap64 ((wrap64 ((rd l1 x6_2) + 1)) * a0_1)) ≤ (l0_2.length : Int)
             ·rw [if_pos c33] at H
              have c33b0 := eq_true c33
              have c33b1 : decide ((wrap64 ((wrap64 ((rd l1 x6_2) + 1)) * a0_1)) ≤ (l0_2.length : Int)) = true := decide_eq_true c33
              by_cases c34 : x170002_2.length + ((l0_2.take ((wrap64 ((wrap64 ((rd l1 x6_2) + 1)) * a0_1)) : Int).toNat).drop ((ji30) : Int).toNat).length < 17592186044416
              ·rw [if_pos c34] at H
               have LMc34 := Aside0.mk c34
               clear c34
               obtain ⟨y187, hy187⟩ : ∃ y_ : List Int, y_ = (x170002_2 ++ ((l0_2.take ((wrap64 ((wrap64 ((rd l1 x6_2) + 1)) * a0_1)) : Int).toNat).drop ((ji30) : Int).toNat)) := ⟨_, rfl⟩
               replace H : (spec_MatrixPick.l0 k2 l1 (wrap64 (x6_2 + 1)) a0_0 a0_1 l0_2 (l1.length : Int) a0_1 y187) = some (r1, r2, r3, r4) := by first | (rw [hy187]; with_reducible exact H) | (have H2_ := (Option.bind_some _ _).symm.trans H; rw [hy187]; with_reducible exact H2_) | (have H2_ := (Option.bind_some _ _).symm.trans H; with_reducible exact H2_) | with_reducible exact H | (rw [hy187]; exact H) | exact H
               have Ny187 := Aside0.mk hy187
               clear hy187
               have H' := Aside0.mk H
               clear H
               try go_wp2
               have n_ := Cy.a5 (Kd.R_drew HO_170002.out) (blk_drew BK154.out) (blk_drew BK155.out) (blk_drew BK169.out) (below_drew1 HB.out)
               clear HO_170002 BK154 BK155 BK169 HB
               obtain ⟨HO_170002, BK154, BK155, BK169, HB⟩ := n_
               have p170 : 0 ≤ (x6_2 : Int) := of_decide_eq_true (by first | (with_reducible assumption) | assumption)
               have q170 : x6_2 < (l1.length : Int) := of_decide_eq_true (by first | (with_reducible assumption) | assumption)
               obtain ⟨ad170, e170, hx170_0⟩ := Kd.at_int HR1.out x6_2 p170 q170
               have hw170_0 := hx170_0
               cases e170
               replace hx170_0 := (HB.out.cell (World.block_lt_of_cell? w _ hx170_0)).trans hx170_0
               replace p170 := eq_true p170
               replace q170 := eq_true q170
               have p177 : 0 ≤ (x6_2 : Int) := of_decide_eq_true (by first | (with_reducible assumption) | assumption)
               have q177 : x6_2 < (l1.length : Int) := of_decide_eq_true (by first | (with_reducible assumption) | assumption)
               obtain ⟨ad177, e177, hx177_0⟩ := Kd.at_int HR1.out x6_2 p177 q177
               have hw177_0 := hx177_0
               obtain rfl : ad170 = ad177 := (by injection e177)
               replace hx177_0 := (HB.out.cell (World.block_lt_of_cell? w _ hx177_0)).trans hx177_0
               replace p177 := eq_true p177
               replace q177 := eq_true q177
               refine start_ (n := 14) (S := fun w' => w'.cell? ⟨gb154, 0, none⟩ = some (.int .i64 a0_0) ∧ w'.cell? ⟨gb154, 1, none⟩ = some (.int .i64 a0_1) ∧ w'.cell? ⟨gb154, 2, none⟩ = some (.slice A0_2 l0_2.length c0_2) ∧ w'.cell? (ad170.add (x6_2).toNat) = some (.int .i64 (rd l1 x6_2)) ∧ w'.cell? (ad170.add (x6_2).toNat) = some (.int .i64 (rd l1 x6_2))) (ds := []) #[false, false, false, false, false, false, false, false, false, false, false, false, false, false] (by kernel_rfl) rfl rfl ⟨(blk_cell BK154.out 0).trans rfl, (blk_cell BK154.out 1).trans rfl, (blk_cell BK154.out 2).trans rfl, ((HB.out.cell (World.block_lt_of_cell? w _ hw170_0)).trans hw170_0), ((HB.out.cell (World.block_lt_of_cell? w _ hw177_0)).trans hw177_0)⟩ (fun hHeld => ?_); refine with_tabW spec_MatrixPick.tab9 spec_MatrixPick.bits9 (fun HT_ HW_ => ?_)
               generalize wr.drew = w35 at HO_170002 BK154 BK155 BK169 HB hx170_0 hx177_0 hHeld ⊢
               refine Cy.pu 0 36 HT_ ?_
               refine Cy.pu 1 37 HT_ ?_
               refine Cy.pu 2 38 HT_ ?_
               refine Cy.tk 3 39 HT_ HW_ hHeld ?_
               refine Cy.pu 4 40 HT_ ?_
               refine Cy.pu 5 41 HT_ ?_
               refine Cy.pu 6 42 HT_ ?_
               refine Cy.pu 7 43 HT_ ?_
               refine Cy.pu 8 44 HT_ ?_
               refine Cy.pu 10 46 HT_ ?_
               refine Cy.tk 9 45 HT_ HW_ hHeld ?_
               refine Cy.tk 11 47 HT_ HW_ hHeld ?_
               refine Cy.pu 12 48 HT_ ?_
               refine Cy.pu 13 49 HT_ ?_
               refine done_ (done_of HT_.out (by kernel_rfl)) ?_
               try go_wp2
               have n_ := Cy.a5 (Kd.R_drew HO_170002.out) (blk_drew BK154.out) (blk_drew BK155.out) (blk_drew BK169.out) (below_drew1 HB.out)
               clear HO_170002 BK154 BK155 BK169 HB
               obtain ⟨HO_170002, BK154, BK155, BK169, HB⟩ := n_
               have p184 : 0 ≤ (x6_2 : Int) := of_decide_eq_true (by first | (with_reducible assumption) | assumption)
               have q184 : x6_2 < (l1.length : Int) := of_decide_eq_true (by first | (with_reducible assumption) | assumption)
               obtain ⟨ad184, e184, hx184_0⟩ := Kd.at_int HR1.out x6_2 p184 q184
               have hw184_0 := hx184_0
               obtain rfl : ad170 = ad184 := (by injection e184)
               replace hx184_0 := (HB.out.cell (World.block_lt_of_cell? w _ hx184_0)).trans hx184_0
               replace p184 := eq_true p184
               replace q184 := eq_true q184
               have p185 : 0 ≤ (x6_2 : Int) := of_decide_eq_true (by first | (with_reducible assumption) | assumption)
               have q185 : x6_2 < (l1.length : Int) := of_decide_eq_true (by first | (with_reducible assumption) | assumption)
               obtain ⟨ad185, e185, hx185_0⟩ := Kd.at_int HR1.out x6_2 p185 q185
               have hw185_0 := hx185_0
               obtain rfl : ad170 = ad185 := (by injection e185)
               replace hx185_0 := (HB.out.cell (World.block_lt_of_cell? w _ hx185_0)).trans hx185_0
               replace p185 := eq_true p185
               replace q185 := eq_true q185
               obtain ⟨i037, hi037, _, hsz37, _⟩ := info_parts info2
               obtain ⟨A37, hcut37, hA37, hC37⟩ := print_mid_of (P := Try.prog) (Value.int .i64) 0 22 2 .i64 .i64 Try.underlying22 hi037 hsz37 A0_2 c0_2 l0_2 (ji30) (wrap64 ((wrap64 ((rd l1 x6_2) + 1)) * a0_1)) (of_decide_eq_true (by first | (with_reducible assumption) | assumption)) (by first | omega | exact of_decide_eq_true (by first | (with_reducible assumption) | assumption)) (of_decide_eq_true (by first | (with_reducible assumption) | assumption)) HC0_2.out
               have HR186 := Aside0.mk (Kd.C_of_reads (h1 := fun _ => rfl) (hA37 _ (Kd.reads_of_C HR0_2.out)))
               have HC186 := Aside0.mk hC37
               clear hA37 hC37 hi037 hsz37
               refine start_ (n := 23) (S := fun w' => w'.cell? ⟨gb169, 0, none⟩ = some (.int .i64 (l1.length : Int)) ∧ w'.cell? ⟨gb169, 1, none⟩ = some (.int .i64 a0_1) ∧ w'.cell? ⟨gb169, 2, none⟩ = some (u170002) ∧ w'.cell? ⟨gb154, 0, none⟩ = some (.int .i64 a0_0) ∧ w'.cell? ⟨gb154, 1, none⟩ = some (.int .i64 a0_1) ∧ w'.cell? ⟨gb154, 2, none⟩ = some (.slice A0_2 l0_2.length c0_2) ∧ w'.cell? (ad170.add (x6_2).toNat) = some (.int .i64 (rd l1 x6_2)) ∧ w'.cell? (ad170.add (x6_2).toNat) = some (.int .i64 (rd l1 x6_2))) (ds := [22]) #[false, false, false, false, false, false, false, false, false, false, false, false, false, false, false, false, false, false, false, false, false, false, false] (by kernel_rfl) rfl rfl ⟨(blk_cell BK169.out 0).trans rfl, (blk_cell BK169.out 1).trans rfl, (blk_cell BK169.out 2).trans rfl, (blk_cell BK154.out 0).trans rfl, (blk_cell BK154.out 1).trans rfl, (blk_cell BK154.out 2).trans rfl, ((HB.out.cell (World.block_lt_of_cell? w _ hw184_0)).trans hw184_0), ((HB.out.cell (World.block_lt_of_cell? w _ hw185_0)).trans hw185_0)⟩ (fun hHeld => ?_); refine with_tabW spec_MatrixPick.tab11 spec_MatrixPick.bits11 (fun HT_ HW_ => ?_)
               generalize w35.drew = w36 at HO_170002 BK154 BK155 BK169 HB HR186 hx184_0 hx185_0 hHeld ⊢
               refine Cy.pu 0 51 HT_ ?_
               refine Cy.pu 2 53 HT_ ?_
               refine Cy.pu 4 55 HT_ ?_
               refine Cy.pu 5 56 HT_ ?_
               refine Cy.pu 6 57 HT_ ?_
               refine Cy.pu 8 59 HT_ ?_
               refine Cy.pu 11 62 HT_ ?_
               refine Cy.pu 12 63 HT_ ?_
               refine Cy.pu 13 64 HT_ ?_
               refine Cy.pu 16 67 HT_ ?_
               refine Cy.tk 1 52 HT_ HW_ hHeld ?_
               refine Cy.tk 3 54 HT_ HW_ hHeld ?_
               refine Cy.tk 7 58 HT_ HW_ hHeld ?_
               refine Cy.tk 9 60 HT_ HW_ hHeld ?_
               refine Cy.pu 10 61 HT_ ?_
               refine Cy.tk 14 65 HT_ HW_ hHeld ?_
               refine Cy.pu 15 66 HT_ ?_
               refine Cy.tk 17 68 HT_ HW_ hHeld ?_
               refine Cy.pu 18 69 HT_ ?_
               refine Cy.pu 19 70 HT_ ?_
               refine one_ (i := 20) (N := some 71) #[true, true, true, true, true, true, true, true, true, true, true, true, true, true, true, true, true, true, true, true, true, false, false] rfl rfl (one_of HT_.out (by kernel_rfl)) (by decide) (fun K hK => ?_)
               refine Kd.R_append_rows_step (Kd.int .i64) (w0 := w) w.heap.size (by rfl) (.tmp 52) (.tmp 70) 22 2 (.int .i64 0) 8 rfl Try.underlying22 info2 rfl (by decide) (by omega) u170002 x170002_2 ((l0_2.take ((wrap64 ((wrap64 ((rd l1 x6_2) + 1)) * a0_1)) : Int).toNat).drop ((ji30) : Int).toNat) _ _ _ (fun _ => True) (fun _ => False) rfl rfl ?aO ?aR (fun _ _ h => h) (fun _ h => h.elim) ?aF ?aB ?aS ?aL ?_
               (case aR => first | (rw [← show ((l0_2.take ((wrap64 ((wrap64 ((rd l1 x6_2) + 1)) * a0_1)) : Int).toNat).drop ((ji30) : Int).toNat).length = ((wrap64 ((wrap64 ((rd l1 x6_2) + 1)) * a0_1)).toNat - (ji30).toNat) from (by rw [List.length_drop, List.length_take]; have h_ : ((wrap64 ((wrap64 ((rd l1 x6_2) + 1)) * a0_1)) : Int) ≤ (l0_2.length : Int) := of_decide_eq_true (by first | (with_reducible assumption) | assumption); omega)]; exact Cz.c HR186.out HB.out) | (exact Cz.c HR186.out HB.out))
               (case aB => exact (Cz.w HB.out))
               (case aF => exact (fun _ _ => trivial))
               (case aO => exact (Cz.r HO_170002.out))
               (case aS => exact (below_size (Cz.w HB.out)))
               (case aL => have := LMc34.out; have hlx_ := (show ((l0_2.take ((wrap64 ((wrap64 ((rd l1 x6_2) + 1)) * a0_1)) : Int).toNat).drop ((ji30) : Int).toNat).length = ((wrap64 ((wrap64 ((rd l1 x6_2) + 1)) * a0_1)).toNat - (ji30).toNat) from (by rw [List.length_drop, List.length_take]; have h_ : ((wrap64 ((wrap64 ((rd l1 x6_2) + 1)) * a0_1)) : Int) ≤ (l0_2.length : Int) := of_decide_eq_true (by first | (with_reducible assumption) | assumption); omega)); omega)
               intro v188 w38 ho hb hg hat
               rw [← Ny187.out] at ho
               have n_ := Cy.a5 (blk_grown (g := gb154) (o := .cells #[.int .i64 a0_0, .int .i64 a0_1, .slice A0_2 l0_2.length c0_2] 27 (0, 0)) (Cz.b BK154.out) hg (Kd.R_ne HO_170002.out BK154.out (by decide))) (blk_grown (g := gb155) (o := .cells #[.int .i64 x156000_2, .int .i64 x156001_2, .slice none 0 0, .int .i64 x156003_2] 35 (0, 0)) (Cz.b BK155.out) hg (Kd.R_ne HO_170002.out BK155.out (by decide))) (blk_grown (g := gb169) (o := .cells #[.int .i64 (l1.length : Int), .int .i64 a0_1, u170002] 27 (0, 0)) (Cz.b BK169.out) hg (Kd.R_ne HO_170002.out BK169.out (by decide))) hb ho
               clear BK154 BK155 BK169 HB HO_170002
               obtain ⟨BK154, BK155, BK169, HB, HO189⟩ := n_
               clear ho hb hg hat
               obtain ⟨Ao39, co39, eo39⟩ := Kd.R_slice HO189.out
               (first | subst eo39 | (injection eo39 with f1_ f2_ f3_; have f4_ := f1_.symm; have f5_ := f3_.symm; clear f1_ f2_ f3_; subst f4_; subst f5_))
               refine hK.out _ _ ⟨(blk_cell BK169.out 0).trans rfl, (blk_cell BK169.out 1).trans rfl, (blk_cell BK169.out 2).trans rfl, (blk_cell BK154.out 0).trans rfl, (blk_cell BK154.out 1).trans rfl, (blk_cell BK154.out 2).trans rfl, ((HB.out.cell (World.block_lt_of_cell? w _ hw184_0)).trans hw184_0), ((HB.out.cell (World.block_lt_of_cell? w _ hw185_0)).trans hw185_0)⟩ (fun hHeld => ?_)
               clear hK K
               refine norm_ (a' := ?_) ?_ ?_
               rotate_left
               ·show Act.put _ (some 71) _ = _
                simp only [Act.put, List.setIfInBounds_toArray, List.set_cons_zero, List.set_cons_succ, i64_w, i32_w]
                rfl
               refine Cy.pu 21 72 HT_ ?_
               refine last_ (i := 22) (N := none) #[true, true, true, true, true, true, true, true, true, true, true, true, true, true, true, true, true, true, true, true, true, true, true] rfl rfl (one_of HT_.out (by kernel_rfl)) (by decide) (fun K hK => ?_)
               have hs40 : w38.cell? ⟨gb169, 2, none⟩ = some (u170002) := (blk_cell BK169.out 2).trans rfl
               have hfs40 := blk_frozen BK169.out 2
               have hns40_0 := NB154_169.out
               have hns40_1 := NB155_169.out
               have hms40_0 := NB169_154.out
               have hms40_1 := NB169_155.out
               refine skip_ (w1 := ?_) (by rfl) rfl ?_ ?_
               rotate_left
               ·go_simp
                rfl
               refine hK.out _ _ ?_
               clear hK K
               refine done_ (done_of HT_.out (by kernel_rfl)) ?_
               try go_wp2
               go_roundg k2
               case measure => have := HJ3.out; have := HK2.out; omega
               case rel => exact ⟨(wrap64 (x6_2 + 1)), (x156000_2), (x156001_2), (x156003_2), (y187), (.slice Ao39 y187.length co39), (by first | rfl | (simp; done) | (simp [*]; done)), H', ⟨by have := HJ3.out; have := HK2.out; omega⟩, ⟨by (with_reducible repeat (first | apply Kd.R_alloc | apply Kd.R_drewN | apply Kd.R_drew)); exact Kd.R_mono (Kd.R_far (p := ⟨gb169, 2, none⟩) (Kd.R_types HO189.out BK169.out (by decide)) (fun _ hk => hk.2) (.slice Ao39 y187.length co39)) (fun _ hk => trivial)⟩, ⟨Cz.f BK154.out NB154_169.out⟩, ⟨Cz.f BK155.out NB155_169.out⟩, ⟨by (with_reducible repeat (first | refine blk_drewN ?_ _ | refine blk_drew ?_ | refine blk_alloc ?_ _)); refine blk_put (cs := #[.int .i64 (l1.length : Int), .int .i64 a0_1, u170002]) ?_ 2 _ rfl; (with_reducible repeat (first | refine blk_drewN ?_ _ | refine blk_drew ?_ | refine blk_alloc ?_ _)); exact BK169.out⟩, ⟨Cz.w HB.out⟩⟩
              ·rw [if_neg c34] at H
               exact absurd H (by simp)
             ·rw [if_neg c33] at H
              exact absurd H (by simp)
            ·rw [if_neg c32] at H
             exact absurd H (by simp)
           ·rw [if_neg c31] at H
            exact absurd H (by simp)
        ·rw [if_neg c27] at H
         exact absurd H (by simp)
       ·rw [if_neg c26] at H
        have c26b0 : decide (x6_2 < (l1.length : Int)) = false := decide_eq_false c26
        clear c26
        simp only [Option.some.injEq, Prod.mk.injEq] at H
        obtain ⟨rfl, rfl, rfl, rfl⟩ := H
        have hnb41 := NB169_154.out
        have hnc41 := NB154_169.out
        have hnb42 := NB169_155.out
        have hnc42 := NB155_169.out
        obtain ⟨hcz43_0, hcz43_1, hcz43_2, hfz43_0, hfz43_1, hfz43_2⟩ := Cy.z3 BK169.out
        obtain ⟨Ao44, co44, eo44⟩ := Kd.R_slice HO_170002.out
        subst eo44
        have hnb45 := NB155_154.out
        have hnc45 := NB154_155.out
        obtain ⟨hcz46_0, hcz46_1, hcz46_2, hcz46_3, hfz46_0, hfz46_1, hfz46_2, hfz46_3⟩ := Cy.z4 BK155.out
        go_wp2
        refine bodyPost_ret (results_cell_row rfl _ _ gb155 35 #[.int .i64 (l1.length : Int), .int .i64 a0_1, .slice Ao44 x170002_2.length co44, .int .i64 0] (0, 0) _ rfl (Cz.p4 BK155.out) Try.underlying35 rfl (by kernel_rfl)) rfl ?_
        exact ⟨_, by first | rfl | (simp [errW_none, errW_some] <;> rfl) | (simp [*, errW_none, errW_some] <;> rfl), by (with_reducible repeat (first | apply Kd.R_alloc | apply Kd.R_drewN | apply Kd.R_drew)); exact Kd.R_mono (Kd.R_far (p := ⟨gb155, 3, none⟩) (Kd.R_far (p := ⟨gb155, 2, none⟩) (Kd.R_far (p := ⟨gb155, 1, none⟩) (Kd.R_far (p := ⟨gb155, 0, none⟩) (Kd.R_types HO_170002.out BK155.out (by decide)) (fun _ hk => hk.2) (.int .i64 (l1.length : Int))) (fun _ hk => hk.2) (.int .i64 a0_1)) (fun _ hk => hk.2) (.slice Ao44 x170002_2.length co44)) (fun _ hk => hk.2) (.int .i64 0)) (fun _ hk => trivial), Cz.w HB.out⟩
end Go.Proofs.Ytlololbhlnapkaa.XFnExactDecode

/- Plain functions of what the law reaches, proofs that the calls come to them, and the law's row: written by a program of this session (xprint.py) over the kit's print. No conditions beyond each lemma's own. -/
import Derived.Test.YtlololbhlnapkaaKyCy
import Derived.Test.YtlololbhlnapkaaKyXFnExactDecodex0
import Derived.Test.YtlololbhlnapkaaKyXFnExactDecodex2
import Derived.Test.YtlololbhlnapkaaKyXFnExactDecodex5
namespace Go.Proofs.Ytlololbhlnapkaa.XFnExactDecode
open Go.RowKit Go.Proofs.YtlololbhlnapkaaW.PrintWords Go.Proofs.YtlololbhlnapkaaW.PrintLast Go.Proofs.YtlololbhlnapkaaW.PrintMore
attribute [local go_sem] max2_int min2_int max_two min_two max_three min_three max_four min_four   -- for this text's walks alone
set_option linter.unusedVariables false
set_option linter.unusedSimpArgs false
mutual
def spec_l03Steps.l0 : Nat → Int → Int → Int → Int → List Int → Int → Int → List Int → Option (Int × List Int × List Int)
  | 0, _, _, _, _, _, _, _, _ => none
  | k + 1, x5, x6, x201000, x201001, x201002, x202000, x202001, x202002 => if x6 < x201001 then (spec_l03Steps.j1 k x5 x6 (decide (x5 < x201000)) x201000 x201001 x201002 x202000 x202001 x202002) else (spec_l03Steps.j1 k x5 x6 false x201000 x201001 x201002 x202000 x202001 x202002)
def spec_l03Steps.j1 : Nat → Int → Int → Bool → Int → Int → List Int → Int → Int → List Int → Option (Int × List Int × List Int)
  | 0, _, _, _, _, _, _, _, _, _ => none
  | k + 1, x5, x6, x20, x201000, x201001, x201002, x202000, x202001, x202002 => if x20 = true then (spec_l03Steps.l1 k x5 x6 x5 x201000 x201001 x201002 x202000 x202001 x202002) else (some (x5, x201002, x202002))
def spec_l03Steps.j3 : Nat → Int → Int → Int → Int → Int → List Int → Int → Int → List Int → Option (Int × List Int × List Int)
  | 0, _, _, _, _, _, _, _, _, _ => none
  | k + 1, x5, x6, x7, x201000, x201001, x201002, x202000, x202001, x202002 => if x7 = x201000 then (spec_l03Steps.l0 k x5 (wrap64 (x6 + 1)) x201000 x201001 x201002 x202000 x202001 x202002) else ((spec_l03Swap.f k x201000 x201001 x201002 x7 x5).bind fun t203 => ((spec_l03Swap.f k x202000 x202001 x202002 x7 x5).bind fun t204 => (if 0 ≤ (wrap64 ((wrap64 (x5 * x201001)) + x6)) then (if (wrap64 ((wrap64 (x5 * x201001)) + x6)) < (x201002.length : Int) then ((spec_FieldInv.f k (rd t203 (wrap64 ((wrap64 (x5 * x201001)) + x6)))).bind fun t206 => ((spec_l03Add.f k x201000 x201001 t203 x5 x5 (Go.bits .xor .i64 t206 1)).bind fun t207 => ((spec_l03Add.f k x202000 x202001 t204 x5 x5 (Go.bits .xor .i64 t206 1)).bind fun t208 => (spec_l03Steps.l2 k x5 x6 0 x201000 x201001 t207 x202000 x202001 t208)))) else (none)) else (none))))
def spec_l03Steps.l2 : Nat → Int → Int → Int → Int → Int → List Int → Int → Int → List Int → Option (Int × List Int × List Int)
  | 0, _, _, _, _, _, _, _, _, _ => none
  | k + 1, x5, x6, x9, x201000, x201001, x201002, x202000, x202001, x202002 => if x9 < x201000 then (if x9 = x5 then (spec_l03Steps.l2 k x5 x6 (wrap64 (x9 + 1)) x201000 x201001 x201002 x202000 x202001 x202002) else (if 0 ≤ (wrap64 ((wrap64 (x9 * x201001)) + x6)) then (if (wrap64 ((wrap64 (x9 * x201001)) + x6)) < (x201002.length : Int) then ((spec_l03Add.f k x201000 x201001 x201002 x9 x5 (rd x201002 (wrap64 ((wrap64 (x9 * x201001)) + x6)))).bind fun t210 => ((spec_l03Add.f k x202000 x202001 x202002 x9 x5 (rd x201002 (wrap64 ((wrap64 (x9 * x201001)) + x6)))).bind fun t211 => (spec_l03Steps.l2 k x5 x6 (wrap64 (x9 + 1)) x201000 x201001 t210 x202000 x202001 t211))) else (none)) else (none))) else (spec_l03Steps.l0 k (wrap64 (x5 + 1)) (wrap64 (x6 + 1)) x201000 x201001 x201002 x202000 x202001 x202002)
def spec_l03Steps.l1 : Nat → Int → Int → Int → Int → Int → List Int → Int → Int → List Int → Option (Int × List Int × List Int)
  | 0, _, _, _, _, _, _, _, _, _ => none
  | k + 1, x5, x6, x7, x201000, x201001, x201002, x202000, x202001, x202002 => if x7 < x201000 then (if 0 ≤ (wrap64 ((wrap64 (x7 * x201001)) + x6)) then (if (wrap64 ((wrap64 (x7 * x201001)) + x6)) < (x201002.length : Int) then (if (rd x201002 (wrap64 ((wrap64 (x7 * x201001)) + x6))) = 0 then (spec_l03Steps.l1 k x5 x6 (wrap64 (x7 + 1)) x201000 x201001 x201002 x202000 x202001 x202002) else (spec_l03Steps.j3 k x5 x6 x7 x201000 x201001 x201002 x202000 x202001 x202002)) else (none)) else (none)) else (spec_l03Steps.j3 k x5 x6 x7 x201000 x201001 x201002 x202000 x202001 x202002)
end
def spec_l03Steps.f (k : Nat) (a0_0 : Int) (a0_1 : Int) (l0_2 : List Int) (a1_0 : Int) (a1_1 : Int) (l1_2 : List Int) : Option (Int × List Int × List Int) := spec_l03Steps.l0 k 0 0 a0_0 a0_1 l0_2 a1_0 a1_1 l1_2
set_option maxHeartbeats 8000000 in
set_option maxRecDepth 100000 in
theorem spec_l03Steps.calls (k : Nat) (a0_0 : Int) (a0_1 : Int) (P0_2_ : Nat → Prop) (u9000_ : Value) (l0_2 : List Int) (a1_0 : Int) (a1_1 : Int) (P1_2_ : Nat → Prop) (u9001_ : Value) (l1_2 : List Int) (r1 : Int) (r2 : List Int) (r3 : List Int) (w0 w : World) (hB : Below w0.heap.size w0 w) (ho0_2 : Kd.R (Kd.int .i64) 2 w w0.heap.size P0_2_ u9000_ l0_2) (hp0_2_1_2 : ∀ k_, P0_2_ k_ → ¬ P1_2_ k_) (ho1_2 : Kd.R (Kd.int .i64) 2 w w0.heap.size P1_2_ u9001_ l1_2) (hp1_2_0_2 : ∀ k_, P1_2_ k_ → ¬ P0_2_ k_) (h : spec_l03Steps.f k a0_0 a0_1 l0_2 a1_0 a1_1 l1_2 = some (r1, r2, r3)) :
  Calls Try.prog 97 #[.agg #[.int .i64 a0_0, .int .i64 a0_1, u9000_], .agg #[.int .i64 a1_0, .int .i64 a1_1, u9001_]] w fun e w' => e = .returned (.int .i64 r1) ∧ Kd.R (Kd.int .i64) 2 w' w0.heap.size (fun k_ => ((P0_2_ k_ ∨ P1_2_ k_) ∨ w.heap.size ≤ k_)) u9000_ r2 ∧ Kd.R (Kd.int .i64) 2 w' w0.heap.size (fun k_ => ((P0_2_ k_ ∨ P1_2_ k_) ∨ w.heap.size ≤ k_)) u9001_ r3 ∧ Below w0.heap.size w0 w' ∧ Kept w w' (fun k_ => P0_2_ k_ ∨ P1_2_ k_) := by
 have hu27 := Try.underlying27
 have HO0_2 := Aside0.mk (show Kd.R (Kd.int .i64) 2 w w0.heap.size (fun k_ => ((P0_2_ k_ ∨ P1_2_ k_) ∨ w.heap.size ≤ k_) ∧ some k_ ≠ (u9001_ : Value).ownBlock) u9000_ l0_2 from Kd.R_mono ho0_2 (fun k_ hk => ⟨(.inl (.inl hk)), fun e_ => hp0_2_1_2 k_ hk (ho1_2.1 k_ e_.symm)⟩))
 have HO1_2 := Aside0.mk (show Kd.R (Kd.int .i64) 2 w w0.heap.size (fun k_ => ((P0_2_ k_ ∨ P1_2_ k_) ∨ w.heap.size ≤ k_) ∧ some k_ ≠ (u9000_ : Value).ownBlock) u9001_ l1_2 from Kd.R_mono ho1_2 (fun k_ hk => ⟨(.inl (.inr hk)), fun e_ => hp1_2_0_2 k_ hk (ho0_2.1 k_ e_.symm)⟩))
 have HK := Aside0.mk (Kept.refl w (fun k_ => P0_2_ k_ ∨ P1_2_ k_))
 have HW0 := Aside0.mk hB.size
 have HB := Aside0.mk hB
 clear hB
 have H : (spec_l03Steps.l0 k 0 0 a0_0 a0_1 l0_2 a1_0 a1_1 l1_2) = some (r1, r2, r3) := h
 clear h
 have H' := Aside0.mk H
 clear H
 obtain ⟨Ao3, co3, eo3⟩ := Kd.R_slice HO0_2.out
 subst eo3
 go_enter Try.func97, Try.ntmps97
 go_wp2_with (first | ((with_reducible refine gate_dst (N := 2) rfl ?_); refine box_event ?hg (N := 2) ?hd (cs := #[.int .i64 a0_0, .int .i64 a0_1, .slice Ao3 l0_2.length co3]) (t := 27) ?hr ?_; (case hd => rfl); (case hg => rfl); (case hr => first | (go_simp; done) | (go_simp; rfl)); intro gb200 hg w4 hbox hb; have n_ := Cy.a7 (Kd.R_below (Cz.r HO0_2.out) hb) (Kd.R_below (Cz.r HO1_2.out) hb) (Kept.below (S := (fun k_ => P0_2_ k_ ∨ P1_2_ k_)) (by repeat (first | (with_reducible first | exact HK.out | apply Kept.alloc | apply Kept.drewN | apply Kept.drew) | exact HK.out)) hb) (below_step (Cz.w HB.out) hb) hbox (by rw [hg]; exact (by first | exact HK.out.1 | exact (show Kept w _ (fun k_ => P0_2_ k_ ∨ P1_2_ k_) from by repeat (first | (with_reducible first | exact HK.out | apply Kept.alloc | apply Kept.drewN | apply Kept.drew) | exact HK.out)).1) : w.heap.size ≤ gb200) (by rw [hg]; exact (below_size (Cz.w HB.out)) : w0.heap.size ≤ gb200); clear HO0_2 HO1_2 HK HB; obtain ⟨HO0_2, HO1_2, HK, HB, BK200, GW200, GE200⟩ := n_; clear hb hbox hg; obtain ⟨Ao5, co5, eo5⟩ := Kd.R_slice HO1_2.out; subst eo5) | ((with_reducible refine gate_dst (N := 3) rfl ?_); refine box_event ?hg (N := 3) ?hd (cs := #[.int .i64 a1_0, .int .i64 a1_1, .slice Ao5 l1_2.length co5]) (t := 27) ?hr ?_; (case hd => rfl); (case hg => rfl); (case hr => first | (go_simp; done) | (go_simp; rfl)); intro gb201 hg w6 hbox hb; have n_ := Cy.a10 (Kd.R_below (Cz.r HO0_2.out) hb) (Kd.R_below (Cz.r HO1_2.out) hb) (blk_below (g := gb200) (o := .cells #[.int .i64 a0_0, .int .i64 a0_1, .slice Ao3 l0_2.length co3] 27 (0, 0)) (Cz.b BK200.out) hb) (Kept.below (S := (fun k_ => P0_2_ k_ ∨ P1_2_ k_)) (by repeat (first | (with_reducible first | exact HK.out | apply Kept.alloc | apply Kept.drewN | apply Kept.drew | refine Kept.setCell ?_ (.inr GW200.out) _) | exact HK.out)) hb) (below_step (Cz.w HB.out) hb) hbox (by rw [hg]; exact (by first | exact HK.out.1 | exact (show Kept w _ (fun k_ => P0_2_ k_ ∨ P1_2_ k_) from by repeat (first | (with_reducible first | exact HK.out | apply Kept.alloc | apply Kept.drewN | apply Kept.drew | refine Kept.setCell ?_ (.inr GW200.out) _) | exact HK.out)).1) : w.heap.size ≤ gb201) (by rw [hg]; exact (below_size (Cz.w HB.out)) : w0.heap.size ≤ gb201) (by rw [hg]; exact Nat.ne_of_lt (blk_lt (g := gb200) (o := .cells #[.int .i64 a0_0, .int .i64 a0_1, .slice Ao3 l0_2.length co3] 27 (0, 0)) (Cz.b BK200.out)) : gb200 ≠ gb201) (by rw [hg]; exact Nat.ne_of_gt (blk_lt (g := gb200) (o := .cells #[.int .i64 a0_0, .int .i64 a0_1, .slice Ao3 l0_2.length co3] 27 (0, 0)) (Cz.b BK200.out)) : gb201 ≠ gb200); clear HO0_2 HO1_2 BK200 HK HB; obtain ⟨HO0_2, HO1_2, BK200, HK, HB, BK201, GW201, GE201, NB200_201, NB201_200⟩ := n_; clear hb hbox hg))
 go_loopg [5, 6] k (fun kq v5 v6 w' => ∃ (x5_1 : Int) (x6_1 : Int) (x201002_1 : List Int) (x202002_1 : List Int), v5 = .int .i64 x5_1 ∧ v6 = .int .i64 x6_1 ∧ Aside0 (spec_l03Steps.l0 kq x5_1 x6_1 a0_0 a0_1 x201002_1 a1_0 a1_1 x202002_1 = some (r1, r2, r3)) ∧ Aside0 (kq ≤ k) ∧ Aside0 (Kd.R (Kd.int .i64) 2 w' w0.heap.size (fun k_ => ((P0_2_ k_ ∨ P1_2_ k_) ∨ w.heap.size ≤ k_) ∧ some k_ ≠ ((.slice Ao5 l1_2.length co5) : Value).ownBlock) (.slice Ao3 l0_2.length co3) x201002_1) ∧ Aside0 (Kd.R (Kd.int .i64) 2 w' w0.heap.size (fun k_ => ((P0_2_ k_ ∨ P1_2_ k_) ∨ w.heap.size ≤ k_) ∧ some k_ ≠ ((.slice Ao3 l0_2.length co3) : Value).ownBlock) (.slice Ao5 l1_2.length co5) x202002_1) ∧ Aside0 (w'.heap[gb200]? = some (.cells #[.int .i64 a0_0, .int .i64 a0_1, (.slice Ao3 l0_2.length co3)] 27 (0, 0))) ∧ Aside0 (w'.heap[gb201]? = some (.cells #[.int .i64 a1_0, .int .i64 a1_1, (.slice Ao5 l1_2.length co5)] 27 (0, 0))) ∧ Aside0 (Kept w w' (fun k_ => P0_2_ k_ ∨ P1_2_ k_)) ∧ Aside0 (Below w0.heap.size w0 w'))
 case atStart => exact ⟨(0), (0), (l0_2), (l1_2), (by first | rfl | (simp; done) | (simp [*]; done)), (by first | rfl | (simp; done) | (simp [*]; done)), H', ⟨Nat.le_refl _⟩, ⟨Cz.r HO0_2.out⟩, ⟨Cz.r HO1_2.out⟩, ⟨Cz.b BK200.out⟩, ⟨Cz.b BK201.out⟩, ⟨by repeat (first | (with_reducible first | exact HK.out | apply Kept.alloc | apply Kept.drewN | apply Kept.drew | refine Kept.setCell ?_ (.inr GW200.out) _ | refine Kept.setCell ?_ (.inr GW201.out) _) | exact HK.out)⟩, ⟨Cz.w HB.out⟩⟩
 case round =>
  clear H'
  try clear p1
  try clear p2
  obtain ⟨x5_1, x6_1, x201002_1, x202002_1, rfl, rfl, HA, HK1, HO_201002, HO_202002, BK200, BK201, HK, HB⟩ := hrel
  have hl201002_1 := (Kd.R_reads' HO_201002.out).1
  rw [hl201002_1] at HO_201002
  (try simp only [hl201002_1])
  (try simp only [hl201002_1] at BK200)
  (try simp only [hl201002_1] at BK201)
  (try simp only [hl201002_1] at HO_202002)
  have hl202002_1 := (Kd.R_reads' HO_202002.out).1
  rw [hl202002_1] at HO_202002
  (try simp only [hl202002_1])
  (try simp only [hl202002_1] at BK200)
  (try simp only [hl202002_1] at BK201)
  (try simp only [hl202002_1] at HO_201002)
  cases gk with
  | zero => exact absurd HA.out (by simp [spec_l03Steps.l0])
  | succ k1 =>
   have H := HA.out
   clear HA
   simp only [spec_l03Steps.l0] at H
   have HC7 := Aside0.mk H
   clear H
   go_upto_region 3 with (fail)
   go_cut [20] (fun v20 wc => ∃ (kq : Nat) (x20_6 : Bool), v20 = .bool x20_6 ∧ Aside0 (spec_l03Steps.j1 kq x5_1 x6_1 x20_6 a0_0 a0_1 x201002_1 a1_0 a1_1 x202002_1 = some (r1, r2, r3)) ∧ Aside0 (kq ≤ k1) ∧ Aside0 (Kd.R (Kd.int .i64) 2 wc w0.heap.size (fun k_ => ((P0_2_ k_ ∨ P1_2_ k_) ∨ w.heap.size ≤ k_) ∧ some k_ ≠ ((.slice Ao5 x202002_1.length co5) : Value).ownBlock) (.slice Ao3 x201002_1.length co3) x201002_1) ∧ Aside0 (Kd.R (Kd.int .i64) 2 wc w0.heap.size (fun k_ => ((P0_2_ k_ ∨ P1_2_ k_) ∨ w.heap.size ≤ k_) ∧ some k_ ≠ ((.slice Ao3 x201002_1.length co3) : Value).ownBlock) (.slice Ao5 x202002_1.length co5) x202002_1) ∧ Aside0 (wc.heap[gb200]? = some (.cells #[.int .i64 a0_0, .int .i64 a0_1, (.slice Ao3 x201002_1.length co3)] 27 (0, 0))) ∧ Aside0 (wc.heap[gb201]? = some (.cells #[.int .i64 a1_0, .int .i64 a1_1, (.slice Ao5 x202002_1.length co5)] 27 (0, 0))) ∧ Aside0 (Kept w wc (fun k_ => P0_2_ k_ ∨ P1_2_ k_)) ∧ Aside0 (Below w0.heap.size w0 wc))
   case first =>
    have H := HC7.out
    clear HC7
    by_cases c8 : x6_1 < a0_1
    ·rw [if_pos c8] at H
     have c8b0 : decide (x6_1 < a0_1) = true := decide_eq_true c8
     clear c8
     (first | rw [c8b0] | (simp only [i64_w, i32_w]; rw [c8b0]) | skip)
     have H' := Aside0.mk H
     clear H
     have hnb9 := NB200_201.out
     have hnc9 := NB201_200.out
     obtain ⟨hcz10_0, hcz10_1, hcz10_2, hfz10_0, hfz10_1, hfz10_2⟩ := Cy.z3 BK200.out
     go_wp2
     go_meet
     case rel => exact ⟨_, (decide (x5_1 < a0_0)), (by first | rfl | (simp; done) | (simp [*]; done)), H', ⟨by have := HK1.out; first | omega | exact Nat.le_refl _⟩, ⟨by (try simp only [hl201002_1]); (try simp only [hl202002_1]); (with_reducible repeat (first | apply Kd.R_alloc | apply Kd.R_drewN | apply Kd.R_drew)); exact HO_201002.out⟩, ⟨by (try simp only [hl201002_1]); (try simp only [hl202002_1]); (with_reducible repeat (first | apply Kd.R_alloc | apply Kd.R_drewN | apply Kd.R_drew)); exact HO_202002.out⟩, ⟨by (try simp only [hl201002_1]); (try simp only [hl202002_1]); (with_reducible repeat (first | refine blk_drewN ?_ _ | refine blk_drew ?_ | refine blk_alloc ?_ _)); exact BK200.out⟩, ⟨by (try simp only [hl201002_1]); (try simp only [hl202002_1]); (with_reducible repeat (first | refine blk_drewN ?_ _ | refine blk_drew ?_ | refine blk_alloc ?_ _)); exact BK201.out⟩, ⟨by repeat (first | (with_reducible first | exact HK.out | apply Kept.alloc | apply Kept.drewN | apply Kept.drew | refine Kept.setCell ?_ (.inr GW200.out) _ | refine Kept.setCell ?_ (.inr GW201.out) _) | exact HK.out)⟩, ⟨Cz.w HB.out⟩⟩
    ·rw [if_neg c8] at H
     have c8b0 : decide (x6_1 < a0_1) = false := decide_eq_false c8
     clear c8
     (first | rw [c8b0] | (simp only [i64_w, i32_w]; rw [c8b0]) | skip)
     have H' := Aside0.mk H
     clear H
     have hnb11 := NB200_201.out
     have hnc11 := NB201_200.out
     obtain ⟨hcz12_0, hcz12_1, hcz12_2, hfz12_0, hfz12_1, hfz12_2⟩ := Cy.z3 BK200.out
     go_wp2
     go_meet
     case rel => exact ⟨_, (false), (by first | rfl | (simp; done) | (simp [*]; done)), H', ⟨by have := HK1.out; first | omega | exact Nat.le_refl _⟩, ⟨by (try simp only [hl201002_1]); (try simp only [hl202002_1]); (with_reducible repeat (first | apply Kd.R_alloc | apply Kd.R_drewN | apply Kd.R_drew)); exact HO_201002.out⟩, ⟨by (try simp only [hl201002_1]); (try simp only [hl202002_1]); (with_reducible repeat (first | apply Kd.R_alloc | apply Kd.R_drewN | apply Kd.R_drew)); exact HO_202002.out⟩, ⟨by (try simp only [hl201002_1]); (try simp only [hl202002_1]); (with_reducible repeat (first | refine blk_drewN ?_ _ | refine blk_drew ?_ | refine blk_alloc ?_ _)); exact BK200.out⟩, ⟨by (try simp only [hl201002_1]); (try simp only [hl202002_1]); (with_reducible repeat (first | refine blk_drewN ?_ _ | refine blk_drew ?_ | refine blk_alloc ?_ _)); exact BK201.out⟩, ⟨by repeat (first | (with_reducible first | exact HK.out | apply Kept.alloc | apply Kept.drewN | apply Kept.drew | refine Kept.setCell ?_ (.inr GW200.out) _ | refine Kept.setCell ?_ (.inr GW201.out) _) | exact HK.out)⟩, ⟨Cz.w HB.out⟩⟩
   case rest =>
    clear HC7
    try clear c1
    try clear p1
    try clear p2
    try clear c8
    try clear c8b0
    try clear c9
    try clear c11
    try clear hcz10_0
    try clear hcz10_1
    try clear hcz10_2
    try clear hcz12_0
    try clear hcz12_1
    try clear hcz12_2
    try clear hfz10_0
    try clear hfz10_1
    try clear hfz10_2
    try clear hfz12_0
    try clear hfz12_1
    try clear hfz12_2
    try clear p1
    try clear p2
    obtain ⟨kq, x20_6, rfl, HA, HJ6, HO_201002, HO_202002, BK200, BK201, HK, HB⟩ := hcut
    cases kq with
    | zero => exact absurd HA.out (by simp [spec_l03Steps.j1])
    | succ kj6 =>
     have H := HA.out
     clear HA
     simp only [spec_l03Steps.j1] at H
     by_cases c13 : x20_6 = true
     ·subst c13
      have H1 : (spec_l03Steps.l1 kj6 x5_1 x6_1 x5_1 a0_0 a0_1 x201002_1 a1_0 a1_1 x202002_1) = some (r1, r2, r3) := by rw [if_pos rfl] at H; exact H
      clear H
      have H := H1
      clear H1
      have HC14 := Aside0.mk H
      clear H
      go_upto_block 2 with (fail)
      go_cut [7] (fun v7 wc => ∃ (kq : Nat) (x7_13 : Int), v7 = .int .i64 x7_13 ∧ Aside0 (spec_l03Steps.j3 kq x5_1 x6_1 x7_13 a0_0 a0_1 x201002_1 a1_0 a1_1 x202002_1 = some (r1, r2, r3)) ∧ Aside0 (kq ≤ kj6) ∧ Aside0 (Kd.R (Kd.int .i64) 2 wc w0.heap.size (fun k_ => ((P0_2_ k_ ∨ P1_2_ k_) ∨ w.heap.size ≤ k_) ∧ some k_ ≠ ((.slice Ao5 x202002_1.length co5) : Value).ownBlock) (.slice Ao3 x201002_1.length co3) x201002_1) ∧ Aside0 (Kd.R (Kd.int .i64) 2 wc w0.heap.size (fun k_ => ((P0_2_ k_ ∨ P1_2_ k_) ∨ w.heap.size ≤ k_) ∧ some k_ ≠ ((.slice Ao3 x201002_1.length co3) : Value).ownBlock) (.slice Ao5 x202002_1.length co5) x202002_1) ∧ Aside0 (wc.heap[gb200]? = some (.cells #[.int .i64 a0_0, .int .i64 a0_1, (.slice Ao3 x201002_1.length co3)] 27 (0, 0))) ∧ Aside0 (wc.heap[gb201]? = some (.cells #[.int .i64 a1_0, .int .i64 a1_1, (.slice Ao5 x202002_1.length co5)] 27 (0, 0))) ∧ Aside0 (Kept w wc (fun k_ => P0_2_ k_ ∨ P1_2_ k_)) ∧ Aside0 (Below w0.heap.size w0 wc))
      case first =>
       have H := HC14.out
       clear HC14
       have H' := Aside0.mk H
       clear H
       go_wp2
       go_loopg [7] kj6 (fun kq v7 w' => ∃ (x7_3 : Int), v7 = .int .i64 x7_3 ∧ Aside0 (spec_l03Steps.l1 kq x5_1 x6_1 x7_3 a0_0 a0_1 x201002_1 a1_0 a1_1 x202002_1 = some (r1, r2, r3)) ∧ Aside0 (kq ≤ kj6) ∧ Aside0 (Kd.R (Kd.int .i64) 2 w' w0.heap.size (fun k_ => ((P0_2_ k_ ∨ P1_2_ k_) ∨ w.heap.size ≤ k_) ∧ some k_ ≠ ((.slice Ao5 x202002_1.length co5) : Value).ownBlock) (.slice Ao3 x201002_1.length co3) x201002_1) ∧ Aside0 (Kd.R (Kd.int .i64) 2 w' w0.heap.size (fun k_ => ((P0_2_ k_ ∨ P1_2_ k_) ∨ w.heap.size ≤ k_) ∧ some k_ ≠ ((.slice Ao3 x201002_1.length co3) : Value).ownBlock) (.slice Ao5 x202002_1.length co5) x202002_1) ∧ Aside0 (w'.heap[gb200]? = some (.cells #[.int .i64 a0_0, .int .i64 a0_1, (.slice Ao3 x201002_1.length co3)] 27 (0, 0))) ∧ Aside0 (w'.heap[gb201]? = some (.cells #[.int .i64 a1_0, .int .i64 a1_1, (.slice Ao5 x202002_1.length co5)] 27 (0, 0))) ∧ Aside0 (Kept w w' (fun k_ => P0_2_ k_ ∨ P1_2_ k_)) ∧ Aside0 (Below w0.heap.size w0 w'))
       case atStart => exact ⟨(x5_1), (by first | rfl | (simp; done) | (simp [*]; done)), H', ⟨Nat.le_refl _⟩, ⟨by (try simp only [hl201002_1]); (try simp only [hl202002_1]); (with_reducible repeat (first | apply Kd.R_alloc | apply Kd.R_drewN | apply Kd.R_drew)); exact HO_201002.out⟩, ⟨by (try simp only [hl201002_1]); (try simp only [hl202002_1]); (with_reducible repeat (first | apply Kd.R_alloc | apply Kd.R_drewN | apply Kd.R_drew)); exact HO_202002.out⟩, ⟨by (try simp only [hl201002_1]); (try simp only [hl202002_1]); (with_reducible repeat (first | refine blk_drewN ?_ _ | refine blk_drew ?_ | refine blk_alloc ?_ _)); exact BK200.out⟩, ⟨by (try simp only [hl201002_1]); (try simp only [hl202002_1]); (with_reducible repeat (first | refine blk_drewN ?_ _ | refine blk_drew ?_ | refine blk_alloc ?_ _)); exact BK201.out⟩, ⟨by repeat (first | (with_reducible first | exact HK.out | apply Kept.alloc | apply Kept.drewN | apply Kept.drew | refine Kept.setCell ?_ (.inr GW200.out) _ | refine Kept.setCell ?_ (.inr GW201.out) _) | exact HK.out)⟩, ⟨Cz.w HB.out⟩⟩
       case round =>
        clear H'
        try clear c1
        try clear p1
        try clear p2
        try clear c8
        try clear c8b0
        try clear c9
        try clear c11
        try clear c13
        try clear hcz10_0
        try clear hcz10_1
        try clear hcz10_2
        try clear hcz12_0
        try clear hcz12_1
        try clear hcz12_2
        try clear hfz10_0
        try clear hfz10_1
        try clear hfz10_2
        try clear hfz12_0
        try clear hfz12_1
        try clear hfz12_2
        try clear p1
        try clear p2
        obtain ⟨x7_3, rfl, HA, HK3, HO_201002, HO_202002, BK200, BK201, HK, HB⟩ := hrel
        cases gk with
        | zero => exact absurd HA.out (by simp [spec_l03Steps.l1])
        | succ k3 =>
         have H := HA.out
         clear HA
         simp only [spec_l03Steps.l1] at H
         by_cases c15 : x7_3 < a0_0
         ·rw [if_pos c15] at H
          have c15b0 : decide (x7_3 < a0_0) = true := decide_eq_true c15
          clear c15
          (first | rw [c15b0] | (simp only [i64_w, i32_w]; rw [c15b0]) | skip)
          obtain ⟨ji16, hji16⟩ : ∃ j_ : Int, (wrap64 ((wrap64 (x7_3 * a0_1)) + x6_1)) = j_ := ⟨_, rfl⟩
          replace H : (if 0 ≤ (ji16) then (if (ji16) < (x201002_1.length : Int) then (if (rd x201002_1 (ji16)) = 0 then (spec_l03Steps.l1 k3 x5_1 x6_1 (wrap64 (x7_3 + 1)) a0_0 a0_1 x201002_1 a1_0 a1_1 x202002_1) else (spec_l03Steps.j3 k3 x5_1 x6_1 x7_3 a0_0 a0_1 x201002_1 a1_0 a1_1 x202002_1)) else (none)) else (none)) = some (r1, r2, r3) := by first | (rw [hji16] at H; exact H) | (simp only [hji16] at H ⊢; exact H)
          have hji16w : (IntKind.i64.wrap ((wrap64 (x7_3 * a0_1)) + x6_1)) = ji16 := (i64_w _).trans hji16
          by_cases c17 : 0 ≤ (ji16)
          ·rw [if_pos c17] at H
           have c17b0 : decide (0 ≤ (ji16)) = true := decide_eq_true c17
           clear c17
           by_cases c18 : (ji16) < (x201002_1.length : Int)
           ·rw [if_pos c18] at H
            have c18b0 : decide ((ji16) < (x201002_1.length : Int)) = true := decide_eq_true c18
            clear c18
            by_cases c19 : (rd x201002_1 (ji16)) = 0
            ·rw [if_pos c19] at H
             have c19b0 : ((rd x201002_1 (ji16)) == 0) = true := beq_iff_eq.mpr c19
             have c19b1 : ((rd x201002_1 (ji16)) != 0) = false := bne_eq_false_iff_eq.mpr c19
             clear c19
             have H' := Aside0.mk H
             clear H
             have hnb20 := NB200_201.out
             have hnc20 := NB201_200.out
             obtain ⟨hcz21_0, hcz21_1, hcz21_2, hfz21_0, hfz21_1, hfz21_2⟩ := Cy.z3 BK200.out
             have p202 : 0 ≤ ((ji16) : Int) := of_decide_eq_true (by first | (with_reducible assumption) | assumption)
             have q202 : (ji16) < (x201002_1.length : Int) := of_decide_eq_true (by first | (with_reducible assumption) | assumption)
             obtain ⟨ad202, e202, hx202_0⟩ := Kd.at_int (Kd.R_reads' HO_201002.out).2.2 (ji16) p202 q202
             cases e202
             replace p202 := eq_true p202
             replace q202 := eq_true q202
             go_wp2
             go_roundg k3
             case measure => have := HK1.out; have := HJ6.out; have := HK3.out; omega
             case rel => exact ⟨(wrap64 (x7_3 + 1)), (by first | rfl | (simp; done) | (simp [*]; done)), H', ⟨by have := HK1.out; have := HJ6.out; have := HK3.out; omega⟩, ⟨by (try simp only [hl201002_1]); (try simp only [hl202002_1]); (with_reducible repeat (first | apply Kd.R_alloc | apply Kd.R_drewN | apply Kd.R_drew)); exact HO_201002.out⟩, ⟨by (try simp only [hl201002_1]); (try simp only [hl202002_1]); (with_reducible repeat (first | apply Kd.R_alloc | apply Kd.R_drewN | apply Kd.R_drew)); exact HO_202002.out⟩, ⟨by (try simp only [hl201002_1]); (try simp only [hl202002_1]); (with_reducible repeat (first | refine blk_drewN ?_ _ | refine blk_drew ?_ | refine blk_alloc ?_ _)); exact BK200.out⟩, ⟨by (try simp only [hl201002_1]); (try simp only [hl202002_1]); (with_reducible repeat (first | refine blk_drewN ?_ _ | refine blk_drew ?_ | refine blk_alloc ?_ _)); exact BK201.out⟩, ⟨by repeat (first | (with_reducible first | exact HK.out | apply Kept.alloc | apply Kept.drewN | apply Kept.drew | refine Kept.setCell ?_ (.inr GW200.out) _ | refine Kept.setCell ?_ (.inr GW201.out) _) | exact HK.out)⟩, ⟨Cz.w HB.out⟩⟩
            ·rw [if_neg c19] at H
             have c19b0 : ((rd x201002_1 (ji16)) == 0) = false := beq_eq_false_iff_ne.mpr c19
             have c19b1 : ((rd x201002_1 (ji16)) != 0) = true := bne_iff_ne.mpr c19
             have H' := Aside0.mk H
             clear H
             have hnb22 := NB200_201.out
             have hnc22 := NB201_200.out
             obtain ⟨hcz23_0, hcz23_1, hcz23_2, hfz23_0, hfz23_1, hfz23_2⟩ := Cy.z3 BK200.out
             have p202 : 0 ≤ ((ji16) : Int) := of_decide_eq_true (by first | (with_reducible assumption) | assumption)
             have q202 : (ji16) < (x201002_1.length : Int) := of_decide_eq_true (by first | (with_reducible assumption) | assumption)
             obtain ⟨ad202, e202, hx202_0⟩ := Kd.at_int (Kd.R_reads' HO_201002.out).2.2 (ji16) p202 q202
             cases e202
             replace p202 := eq_true p202
             replace q202 := eq_true q202
             go_wp2
             go_meet
             case rel => exact ⟨_, (x7_3), (by first | rfl | (simp; done) | (simp [*]; done)), H', ⟨by have := HK1.out; have := HJ6.out; have := HK3.out; first | omega | exact Nat.le_refl _⟩, ⟨by (try simp only [hl201002_1]); (try simp only [hl202002_1]); (with_reducible repeat (first | apply Kd.R_alloc | apply Kd.R_drewN | apply Kd.R_drew)); exact HO_201002.out⟩, ⟨by (try simp only [hl201002_1]); (try simp only [hl202002_1]); (with_reducible repeat (first | apply Kd.R_alloc | apply Kd.R_drewN | apply Kd.R_drew)); exact HO_202002.out⟩, ⟨by (try simp only [hl201002_1]); (try simp only [hl202002_1]); (with_reducible repeat (first | refine blk_drewN ?_ _ | refine blk_drew ?_ | refine blk_alloc ?_ _)); exact BK200.out⟩, ⟨by (try simp only [hl201002_1]); (try simp only [hl202002_1]); (with_reducible repeat (first | refine blk_drewN ?_ _ | refine blk_drew ?_ | refine blk_alloc ?_ _)); exact BK201.out⟩, ⟨by repeat (first | (with_reducible first | exact HK.out | apply Kept.alloc | apply Kept.drewN | apply Kept.drew | refine Kept.setCell ?_ (.inr GW200.out) _ | refine Kept.setCell ?_ (.inr GW201.out) _) | exact HK.out)⟩, ⟨Cz.w HB.out⟩⟩
           ·rw [if_neg c18] at H
            exact absurd H (by simp)
          ·rw [if_neg c17] at H
           exact absurd H (by simp)
         ·rw [if_neg c15] at H
          have c15b0 : decide (x7_3 < a0_0) = false := decide_eq_false c15
          clear c15
          (first | rw [c15b0] | (simp only [i64_w, i32_w]; rw [c15b0]) | skip)
          have H' := Aside0.mk H
          clear H
          have hnb24 := NB200_201.out
          have hnc24 := NB201_200.out
          obtain ⟨hcz25_0, hcz25_1, hcz25_2, hfz25_0, hfz25_1, hfz25_2⟩ := Cy.z3 BK200.out
          go_wp2
          go_meet
          case rel => exact ⟨_, (x7_3), (by first | rfl | (simp; done) | (simp [*]; done)), H', ⟨by have := HK1.out; have := HJ6.out; have := HK3.out; first | omega | exact Nat.le_refl _⟩, ⟨by (try simp only [hl201002_1]); (try simp only [hl202002_1]); (with_reducible repeat (first | apply Kd.R_alloc | apply Kd.R_drewN | apply Kd.R_drew)); exact HO_201002.out⟩, ⟨by (try simp only [hl201002_1]); (try simp only [hl202002_1]); (with_reducible repeat (first | apply Kd.R_alloc | apply Kd.R_drewN | apply Kd.R_drew)); exact HO_202002.out⟩, ⟨by (try simp only [hl201002_1]); (try simp only [hl202002_1]); (with_reducible repeat (first | refine blk_drewN ?_ _ | refine blk_drew ?_ | refine blk_alloc ?_ _)); exact BK200.out⟩, ⟨by (try simp only [hl201002_1]); (try simp only [hl202002_1]); (with_reducible repeat (first | refine blk_drewN ?_ _ | refine blk_drew ?_ | refine blk_alloc ?_ _)); exact BK201.out⟩, ⟨by repeat (first | (with_reducible first | exact HK.out | apply Kept.alloc | apply Kept.drewN | apply Kept.drew | refine Kept.setCell ?_ (.inr GW200.out) _ | refine Kept.setCell ?_ (.inr GW201.out) _) | exact HK.out)⟩, ⟨Cz.w HB.out⟩⟩
      case rest =>
       clear HC14
       try clear c1
       try clear p1
       try clear c2
       try clear p2
       try clear q2
       try clear hx2
       try clear p6
       try clear c8
       try clear c8b0
       try clear c9
       try clear c11
       try clear c13
       try clear c15
       try clear c15b0
       try clear c17
       try clear c17b0
       try clear c18
       try clear c18b0
       try clear c19
       try clear c19b0
       try clear c19b1
       try clear c20
       try clear p20
       try clear q20
       try clear hx20
       try clear c22
       try clear c24
       try clear hcz10_0
       try clear hcz10_1
       try clear hcz10_2
       try clear hcz12_0
       try clear hcz12_1
       try clear hcz12_2
       try clear hcz21_0
       try clear hcz21_1
       try clear hcz21_2
       try clear hcz23_0
       try clear hcz23_1
       try clear hcz23_2
       try clear hcz25_0
       try clear hcz25_1
       try clear hcz25_2
       try clear hfz10_0
       try clear hfz10_1
       try clear hfz10_2
       try clear hfz12_0
       try clear hfz12_1
       try clear hfz12_2
       try clear hfz21_0
       try clear hfz21_1
       try clear hfz21_2
       try clear hfz23_0
       try clear hfz23_1
       try clear hfz23_2
       try clear hfz25_0
       try clear hfz25_1
       try clear hfz25_2
       try clear hx202_0
       try clear p1
       try clear p2
       try clear p202
       try clear q202
       obtain ⟨kq, x7_13, rfl, HA, HJ13, HO_201002, HO_202002, BK200, BK201, HK, HB⟩ := hcut
       cases kq with
       | zero => exact absurd HA.out (by simp [spec_l03Steps.j3])
       | succ kj13 =>
        have H := HA.out
        clear HA
        simp only [spec_l03Steps.j3] at H
        by_cases c26 : x7_13 = a0_0
        ·rw [if_pos c26] at H
         have c26b0 : (x7_13 == a0_0) = true := beq_iff_eq.mpr c26
         have c26b1 : (x7_13 != a0_0) = false := bne_eq_false_iff_eq.mpr c26
         clear c26
         have H' := Aside0.mk H
         clear H
         have hnb27 := NB200_201.out
         have hnc27 := NB201_200.out
         obtain ⟨hcz28_0, hcz28_1, hcz28_2, hfz28_0, hfz28_1, hfz28_2⟩ := Cy.z3 BK200.out
         go_wp2
         (try simp only [← hl201002_1, ← hl202002_1])
         go_roundg kj13
         case measure => have := HK1.out; have := HJ6.out; have := HJ13.out; omega
         case rel => exact ⟨(x5_1), (wrap64 (x6_1 + 1)), (x201002_1), (x202002_1), (by first | rfl | (simp; done) | (simp [*]; done)), (by first | rfl | (simp; done) | (simp [*]; done)), H', ⟨by have := HK1.out; have := HJ6.out; have := HJ13.out; omega⟩, ⟨by (try simp only [hl201002_1]); (try simp only [hl202002_1]); (with_reducible repeat (first | apply Kd.R_alloc | apply Kd.R_drewN | apply Kd.R_drew)); exact HO_201002.out⟩, ⟨by (try simp only [hl201002_1]); (try simp only [hl202002_1]); (with_reducible repeat (first | apply Kd.R_alloc | apply Kd.R_drewN | apply Kd.R_drew)); exact HO_202002.out⟩, ⟨by (try simp only [hl201002_1]); (try simp only [hl202002_1]); (with_reducible repeat (first | refine blk_drewN ?_ _ | refine blk_drew ?_ | refine blk_alloc ?_ _)); exact BK200.out⟩, ⟨by (try simp only [hl201002_1]); (try simp only [hl202002_1]); (with_reducible repeat (first | refine blk_drewN ?_ _ | refine blk_drew ?_ | refine blk_alloc ?_ _)); exact BK201.out⟩, ⟨by repeat (first | (with_reducible first | exact HK.out | apply Kept.alloc | apply Kept.drewN | apply Kept.drew | refine Kept.setCell ?_ (.inr GW200.out) _ | refine Kept.setCell ?_ (.inr GW201.out) _) | exact HK.out)⟩, ⟨Cz.w HB.out⟩⟩
        ·rw [if_neg c26] at H
         have c26b0 : (x7_13 == a0_0) = false := beq_eq_false_iff_ne.mpr c26
         have c26b1 : (x7_13 != a0_0) = true := bne_iff_ne.mpr c26
         replace H := Option.bind_eq_some_iff.mp H
         obtain ⟨t203, A290, H⟩ := H
         replace H : ((spec_l03Swap.f kj13 a1_0 a1_1 x202002_1 x7_13 x5_1).bind fun t204 => (if 0 ≤ (wrap64 ((wrap64 (x5_1 * a0_1)) + x6_1)) then (if (wrap64 ((wrap64 (x5_1 * a0_1)) + x6_1)) < (x201002_1.length : Int) then ((spec_FieldInv.f kj13 (rd t203 (wrap64 ((wrap64 (x5_1 * a0_1)) + x6_1)))).bind fun t206 => ((spec_l03Add.f kj13 a0_0 a0_1 t203 x5_1 x5_1 (Go.bits .xor .i64 t206 1)).bind fun t207 => ((spec_l03Add.f kj13 a1_0 a1_1 t204 x5_1 x5_1 (Go.bits .xor .i64 t206 1)).bind fun t208 => (spec_l03Steps.l2 kj13 x5_1 x6_1 0 a0_0 a0_1 t207 a1_0 a1_1 t208)))) else (none)) else (none))) = some (r1, r2, r3) := H
         have A29 := Aside0.mk A290
         clear A290
         replace H := Option.bind_eq_some_iff.mp H
         obtain ⟨t204, A300, H⟩ := H
         replace H : (if 0 ≤ (wrap64 ((wrap64 (x5_1 * a0_1)) + x6_1)) then (if (wrap64 ((wrap64 (x5_1 * a0_1)) + x6_1)) < (x201002_1.length : Int) then ((spec_FieldInv.f kj13 (rd t203 (wrap64 ((wrap64 (x5_1 * a0_1)) + x6_1)))).bind fun t206 => ((spec_l03Add.f kj13 a0_0 a0_1 t203 x5_1 x5_1 (Go.bits .xor .i64 t206 1)).bind fun t207 => ((spec_l03Add.f kj13 a1_0 a1_1 t204 x5_1 x5_1 (Go.bits .xor .i64 t206 1)).bind fun t208 => (spec_l03Steps.l2 kj13 x5_1 x6_1 0 a0_0 a0_1 t207 a1_0 a1_1 t208)))) else (none)) else (none)) = some (r1, r2, r3) := H
         have A30 := Aside0.mk A300
         clear A300
         obtain ⟨ji31, hji31⟩ : ∃ j_ : Int, (wrap64 ((wrap64 (x5_1 * a0_1)) + x6_1)) = j_ := ⟨_, rfl⟩
         replace H : (if 0 ≤ (ji31) then (if (ji31) < (x201002_1.length : Int) then ((spec_FieldInv.f kj13 (rd t203 (ji31))).bind fun t206 => ((spec_l03Add.f kj13 a0_0 a0_1 t203 x5_1 x5_1 (Go.bits .xor .i64 t206 1)).bind fun t207 => ((spec_l03Add.f kj13 a1_0 a1_1 t204 x5_1 x5_1 (Go.bits .xor .i64 t206 1)).bind fun t208 => (spec_l03Steps.l2 kj13 x5_1 x6_1 0 a0_0 a0_1 t207 a1_0 a1_1 t208)))) else (none)) else (none)) = some (r1, r2, r3) := by first | (rw [hji31] at H; exact H) | (simp only [hji31] at H ⊢; exact H)
         (try rw [hji31] at A29)
         (try rw [hji31] at A30)
         have hji31w : (IntKind.i64.wrap ((wrap64 (x5_1 * a0_1)) + x6_1)) = ji31 := (i64_w _).trans hji31
         by_cases c32 : 0 ≤ (ji31)
         ·rw [if_pos c32] at H
          have c32b0 : decide (0 ≤ (ji31)) = true := decide_eq_true c32
          clear c32
          by_cases c33 : (ji31) < (x201002_1.length : Int)
          ·rw [if_pos c33] at H
           have c33b0 : decide ((ji31) < (x201002_1.length : Int)) = true := decide_eq_true c33
           clear c33
           replace H := Option.bind_eq_some_iff.mp H
           obtain ⟨t206, A340, H⟩ := H
           replace H : ((spec_l03Add.f kj13 a0_0 a0_1 t203 x5_1 x5_1 (Go.bits .xor .i64 t206 1)).bind fun t207 => ((spec_l03Add.f kj13 a1_0 a1_1 t204 x5_1 x5_1 (Go.bits .xor .i64 t206 1)).bind fun t208 => (spec_l03Steps.l2 kj13 x5_1 x6_1 0 a0_0 a0_1 t207 a1_0 a1_1 t208))) = some (r1, r2, r3) := H
           have A34 := Aside0.mk A340
           clear A340
           replace H := Option.bind_eq_some_iff.mp H
           obtain ⟨t207, A350, H⟩ := H
           replace H : ((spec_l03Add.f kj13 a1_0 a1_1 t204 x5_1 x5_1 (Go.bits .xor .i64 t206 1)).bind fun t208 => (spec_l03Steps.l2 kj13 x5_1 x6_1 0 a0_0 a0_1 t207 a1_0 a1_1 t208)) = some (r1, r2, r3) := H
           have A35 := Aside0.mk A350
           clear A350
           replace H := Option.bind_eq_some_iff.mp H
           obtain ⟨t208, A360, H⟩ := H
           replace H : (spec_l03Steps.l2 kj13 x5_1 x6_1 0 a0_0 a0_1 t207 a1_0 a1_1 t208) = some (r1, r2, r3) := H
           have A36 := Aside0.mk A360
           clear A360
           have H' := Aside0.mk H
           clear H
           have hnb37 := NB200_201.out
           have hnc37 := NB201_200.out
           obtain ⟨hcz38_0, hcz38_1, hcz38_2, hfz38_0, hfz38_1, hfz38_2⟩ := Cy.z3 BK200.out
           go_wp2_with (first | ((with_reducible refine gate_callee (f := 135) rfl ?_); refine goesL_ (some 50) rfl rfl Try.func135 (by kernel_rfl) rfl #[.agg #[.int .i64 a0_0, .int .i64 a0_1, .slice Ao3 x201002_1.length co3], .int .i64 x7_13, .int .i64 x5_1] rfl Cy.ls ?_; (with_reducible refine (spec_l03Swap.calls kj13 a0_0 a0_1 (fun k_ => some k_ = (.slice Ao3 x201002_1.length co3 : Value).ownBlock) (.slice Ao3 x201002_1.length co3) x201002_1 x7_13 x5_1 t203 w0 _ ?side1 ?side2 A29.out).mono ?_); (case side1 => repeat (first | (with_reducible first | exact HB.out | apply below_alloc | apply pw_below_drewN | apply below_drew1 | refine below_set ?_ GE200.out | refine below_set ?_ GE201.out) | exact HB.out)); (case side2 => exact Kd.R_tight rfl HO_201002.out); rintro e w39 ⟨rfl, hy0, hb, hkp⟩; refine ⟨_, rfl, ?_⟩; have n_ := Cy.a6 (Kd.R_reok rfl hy0 (fun k_ e_ => HO_201002.out.1 k_ e_)) (Kd.R_mono (ok' := fun k_ => ((P0_2_ k_ ∨ P1_2_ k_) ∨ w.heap.size ≤ k_) ∧ some k_ ≠ (.slice Ao3 x201002_1.length co3 : Value).ownBlock) (Kd.R_keptB (HO_202002.out) hkp (fun k_ hk_ hs_ => (hk_.2) hs_)) (fun k_ hk_ => ⟨hk_.1.1, hk_.1.2⟩)) (blk_kept (Cz.b BK200.out) hkp (fun hs_ => (fun e_ => (Kd.R_ne HO_201002.out BK200.out (by decide)) e_) hs_)) (blk_kept (Cz.b BK201.out) hkp (fun hs_ => (fun e_ => (Kd.R_ne HO_201002.out BK201.out (by decide)) e_) hs_)) (Kept.then_ (S := (fun k_ => P0_2_ k_ ∨ P1_2_ k_)) (by repeat (first | (with_reducible first | exact HK.out | apply Kept.alloc | apply Kept.drewN | apply Kept.drew | refine Kept.setCell ?_ (.inr GW200.out) _ | refine Kept.setCell ?_ (.inr GW201.out) _) | exact HK.out)) hkp (fun k_ hs_ => (fun e_ => (HO_201002.out.1 k_ e_.symm).1) hs_)) hb; clear HO_201002 HO_202002 BK200 BK201 HK HB; obtain ⟨HO_201002, HO_202002, BK200, BK201, HK, HB⟩ := n_; (try clear hb); (try clear hkp); (try clear hy0); obtain ⟨hcz40_0, hcz40_1, hcz40_2, hfz40_0, hfz40_1, hfz40_2⟩ := Cy.z3 BK201.out) | ((with_reducible refine gate_callee (f := 135) rfl ?_); refine goesL_ (some 54) rfl rfl Try.func135 (by kernel_rfl) rfl #[.agg #[.int .i64 a1_0, .int .i64 a1_1, .slice Ao5 x202002_1.length co5], .int .i64 x7_13, .int .i64 x5_1] rfl Cy.ls ?_; (with_reducible refine (spec_l03Swap.calls kj13 a1_0 a1_1 (fun k_ => some k_ = (.slice Ao5 x202002_1.length co5 : Value).ownBlock) (.slice Ao5 x202002_1.length co5) x202002_1 x7_13 x5_1 t204 w0 _ ?side1 ?side2 A30.out).mono ?_); (case side1 => repeat (first | (with_reducible first | exact HB.out | apply below_alloc | apply pw_below_drewN | apply below_drew1 | refine below_set ?_ GE200.out | refine below_set ?_ GE201.out) | exact HB.out)); (case side2 => exact Kd.R_tight rfl HO_202002.out); rintro e w41 ⟨rfl, hy0, hb, hkp⟩; refine ⟨_, rfl, ?_⟩; have n_ := Cy.a6 (Kd.R_mono (ok' := fun k_ => ((P0_2_ k_ ∨ P1_2_ k_) ∨ w.heap.size ≤ k_) ∧ some k_ ≠ (.slice Ao5 x202002_1.length co5 : Value).ownBlock) (Kd.R_keptB (HO_201002.out) hkp (fun k_ hk_ hs_ => (hk_.2) hs_)) (fun k_ hk_ => ⟨hk_.1.1, hk_.1.2⟩)) (Kd.R_reok rfl hy0 (fun k_ e_ => HO_202002.out.1 k_ e_)) (blk_kept (Cz.b BK200.out) hkp (fun hs_ => (fun e_ => (Kd.R_ne HO_202002.out BK200.out (by decide)) e_) hs_)) (blk_kept (Cz.b BK201.out) hkp (fun hs_ => (fun e_ => (Kd.R_ne HO_202002.out BK201.out (by decide)) e_) hs_)) (Kept.then_ (S := (fun k_ => P0_2_ k_ ∨ P1_2_ k_)) (by repeat (first | (with_reducible first | exact HK.out | apply Kept.alloc | apply Kept.drewN | apply Kept.drew | refine Kept.setCell ?_ (.inr GW200.out) _ | refine Kept.setCell ?_ (.inr GW201.out) _) | exact HK.out)) hkp (fun k_ hs_ => (fun e_ => (HO_202002.out.1 k_ e_.symm).1) hs_)) hb; clear HO_201002 HO_202002 BK200 BK201 HK HB; obtain ⟨HO_201002, HO_202002, BK200, BK201, HK, HB⟩ := n_; (try clear hb); (try clear hkp); (try clear hy0); obtain ⟨hcz42_0, hcz42_1, hcz42_2, hfz42_0, hfz42_1, hfz42_2⟩ := Cy.z3 BK200.out; have p205 : 0 ≤ ((ji31) : Int) := of_decide_eq_true (by first | (with_reducible assumption) | assumption); have q205 : (ji31) < (t203.length : Int) := (by have h_ : ((ji31) : Int) < ((x201002_1.length : Int) : Int) := of_decide_eq_true (by first | (with_reducible assumption) | assumption); have e_ := (Kd.R_reads' HO_201002.out).1; omega); have ql205 : (((ji31) : Int) < ((x201002_1.length : Int) : Int)) = True := eq_true (of_decide_eq_true (by first | (with_reducible assumption) | assumption)); obtain ⟨ad205, e205, hx205_0⟩ := Kd.at_int (Kd.R_reads' HO_201002.out).2.2 (ji31) p205 q205; cases e205; replace p205 := eq_true p205; replace q205 := eq_true q205) | ((with_reducible refine gate_callee (f := 78) rfl ?_); refine goesL_ (some 65) rfl rfl Try.func78 (by kernel_rfl) rfl #[.int .i64 (rd t203 (ji31))] rfl (by (try simp only [List.map_toArray, List.map_cons, List.map_nil]); first | done | (simp only [hji31]; rfl) | rfl | (simp only [List.length_drop, List.length_take]; rfl)) ?_; (with_reducible refine (spec_FieldInv.calls kj13 (rd t203 (ji31)) t206 _ A34.out).mono ?_); rintro e w' ⟨rfl, ⟨nd, rfl⟩⟩; refine ⟨_, rfl, ?_⟩) | ((with_reducible refine gate_callee (f := 136) rfl ?_); refine goesL_ (some 71) rfl rfl Try.func136 (by kernel_rfl) rfl #[.agg #[.int .i64 a0_0, .int .i64 a0_1, .slice (some ad205) x201002_1.length co3], .int .i64 x5_1, .int .i64 x5_1, .int .i64 (Go.bits .xor .i64 t206 1)] rfl Cy.ls ?_; (with_reducible refine (spec_l03Add.calls kj13 a0_0 a0_1 (fun k_ => some k_ = (.slice (some ad205) x201002_1.length co3 : Value).ownBlock) (.slice (some ad205) x201002_1.length co3) t203 x5_1 x5_1 (Go.bits .xor .i64 t206 1) t207 w0 _ ?side1 ?side2 A35.out).mono ?_); (case side1 => repeat (first | (with_reducible first | exact HB.out | apply below_alloc | apply pw_below_drewN | apply below_drew1 | refine below_set ?_ GE200.out | refine below_set ?_ GE201.out) | exact HB.out)); (case side2 => exact Kd.R_tight rfl HO_201002.out); rintro e w43 ⟨rfl, hy0, hb, hkp⟩; refine ⟨_, rfl, ?_⟩; have n_ := Cy.a6 (Kd.R_reok rfl hy0 (fun k_ e_ => HO_201002.out.1 k_ e_)) (Kd.R_mono (ok' := fun k_ => ((P0_2_ k_ ∨ P1_2_ k_) ∨ w.heap.size ≤ k_) ∧ some k_ ≠ (.slice (some ad205) x201002_1.length co3 : Value).ownBlock) (Kd.R_keptB (HO_202002.out) hkp (fun k_ hk_ hs_ => (hk_.2) hs_)) (fun k_ hk_ => ⟨hk_.1.1, hk_.1.2⟩)) (blk_kept (Cz.b BK200.out) hkp (fun hs_ => (fun e_ => (Kd.R_ne HO_201002.out BK200.out (by decide)) e_) hs_)) (blk_kept (Cz.b BK201.out) hkp (fun hs_ => (fun e_ => (Kd.R_ne HO_201002.out BK201.out (by decide)) e_) hs_)) (Kept.then_ (S := (fun k_ => P0_2_ k_ ∨ P1_2_ k_)) (by repeat (first | (with_reducible first | exact HK.out | apply Kept.alloc | apply Kept.drewN | apply Kept.drew | refine Kept.setCell ?_ (.inr GW200.out) _ | refine Kept.setCell ?_ (.inr GW201.out) _) | exact HK.out)) hkp (fun k_ hs_ => (fun e_ => (HO_201002.out.1 k_ e_.symm).1) hs_)) hb; clear HO_201002 HO_202002 BK200 BK201 HK HB; obtain ⟨HO_201002, HO_202002, BK200, BK201, HK, HB⟩ := n_; (try clear hb); (try clear hkp); (try clear hy0); obtain ⟨hcz44_0, hcz44_1, hcz44_2, hfz44_0, hfz44_1, hfz44_2⟩ := Cy.z3 BK201.out) | ((with_reducible refine gate_callee (f := 136) rfl ?_); refine goesL_ (some 77) rfl rfl Try.func136 (by kernel_rfl) rfl #[.agg #[.int .i64 a1_0, .int .i64 a1_1, .slice Ao5 x202002_1.length co5], .int .i64 x5_1, .int .i64 x5_1, .int .i64 (Go.bits .xor .i64 t206 1)] rfl Cy.ls ?_; (with_reducible refine (spec_l03Add.calls kj13 a1_0 a1_1 (fun k_ => some k_ = (.slice Ao5 x202002_1.length co5 : Value).ownBlock) (.slice Ao5 x202002_1.length co5) t204 x5_1 x5_1 (Go.bits .xor .i64 t206 1) t208 w0 _ ?side1 ?side2 A36.out).mono ?_); (case side1 => repeat (first | (with_reducible first | exact HB.out | apply below_alloc | apply pw_below_drewN | apply below_drew1 | refine below_set ?_ GE200.out | refine below_set ?_ GE201.out) | exact HB.out)); (case side2 => exact Kd.R_tight rfl HO_202002.out); rintro e w45 ⟨rfl, hy0, hb, hkp⟩; refine ⟨_, rfl, ?_⟩; have n_ := Cy.a6 (Kd.R_mono (ok' := fun k_ => ((P0_2_ k_ ∨ P1_2_ k_) ∨ w.heap.size ≤ k_) ∧ some k_ ≠ (.slice Ao5 x202002_1.length co5 : Value).ownBlock) (Kd.R_keptB (HO_201002.out) hkp (fun k_ hk_ hs_ => (hk_.2) hs_)) (fun k_ hk_ => ⟨hk_.1.1, hk_.1.2⟩)) (Kd.R_reok rfl hy0 (fun k_ e_ => HO_202002.out.1 k_ e_)) (blk_kept (Cz.b BK200.out) hkp (fun hs_ => (fun e_ => (Kd.R_ne HO_202002.out BK200.out (by decide)) e_) hs_)) (blk_kept (Cz.b BK201.out) hkp (fun hs_ => (fun e_ => (Kd.R_ne HO_202002.out BK201.out (by decide)) e_) hs_)) (Kept.then_ (S := (fun k_ => P0_2_ k_ ∨ P1_2_ k_)) (by repeat (first | (with_reducible first | exact HK.out | apply Kept.alloc | apply Kept.drewN | apply Kept.drew | refine Kept.setCell ?_ (.inr GW200.out) _ | refine Kept.setCell ?_ (.inr GW201.out) _) | exact HK.out)) hkp (fun k_ hs_ => (fun e_ => (HO_202002.out.1 k_ e_.symm).1) hs_)) hb; clear HO_201002 HO_202002 BK200 BK201 HK HB; obtain ⟨HO_201002, HO_202002, BK200, BK201, HK, HB⟩ := n_; (try clear hb); (try clear hkp); (try clear hy0)))
           go_loopg [9] kj13 (fun kq v9 w' => ∃ (x9_4 : Int) (x201002_4 : List Int) (x202002_4 : List Int), v9 = .int .i64 x9_4 ∧ Aside0 (spec_l03Steps.l2 kq x5_1 x6_1 x9_4 a0_0 a0_1 x201002_4 a1_0 a1_1 x202002_4 = some (r1, r2, r3)) ∧ Aside0 (kq ≤ kj13) ∧ Aside0 (Kd.R (Kd.int .i64) 2 w' w0.heap.size (fun k_ => ((P0_2_ k_ ∨ P1_2_ k_) ∨ w.heap.size ≤ k_) ∧ some k_ ≠ ((.slice Ao5 x202002_1.length co5) : Value).ownBlock) (.slice (some ad205) x201002_1.length co3) x201002_4) ∧ Aside0 (Kd.R (Kd.int .i64) 2 w' w0.heap.size (fun k_ => ((P0_2_ k_ ∨ P1_2_ k_) ∨ w.heap.size ≤ k_) ∧ some k_ ≠ ((.slice (some ad205) x201002_1.length co3) : Value).ownBlock) (.slice Ao5 x202002_1.length co5) x202002_4) ∧ Aside0 (w'.heap[gb200]? = some (.cells #[.int .i64 a0_0, .int .i64 a0_1, (.slice (some ad205) x201002_1.length co3)] 27 (0, 0))) ∧ Aside0 (w'.heap[gb201]? = some (.cells #[.int .i64 a1_0, .int .i64 a1_1, (.slice Ao5 x202002_1.length co5)] 27 (0, 0))) ∧ Aside0 (Kept w w' (fun k_ => P0_2_ k_ ∨ P1_2_ k_)) ∧ Aside0 (Below w0.heap.size w0 w'))
           case atStart => exact ⟨(0), (t207), (t208), (by first | rfl | (simp; done) | (simp [*]; done)), H', ⟨Nat.le_refl _⟩, ⟨by (try simp only [hl201002_1]); (try simp only [hl202002_1]); (with_reducible repeat (first | apply Kd.R_alloc | apply Kd.R_drewN | apply Kd.R_drew)); exact HO_201002.out⟩, ⟨by (try simp only [hl201002_1]); (try simp only [hl202002_1]); (with_reducible repeat (first | apply Kd.R_alloc | apply Kd.R_drewN | apply Kd.R_drew)); exact HO_202002.out⟩, ⟨by (try simp only [hl201002_1]); (try simp only [hl202002_1]); (with_reducible repeat (first | refine blk_drewN ?_ _ | refine blk_drew ?_ | refine blk_alloc ?_ _)); exact BK200.out⟩, ⟨by (try simp only [hl201002_1]); (try simp only [hl202002_1]); (with_reducible repeat (first | refine blk_drewN ?_ _ | refine blk_drew ?_ | refine blk_alloc ?_ _)); exact BK201.out⟩, ⟨by repeat (first | (with_reducible first | exact HK.out | apply Kept.alloc | apply Kept.drewN | apply Kept.drew | refine Kept.setCell ?_ (.inr GW200.out) _ | refine Kept.setCell ?_ (.inr GW201.out) _) | exact HK.out)⟩, ⟨Cz.w HB.out⟩⟩
           case round =>
            clear H'
            try clear c1
            try clear p1
            try clear c2
            try clear p2
            try clear q2
            try clear hx2
            try clear c3
            try clear p6
            try clear c7
            try clear c8
            try clear c8b0
            try clear c9
            try clear c11
            try clear c13
            try clear c15
            try clear c15b0
            try clear c17
            try clear c17b0
            try clear c18
            try clear c18b0
            try clear c19
            try clear c19b0
            try clear c19b1
            try clear c20
            try clear p20
            try clear q20
            try clear hx20
            try clear c22
            try clear c24
            try clear c26
            try clear c26b0
            try clear c26b1
            try clear c27
            try clear c32
            try clear c32b0
            try clear c33
            try clear c33b0
            try clear c37
            try clear hcz10_0
            try clear hcz10_1
            try clear hcz10_2
            try clear hcz12_0
            try clear hcz12_1
            try clear hcz12_2
            try clear hcz21_0
            try clear hcz21_1
            try clear hcz21_2
            try clear hcz23_0
            try clear hcz23_1
            try clear hcz23_2
            try clear hcz25_0
            try clear hcz25_1
            try clear hcz25_2
            try clear hcz28_0
            try clear hcz28_1
            try clear hcz28_2
            try clear hcz38_0
            try clear hcz38_1
            try clear hcz38_2
            try clear hcz40_0
            try clear hcz40_1
            try clear hcz40_2
            try clear hcz42_0
            try clear hcz42_1
            try clear hcz42_2
            try clear hcz44_0
            try clear hcz44_1
            try clear hcz44_2
            try clear hfz10_0
            try clear hfz10_1
            try clear hfz10_2
            try clear hfz12_0
            try clear hfz12_1
            try clear hfz12_2
            try clear hfz21_0
            try clear hfz21_1
            try clear hfz21_2
            try clear hfz23_0
            try clear hfz23_1
            try clear hfz23_2
            try clear hfz25_0
            try clear hfz25_1
            try clear hfz25_2
            try clear hfz28_0
            try clear hfz28_1
            try clear hfz28_2
            try clear hfz38_0
            try clear hfz38_1
            try clear hfz38_2
            try clear hfz40_0
            try clear hfz40_1
            try clear hfz40_2
            try clear hfz42_0
            try clear hfz42_1
            try clear hfz42_2
            try clear hfz44_0
            try clear hfz44_1
            try clear hfz44_2
            try clear hx202_0
            try clear hx205_0
            try clear p1
            try clear p2
            try clear p20
            try clear p202
            try clear p205
            try clear p6
            try clear q2
            try clear q20
            try clear q202
            try clear q205
            obtain ⟨x9_4, x201002_4, x202002_4, rfl, HA, HK4, HO_201002, HO_202002, BK200, BK201, HK, HB⟩ := hrel
            have hl201002_4 := (Kd.R_reads' HO_201002.out).1
            rw [hl201002_4] at HO_201002
            (try simp only [hl201002_4])
            (try simp only [hl201002_4] at BK200)
            (try simp only [hl201002_4] at BK201)
            (try simp only [hl201002_4] at HO_202002)
            have hl202002_4 := (Kd.R_reads' HO_202002.out).1
            rw [hl202002_4] at HO_202002
            (try simp only [hl202002_4])
            (try simp only [hl202002_4] at BK200)
            (try simp only [hl202002_4] at BK201)
            (try simp only [hl202002_4] at HO_201002)
            cases gk with
            | zero => exact absurd HA.out (by simp [spec_l03Steps.l2])
            | succ k4 =>
             have H := HA.out
             clear HA
             simp only [spec_l03Steps.l2] at H
             by_cases c46 : x9_4 < a0_0
             ·rw [if_pos c46] at H
              have c46b0 : decide (x9_4 < a0_0) = true := decide_eq_true c46
              clear c46
              by_cases c47 : x9_4 = x5_1
              ·rw [if_pos c47] at H
               have c47b0 : (x9_4 == x5_1) = true := beq_iff_eq.mpr c47
               have c47b1 : (x9_4 != x5_1) = false := bne_eq_false_iff_eq.mpr c47
               clear c47
               have H' := Aside0.mk H
               clear H
               have hnb48 := NB200_201.out
               have hnc48 := NB201_200.out
               obtain ⟨hcz49_0, hcz49_1, hcz49_2, hfz49_0, hfz49_1, hfz49_2⟩ := Cy.z3 BK200.out
               go_wp2
               (try simp only [← hl201002_4, ← hl202002_4])
               go_roundg k4
               case measure => have := HK1.out; have := HJ6.out; have := HJ13.out; have := HK4.out; omega
               case rel => exact ⟨(wrap64 (x9_4 + 1)), (x201002_4), (x202002_4), (by first | rfl | (simp; done) | (simp [*]; done)), H', ⟨by have := HK1.out; have := HJ6.out; have := HJ13.out; have := HK4.out; omega⟩, ⟨by (try simp only [hl201002_1]); (try simp only [hl202002_1]); (try simp only [hl201002_4]); (try simp only [hl202002_4]); (with_reducible repeat (first | apply Kd.R_alloc | apply Kd.R_drewN | apply Kd.R_drew)); exact HO_201002.out⟩, ⟨by (try simp only [hl201002_1]); (try simp only [hl202002_1]); (try simp only [hl201002_4]); (try simp only [hl202002_4]); (with_reducible repeat (first | apply Kd.R_alloc | apply Kd.R_drewN | apply Kd.R_drew)); exact HO_202002.out⟩, ⟨by (try simp only [hl201002_1]); (try simp only [hl202002_1]); (try simp only [hl201002_4]); (try simp only [hl202002_4]); (with_reducible repeat (first | refine blk_drewN ?_ _ | refine blk_drew ?_ | refine blk_alloc ?_ _)); exact BK200.out⟩, ⟨by (try simp only [hl201002_1]); (try simp only [hl202002_1]); (try simp only [hl201002_4]); (try simp only [hl202002_4]); (with_reducible repeat (first | refine blk_drewN ?_ _ | refine blk_drew ?_ | refine blk_alloc ?_ _)); exact BK201.out⟩, ⟨by repeat (first | (with_reducible first | exact HK.out | apply Kept.alloc | apply Kept.drewN | apply Kept.drew | refine Kept.setCell ?_ (.inr GW200.out) _ | refine Kept.setCell ?_ (.inr GW201.out) _) | exact HK.out)⟩, ⟨Cz.w HB.out⟩⟩
              ·rw [if_neg c47] at H
               have c47b0 : (x9_4 == x5_1) = false := beq_eq_false_iff_ne.mpr c47
               have c47b1 : (x9_4 != x5_1) = true := bne_iff_ne.mpr c47
               obtain ⟨ji50, hji50⟩ : ∃ j_ : Int, (wrap64 ((wrap64 (x9_4 * a0_1)) + x6_1)) = j_ := ⟨_, rfl⟩
               replace H : (if 0 ≤ (ji50) then (if (ji50) < (x201002_4.length : Int) then ((spec_l03Add.f k4 a0_0 a0_1 x201002_4 x9_4 x5_1 (rd x201002_4 (ji50))).bind fun t210 => ((spec_l03Add.f k4 a1_0 a1_1 x202002_4 x9_4 x5_1 (rd x201002_4 (ji50))).bind fun t211 => (spec_l03Steps.l2 k4 x5_1 x6_1 (wrap64 (x9_4 + 1)) a0_0 a0_1 t210 a1_0 a1_1 t211))) else (none)) else (none)) = some (r1, r2, r3) := by first | (rw [hji50] at H; exact H) | (simp only [hji50] at H ⊢; exact H)
               have hji50w : (IntKind.i64.wrap ((wrap64 (x9_4 * a0_1)) + x6_1)) = ji50 := (i64_w _).trans hji50
               by_cases c51 : 0 ≤ (ji50)
               ·rw [if_pos c51] at H
                have c51b0 : decide (0 ≤ (ji50)) = true := decide_eq_true c51
                clear c51
                by_cases c52 : (ji50) < (x201002_4.length : Int)
                ·rw [if_pos c52] at H
                 have c52b0 : decide ((ji50) < (x201002_4.length : Int)) = true := decide_eq_true c52
                 clear c52
                 replace H := Option.bind_eq_some_iff.mp H
                 obtain ⟨t210, A530, H⟩ := H
                 replace H : ((spec_l03Add.f k4 a1_0 a1_1 x202002_4 x9_4 x5_1 (rd x201002_4 (ji50))).bind fun t211 => (spec_l03Steps.l2 k4 x5_1 x6_1 (wrap64 (x9_4 + 1)) a0_0 a0_1 t210 a1_0 a1_1 t211)) = some (r1, r2, r3) := H
                 have A53 := Aside0.mk A530
                 clear A530
                 replace H := Option.bind_eq_some_iff.mp H
                 obtain ⟨t211, A540, H⟩ := H
                 replace H : (spec_l03Steps.l2 k4 x5_1 x6_1 (wrap64 (x9_4 + 1)) a0_0 a0_1 t210 a1_0 a1_1 t211) = some (r1, r2, r3) := H
                 have A54 := Aside0.mk A540
                 clear A540
                 have H' := Aside0.mk H
                 clear H
                 have hnb55 := NB200_201.out
                 have hnc55 := NB201_200.out
                 obtain ⟨hcz56_0, hcz56_1, hcz56_2, hfz56_0, hfz56_1, hfz56_2⟩ := Cy.z3 BK200.out
                 have p209 : 0 ≤ ((ji50) : Int) := of_decide_eq_true (by first | (with_reducible assumption) | assumption)
                 have q209 : (ji50) < (x201002_4.length : Int) := of_decide_eq_true (by first | (with_reducible assumption) | assumption)
                 obtain ⟨ad209, e209, hx209_0⟩ := Kd.at_int (Kd.R_reads' HO_201002.out).2.2 (ji50) p209 q209
                 obtain rfl : ad205 = ad209 := (by injection e209)
                 replace p209 := eq_true p209
                 replace q209 := eq_true q209
                 go_wp2_with (first | ((with_reducible refine gate_callee (f := 136) rfl ?_); refine goesL_ (some 101) rfl rfl Try.func136 (by kernel_rfl) rfl #[.agg #[.int .i64 a0_0, .int .i64 a0_1, .slice (some ad205) x201002_4.length co3], .int .i64 x9_4, .int .i64 x5_1, .int .i64 (rd x201002_4 (ji50))] rfl (by (try simp only [List.map_toArray, List.map_cons, List.map_nil]); first | done | (simp only [hji50]; rfl) | rfl | (simp only [List.length_drop, List.length_take]; rfl)) ?_; (with_reducible refine (spec_l03Add.calls k4 a0_0 a0_1 (fun k_ => some k_ = (.slice (some ad205) x201002_4.length co3 : Value).ownBlock) (.slice (some ad205) x201002_4.length co3) x201002_4 x9_4 x5_1 (rd x201002_4 (ji50)) t210 w0 _ ?side1 ?side2 A53.out).mono ?_); (case side1 => repeat (first | (with_reducible first | exact HB.out | apply below_alloc | apply pw_below_drewN | apply below_drew1 | refine below_set ?_ GE200.out | refine below_set ?_ GE201.out) | exact HB.out)); (case side2 => exact Kd.R_tight rfl HO_201002.out); rintro e w57 ⟨rfl, hy0, hb, hkp⟩; refine ⟨_, rfl, ?_⟩; have n_ := Cy.a6 (Kd.R_reok rfl hy0 (fun k_ e_ => HO_201002.out.1 k_ e_)) (Kd.R_mono (ok' := fun k_ => ((P0_2_ k_ ∨ P1_2_ k_) ∨ w.heap.size ≤ k_) ∧ some k_ ≠ (.slice (some ad205) x201002_4.length co3 : Value).ownBlock) (Kd.R_keptB (HO_202002.out) hkp (fun k_ hk_ hs_ => (hk_.2) hs_)) (fun k_ hk_ => ⟨hk_.1.1, hk_.1.2⟩)) (blk_kept (Cz.b BK200.out) hkp (fun hs_ => (fun e_ => (Kd.R_ne HO_201002.out BK200.out (by decide)) e_) hs_)) (blk_kept (Cz.b BK201.out) hkp (fun hs_ => (fun e_ => (Kd.R_ne HO_201002.out BK201.out (by decide)) e_) hs_)) (Kept.then_ (S := (fun k_ => P0_2_ k_ ∨ P1_2_ k_)) (by repeat (first | (with_reducible first | exact HK.out | apply Kept.alloc | apply Kept.drewN | apply Kept.drew | refine Kept.setCell ?_ (.inr GW200.out) _ | refine Kept.setCell ?_ (.inr GW201.out) _) | exact HK.out)) hkp (fun k_ hs_ => (fun e_ => (HO_201002.out.1 k_ e_.symm).1) hs_)) hb; clear HO_201002 HO_202002 BK200 BK201 HK HB; obtain ⟨HO_201002, HO_202002, BK200, BK201, HK, HB⟩ := n_; (try clear hb); (try clear hkp); (try clear hy0); obtain ⟨hcz58_0, hcz58_1, hcz58_2, hfz58_0, hfz58_1, hfz58_2⟩ := Cy.z3 BK201.out) | ((with_reducible refine gate_callee (f := 136) rfl ?_); refine goesL_ (some 106) rfl rfl Try.func136 (by kernel_rfl) rfl #[.agg #[.int .i64 a1_0, .int .i64 a1_1, .slice Ao5 x202002_4.length co5], .int .i64 x9_4, .int .i64 x5_1, .int .i64 (rd x201002_4 (ji50))] rfl (by (try simp only [List.map_toArray, List.map_cons, List.map_nil]); first | done | (simp only [hji50]; rfl) | rfl | (simp only [List.length_drop, List.length_take]; rfl)) ?_; (with_reducible refine (spec_l03Add.calls k4 a1_0 a1_1 (fun k_ => some k_ = (.slice Ao5 x202002_4.length co5 : Value).ownBlock) (.slice Ao5 x202002_4.length co5) x202002_4 x9_4 x5_1 (rd x201002_4 (ji50)) t211 w0 _ ?side1 ?side2 A54.out).mono ?_); (case side1 => repeat (first | (with_reducible first | exact HB.out | apply below_alloc | apply pw_below_drewN | apply below_drew1 | refine below_set ?_ GE200.out | refine below_set ?_ GE201.out) | exact HB.out)); (case side2 => exact Kd.R_tight rfl HO_202002.out); rintro e w59 ⟨rfl, hy0, hb, hkp⟩; refine ⟨_, rfl, ?_⟩; have n_ := Cy.a6 (Kd.R_mono (ok' := fun k_ => ((P0_2_ k_ ∨ P1_2_ k_) ∨ w.heap.size ≤ k_) ∧ some k_ ≠ (.slice Ao5 x202002_4.length co5 : Value).ownBlock) (Kd.R_keptB (HO_201002.out) hkp (fun k_ hk_ hs_ => (hk_.2) hs_)) (fun k_ hk_ => ⟨hk_.1.1, hk_.1.2⟩)) (Kd.R_reok rfl hy0 (fun k_ e_ => HO_202002.out.1 k_ e_)) (blk_kept (Cz.b BK200.out) hkp (fun hs_ => (fun e_ => (Kd.R_ne HO_202002.out BK200.out (by decide)) e_) hs_)) (blk_kept (Cz.b BK201.out) hkp (fun hs_ => (fun e_ => (Kd.R_ne HO_202002.out BK201.out (by decide)) e_) hs_)) (Kept.then_ (S := (fun k_ => P0_2_ k_ ∨ P1_2_ k_)) (by repeat (first | (with_reducible first | exact HK.out | apply Kept.alloc | apply Kept.drewN | apply Kept.drew | refine Kept.setCell ?_ (.inr GW200.out) _ | refine Kept.setCell ?_ (.inr GW201.out) _) | exact HK.out)) hkp (fun k_ hs_ => (fun e_ => (HO_202002.out.1 k_ e_.symm).1) hs_)) hb; clear HO_201002 HO_202002 BK200 BK201 HK HB; obtain ⟨HO_201002, HO_202002, BK200, BK201, HK, HB⟩ := n_; (try clear hb); (try clear hkp); (try clear hy0)))
                 (try simp only [← hl201002_4, ← hl202002_4])
                 go_roundg k4
                 case measure => have := HK1.out; have := HJ6.out; have := HJ13.out; have := HK4.out; omega
                 case rel => exact ⟨(wrap64 (x9_4 + 1)), (t210), (t211), (by first | rfl | (simp; done) | (simp [*]; done)), H', ⟨by have := HK1.out; have := HJ6.out; have := HJ13.out; have := HK4.out; omega⟩, ⟨by (try simp only [hl201002_1]); (try simp only [hl202002_1]); (try simp only [hl201002_4]); (try simp only [hl202002_4]); (with_reducible repeat (first | apply Kd.R_alloc | apply Kd.R_drewN | apply Kd.R_drew)); exact HO_201002.out⟩, ⟨by (try simp only [hl201002_1]); (try simp only [hl202002_1]); (try simp only [hl201002_4]); (try simp only [hl202002_4]); (with_reducible repeat (first | apply Kd.R_alloc | apply Kd.R_drewN | apply Kd.R_drew)); exact HO_202002.out⟩, ⟨by (try simp only [hl201002_1]); (try simp only [hl202002_1]); (try simp only [hl201002_4]); (try simp only [hl202002_4]); (with_reducible repeat (first | refine blk_drewN ?_ _ | refine blk_drew ?_ | refine blk_alloc ?_ _)); exact BK200.out⟩, ⟨by (try simp only [hl201002_1]); (try simp only [hl202002_1]); (try simp only [hl201002_4]); (try simp only [hl202002_4]); (with_reducible repeat (first | refine blk_drewN ?_ _ | refine blk_drew ?_ | refine blk_alloc ?_ _)); exact BK201.out⟩, ⟨by repeat (first | (with_reducible first | exact HK.out | apply Kept.alloc | apply Kept.drewN | apply Kept.drew | refine Kept.setCell ?_ (.inr GW200.out) _ | refine Kept.setCell ?_ (.inr GW201.out) _) | exact HK.out)⟩, ⟨Cz.w HB.out⟩⟩
                ·rw [if_neg c52] at H
                 exact absurd H (by simp)
               ·rw [if_neg c51] at H
                exact absurd H (by simp)
             ·rw [if_neg c46] at H
              have c46b0 : decide (x9_4 < a0_0) = false := decide_eq_false c46
              clear c46
              have H' := Aside0.mk H
              clear H
              have hnb60 := NB200_201.out
              have hnc60 := NB201_200.out
              obtain ⟨hcz61_0, hcz61_1, hcz61_2, hfz61_0, hfz61_1, hfz61_2⟩ := Cy.z3 BK200.out
              go_wp2
              (try simp only [← hl201002_1, ← hl202002_1, ← hl201002_4, ← hl202002_4])
              go_roundg k4
              case measure => have := HK1.out; have := HJ6.out; have := HJ13.out; have := HK4.out; omega
              case rel => exact ⟨(wrap64 (x5_1 + 1)), (wrap64 (x6_1 + 1)), (x201002_4), (x202002_4), (by first | rfl | (simp; done) | (simp [*]; done)), (by first | rfl | (simp; done) | (simp [*]; done)), H', ⟨by have := HK1.out; have := HJ6.out; have := HJ13.out; have := HK4.out; omega⟩, ⟨by (try simp only [hl201002_1]); (try simp only [hl202002_1]); (try simp only [hl201002_4]); (try simp only [hl202002_4]); (with_reducible repeat (first | apply Kd.R_alloc | apply Kd.R_drewN | apply Kd.R_drew)); exact HO_201002.out⟩, ⟨by (try simp only [hl201002_1]); (try simp only [hl202002_1]); (try simp only [hl201002_4]); (try simp only [hl202002_4]); (with_reducible repeat (first | apply Kd.R_alloc | apply Kd.R_drewN | apply Kd.R_drew)); exact HO_202002.out⟩, ⟨by (try simp only [hl201002_1]); (try simp only [hl202002_1]); (try simp only [hl201002_4]); (try simp only [hl202002_4]); (with_reducible repeat (first | refine blk_drewN ?_ _ | refine blk_drew ?_ | refine blk_alloc ?_ _)); exact BK200.out⟩, ⟨by (try simp only [hl201002_1]); (try simp only [hl202002_1]); (try simp only [hl201002_4]); (try simp only [hl202002_4]); (with_reducible repeat (first | refine blk_drewN ?_ _ | refine blk_drew ?_ | refine blk_alloc ?_ _)); exact BK201.out⟩, ⟨by repeat (first | (with_reducible first | exact HK.out | apply Kept.alloc | apply Kept.drewN | apply Kept.drew | refine Kept.setCell ?_ (.inr GW200.out) _ | refine Kept.setCell ?_ (.inr GW201.out) _) | exact HK.out)⟩, ⟨Cz.w HB.out⟩⟩
          ·rw [if_neg c33] at H
           exact absurd H (by simp)
         ·rw [if_neg c32] at H
          exact absurd H (by simp)
     ·replace c13 := Bool.eq_false_iff.mpr c13
      subst c13
      have H1 : (some (x5_1, x201002_1, x202002_1)) = some (r1, r2, r3) := by rw [if_neg (show ¬ (false = true) by decide)] at H; exact H
      clear H
      have H := H1
      clear H1
      simp only [Option.some.injEq, Prod.mk.injEq] at H
      obtain ⟨rfl, rfl, rfl⟩ := H
      go_wp2
      go_ret
      exact ⟨by first | rfl | (simp [errW_none, errW_some] <;> rfl) | (simp [*, errW_none, errW_some] <;> rfl), (by first | exact (by (with_reducible repeat (first | apply Kd.R_alloc | apply Kd.R_drewN | apply Kd.R_drew)); exact Kd.R_mono HO_201002.out (fun _ hk => hk.1)) | (simp only [hl201002_1, hl202002_1]; exact (by (with_reducible repeat (first | apply Kd.R_alloc | apply Kd.R_drewN | apply Kd.R_drew)); exact Kd.R_mono HO_201002.out (fun _ hk => hk.1)))), (by first | exact (by (with_reducible repeat (first | apply Kd.R_alloc | apply Kd.R_drewN | apply Kd.R_drew)); exact Kd.R_mono HO_202002.out (fun _ hk => hk.1)) | (simp only [hl201002_1, hl202002_1]; exact (by (with_reducible repeat (first | apply Kd.R_alloc | apply Kd.R_drewN | apply Kd.R_drew)); exact Kd.R_mono HO_202002.out (fun _ hk => hk.1)))), Cz.w HB.out, by repeat (first | (with_reducible first | exact HK.out | apply Kept.alloc | apply Kept.drewN | apply Kept.drew | refine Kept.setCell ?_ (.inr GW200.out) _ | refine Kept.setCell ?_ (.inr GW201.out) _) | exact HK.out)⟩
def spec_l03Copy.f (a0_0 : Int) (a0_1 : Int) (l0_2 : List Int) : Option (Int × Int × List Int) := (some (([] : List Int) : List Int)).bind fun y214 => (if y214.length + l0_2.length < 17592186044416 then (some (a0_0, a0_1, (y214 ++ l0_2))) else (none))
set_option maxHeartbeats 8000000 in
set_option maxRecDepth 100000 in
theorem spec_l03Copy.calls (a0_0 : Int) (a0_1 : Int) (A0_2 : Option Addr) (c0_2 : Nat) (l0_2 : List Int) (r1 : Int) (r2 : Int) (r3 : List Int) (w : World) (hr0_2 : Kd.C (Kd.int .i64) w A0_2 l0_2.length l0_2) (hc0_2 : l0_2.length ≤ c0_2) (h : spec_l03Copy.f a0_0 a0_1 l0_2 = some (r1, r2, r3)) :
  Calls Try.prog 98 #[.agg #[.int .i64 a0_0, .int .i64 a0_1, .slice A0_2 l0_2.length c0_2]] w fun e w' => ∃ v2_ : Value, e = .returned (.agg #[.int .i64 r1, .int .i64 r2, v2_]) ∧ Kd.R (Kd.int .i64) 2 w' w.heap.size (fun _ => True) v2_ r3 ∧ Below w.heap.size w w' := by
 have hu27 := Try.underlying27
 have HR0_2 := Aside0.mk hr0_2
 have HC0_2 := Aside0.mk hc0_2
 clear hr0_2 hc0_2
 have HB := Aside0.mk (Below.refl w.heap.size w)
 have H : ((some (([] : List Int) : List Int)).bind fun y214 => (if y214.length + l0_2.length < 17592186044416 then (some (a0_0, a0_1, (y214 ++ l0_2))) else (none))) = some (r1, r2, r3) := h
 clear h
 obtain ⟨y214, hy214⟩ : ∃ y_ : List Int, y_ = (([] : List Int)) := ⟨_, rfl⟩
 replace H : (if y214.length + l0_2.length < 17592186044416 then (some (a0_0, a0_1, (y214 ++ l0_2))) else (none)) = some (r1, r2, r3) := by first | (rw [hy214]; with_reducible exact H) | (have H2_ := (Option.bind_some _ _).symm.trans H; rw [hy214]; with_reducible exact H2_) | (have H2_ := (Option.bind_some _ _).symm.trans H; with_reducible exact H2_) | with_reducible exact H | (rw [hy214]; exact H) | exact H
 have Ny214 := Aside0.mk hy214
 clear hy214
 by_cases c2 : y214.length + l0_2.length < 17592186044416
 ·rw [if_pos c2] at H
  have LMc2 := Aside0.mk c2
  clear c2
  obtain ⟨y217, hy217⟩ : ∃ y_ : List Int, y_ = (y214 ++ l0_2) := ⟨_, rfl⟩
  replace H : (some (a0_0, a0_1, y217)) = some (r1, r2, r3) := by first | (rw [hy217]; with_reducible exact H) | (have H2_ := (Option.bind_some _ _).symm.trans H; rw [hy217]; with_reducible exact H2_) | (have H2_ := (Option.bind_some _ _).symm.trans H; with_reducible exact H2_) | with_reducible exact H | (rw [hy217]; exact H) | exact H
  have Ny217 := Aside0.mk hy217
  clear hy217
  simp only [Option.some.injEq, Prod.mk.injEq] at H
  obtain ⟨rfl, rfl, rfl⟩ := H
  go_enter Try.func98, Try.ntmps98
  go_wp2_with (first | ((with_reducible refine gate_dst (N := 1) rfl ?_); refine box_event ?hg (N := 1) ?hd (cs := #[.int .i64 a0_0, .int .i64 a0_1, .slice A0_2 l0_2.length c0_2]) (t := 27) ?hr ?_; (case hd => rfl); (case hg => rfl); (case hr => first | (go_simp; done) | (go_simp; rfl)); intro gb212 hg w3 hbox hb; have n_ := Cy.a4 (below_step (Cz.w HB.out) hb) hbox (Cy.gw hg HB.out) (Cy.gw hg HB.out); clear HB; obtain ⟨HB, BK212, GW212, GE212⟩ := n_; clear hb hbox hg) | ((with_reducible refine gate_dst (N := 2) rfl ?_); refine box_event ?hg (N := 2) ?hd (cs := #[.int .i64 0, .int .i64 0, .slice none 0 0]) (t := 27) ?hr ?_; (case hd => rfl); (case hg => rfl); (case hr => first | (go_simp; done) | (go_simp; rfl)); intro gb213 hg w4 hbox hb; have n_ := Cy.a7 (blk_below (g := gb212) (o := .cells #[.int .i64 a0_0, .int .i64 a0_1, .slice A0_2 l0_2.length c0_2] 27 (0, 0)) (Cz.b BK212.out) hb) (below_step (Cz.w HB.out) hb) hbox (Cy.gw hg HB.out) (Cy.gw hg HB.out) (by rw [hg]; exact Nat.ne_of_lt (blk_lt (g := gb212) (o := .cells #[.int .i64 a0_0, .int .i64 a0_1, .slice A0_2 l0_2.length c0_2] 27 (0, 0)) (Cz.b BK212.out)) : gb212 ≠ gb213) (by rw [hg]; exact Nat.ne_of_gt (blk_lt (g := gb212) (o := .cells #[.int .i64 a0_0, .int .i64 a0_1, .slice A0_2 l0_2.length c0_2] 27 (0, 0)) (Cz.b BK212.out)) : gb213 ≠ gb212); clear BK212 HB; obtain ⟨BK212, HB, BK213, GW213, GE213, NB212_213, NB213_212⟩ := n_; clear hb hbox hg) | ((with_reducible refine gate_dst (N := 3) rfl ?_); refine Kd.R_lit (Kd.int .i64) _ 2 ?hg (N := 3) ?hd (xs := ([] : List Int)) (inner := []) (ok := fun _ => True) (okp := fun _ => True) ?hr ?hp (fun _ hk => hk) trivial (Below.refl _ _) (Nat.le_refl _) (by simp) ?_; (case hd => rfl); (case hg => rfl); (case hr => first | (go_simp; done) | (go_simp; rfl)); (case hp => exact (Reps.none _ _)); intro v215 w5 ho6 hb hg_ hnew_; clear hg_ hnew_; (first | rw [← Ny214.out] at ho6 | (simp only [Int.reduceToNat] at ho6; rw [← Ny214.out] at ho6)); have n_ := Cy.a4 (Kd.R_lower ho6 (below_size (Cz.w HB.out))) (blk_below (g := gb212) (o := .cells #[.int .i64 a0_0, .int .i64 a0_1, .slice A0_2 l0_2.length c0_2] 27 (0, 0)) (Cz.b BK212.out) hb) (blk_below (g := gb213) (o := .cells #[.int .i64 0, .int .i64 0, .slice none 0 0] 27 (0, 0)) (Cz.b BK213.out) hb) (below_step (Cz.w HB.out) hb); clear BK212 BK213 HB; obtain ⟨HO216, BK212, BK213, HB⟩ := n_; clear hb ho6; have hnb7 := NB212_213.out; have hnc7 := NB213_212.out; obtain ⟨hcz8_0, hcz8_1, hcz8_2, hfz8_0, hfz8_1, hfz8_2⟩ := Cy.z3 BK212.out) | ((with_reducible refine gate_builtin (b := .append) (xs := #[.tmp 3, .tmp 5]) rfl ?_); at_builtin; refine Kd.R_append_rows (Kd.int .i64) (w0 := w) w.heap.size rfl (.tmp 3) (.tmp 5) 22 2 (.int .i64 0) 8 rfl Try.underlying22 info2 rfl (by decide) (by omega) v215 y214 l0_2 _ _ _ (fun _ => True) (fun _ => False) rfl rfl ?aO ?aR (fun _ _ h => h) (fun _ h => h.elim) ?aF ?aB ?aS ?aL ?_; (case aR => exact Cz.c HR0_2.out HB.out); (case aB => exact (Cz.w HB.out)); (case aF => exact (fun _ _ => trivial)); (case aO => exact (Cz.r HO216.out)); (case aS => exact (below_size (Cz.w HB.out))); (case aL => have := LMc2.out; omega); intro v218 w9 ho hb hg hat; rw [← Ny217.out] at ho; have n_ := Cy.a4 (blk_grown (g := gb212) (o := .cells #[.int .i64 a0_0, .int .i64 a0_1, .slice A0_2 l0_2.length c0_2] 27 (0, 0)) (Cz.b BK212.out) hg (Kd.R_ne HO216.out BK212.out (by decide))) (blk_grown (g := gb213) (o := .cells #[.int .i64 0, .int .i64 0, .slice none 0 0] 27 (0, 0)) (Cz.b BK213.out) hg (Kd.R_ne HO216.out BK213.out (by decide))) hb ho; clear BK212 BK213 HB HO216; obtain ⟨BK212, BK213, HB, HO219⟩ := n_; clear ho hb hg hat; obtain ⟨Ao10, co10, eo10⟩ := Kd.R_slice HO219.out; subst eo10; obtain ⟨hcz11_0, hcz11_1, hcz11_2, hfz11_0, hfz11_1, hfz11_2⟩ := Cy.z3 BK212.out; obtain ⟨hcz12_0, hcz12_1, hcz12_2, hfz12_0, hfz12_1, hfz12_2⟩ := Cy.z3 BK213.out))
  refine bodyPost_ret (results_cell_row rfl _ _ gb213 27 #[.int .i64 a0_0, .int .i64 a0_1, .slice Ao10 y217.length co10] (0, 0) _ rfl (by (with_reducible repeat (first | refine blk_drewN ?_ _ | refine blk_drew ?_ | refine blk_alloc ?_ _)); refine blk_put (cs := #[.int .i64 a0_0, .int .i64 a0_1, .slice none 0 0]) ?_ 2 _ rfl; (with_reducible repeat (first | refine blk_drewN ?_ _ | refine blk_drew ?_ | refine blk_alloc ?_ _)); refine blk_put (cs := #[.int .i64 a0_0, .int .i64 0, .slice none 0 0]) ?_ 1 _ rfl; (with_reducible repeat (first | refine blk_drewN ?_ _ | refine blk_drew ?_ | refine blk_alloc ?_ _)); refine blk_put (cs := #[.int .i64 0, .int .i64 0, .slice none 0 0]) ?_ 0 _ rfl; (with_reducible repeat (first | refine blk_drewN ?_ _ | refine blk_drew ?_ | refine blk_alloc ?_ _)); refine blk_far ?_ NB213_212.out _; (with_reducible repeat (first | refine blk_drewN ?_ _ | refine blk_drew ?_ | refine blk_alloc ?_ _)); exact BK213.out) Try.underlying27 rfl (by kernel_rfl)) rfl ?_
  exact ⟨_, by first | rfl | (simp [errW_none, errW_some] <;> rfl) | (simp [*, errW_none, errW_some] <;> rfl), by (with_reducible repeat (first | apply Kd.R_alloc | apply Kd.R_drewN | apply Kd.R_drew)); exact Kd.R_mono (Kd.R_far (p := ⟨gb213, 2, none⟩) (Kd.R_far (p := ⟨gb213, 1, none⟩) (Kd.R_far (p := ⟨gb213, 0, none⟩) (Kd.R_far (p := ⟨gb212, 2, none⟩) (Kd.R_types (Kd.R_types HO219.out BK212.out (by decide)) BK213.out (by decide)) (fun _ hk => hk.1.2) (.slice Ao10 y217.length co10)) (fun _ hk => hk.2) (.int .i64 a0_0)) (fun _ hk => hk.2) (.int .i64 a0_1)) (fun _ hk => hk.2) (.slice Ao10 y217.length co10)) (fun _ hk => trivial), Cz.w HB.out⟩
 ·rw [if_neg c2] at H
  exact absurd H (by simp)
end Go.Proofs.Ytlololbhlnapkaa.XFnExactDecode

/- Plain functions of what the law reaches, proofs that the calls come to them, and the law's row: written by a program of this session (xprint.py) over the kit's print. No conditions beyond each lemma's own. -/
import Derived.Test.YtlololbhlnapkaaKxCy
import Derived.Test.YtlololbhlnapkaaKxXFnExactRepairx0
import Derived.Test.YtlololbhlnapkaaKxXFnExactRepairx1
import Derived.Test.YtlololbhlnapkaaKxXFnExactRepairx2
import Derived.Test.YtlololbhlnapkaaKxXFnExactRepairx3
import Derived.Test.YtlololbhlnapkaaKxXFnExactRepairx8
namespace Go.Proofs.Ytlololbhlnapkaa.XFnExactRepair
open Go.RowKit Go.Proofs.YtlololbhlnapkaaW.PrintWords Go.Proofs.YtlololbhlnapkaaW.PrintLast Go.Proofs.YtlololbhlnapkaaW.PrintMore
attribute [local go_sem] max2_int min2_int max_two min_two max_three min_three max_four min_four   -- for this text's walks alone
set_option linter.unusedVariables false
set_option linter.unusedSimpArgs false
mutual
def spec_Repair.j0 : Nat → Int → Int → List (S112) → Bool → Option (List ByteArray × Int)
  | 0, _, _, _, _ => none
  | k + 1, x0, x1, x2, x29 => if x29 = true then (some (([] : List ByteArray), 1)) else (spec_Repair.l0 k x0 x1 x2 (-1) 0)
def spec_Repair.l0 : Nat → Int → Int → List (S112) → Int → Int → Option (List ByteArray × Int)
  | 0, _, _, _, _, _ => none
  | k + 1, x0, x1, x2, x7, x8 => if x8 < (x2.length : Int) then (if 0 ≤ x8 then (if (rd_T112 x2 x8).f0 = true then (if (((rd_T112 x2 x8).f1).size : Int) > 20000 then (spec_Repair.j2 k x0 x1 x2 x7 x8 (((rd_T112 x2 x8).f1).size : Int) true) else (if x7 ≥ 0 then (spec_Repair.j2 k x0 x1 x2 x7 x8 (((rd_T112 x2 x8).f1).size : Int) ((((rd_T112 x2 x8).f1).size : Int) != x7)) else (spec_Repair.j2 k x0 x1 x2 x7 x8 (((rd_T112 x2 x8).f1).size : Int) false))) else (spec_Repair.j2 k x0 x1 x2 x7 x8 (((rd_T112 x2 x8).f1).size : Int) false)) else (none)) else ((spec_l04Data.f k x0 x1 x2).bind fun bt309 => (if bt309.2 = true then ((spec_Cauchy.f k x0 x1).bind fun bt313 => ((spec_l04Times.f k bt313.1 bt313.2.1 bt313.2.2.1 bt309.1).bind fun t319 => (spec_Repair.l1 k x2 t319 0))) else (some (([] : List ByteArray), 10))))
def spec_Repair.j2 : Nat → Int → Int → List (S112) → Int → Int → Int → Bool → Option (List ByteArray × Int)
  | 0, _, _, _, _, _, _, _ => none
  | k + 1, x0, x1, x2, x7, x8, x9, x60 => if x60 = true then (some (([] : List ByteArray), 2)) else (if 0 ≤ x8 then (if x8 < (x2.length : Int) then (if (rd_T112 x2 x8).f0 = true then (spec_Repair.l0 k x0 x1 x2 x9 (wrap64 (x8 + 1))) else (spec_Repair.l0 k x0 x1 x2 x7 (wrap64 (x8 + 1)))) else (none)) else (none))
def spec_Repair.l1 : Nat → List (S112) → List ByteArray → Int → Option (List ByteArray × Int)
  | 0, _, _, _ => none
  | k + 1, x2, x12, x13 => if x13 < (x2.length : Int) then (if 0 ≤ x13 then (if (rd_T112 x2 x13).f0 = true then (if x13 < (x12.length : Int) then (spec_Repair.l1 k x2 (x12.set (x13 : Int).toNat ((rd_T112 x2 x13).f1)) (wrap64 (x13 + 1))) else (none)) else (spec_Repair.l1 k x2 x12 (wrap64 (x13 + 1)))) else (none)) else (some (x12, 0))
end
def spec_Repair.f (k : Nat) (a0 : Int) (a1 : Int) (l2 : List (S112)) : Option (List ByteArray × Int) := if (l2.length : Int) > 400 then (some (([] : List ByteArray), 2)) else ((spec_CodeRight.f a0 a1).bind fun t305 => (if t305 = true then (spec_Repair.j0 k a0 a1 l2 ((l2.length : Int) != (wrap64 (a0 + a1)))) else (spec_Repair.j0 k a0 a1 l2 true)))
set_option maxHeartbeats 8000000 in
set_option maxRecDepth 100000 in
theorem spec_Repair.calls (k : Nat) (a0 : Int) (a1 : Int) (A2 : Option Addr) (c2 : Nat) (l2 : List (S112)) (r1 : List ByteArray) (r2 : Int) (w : World) (hr2 : Kd.C k112 w A2 l2.length l2) (hc2 : l2.length ≤ c2) (h : spec_Repair.f k a0 a1 l2 = some (r1, r2)) :
  Calls Try.prog 56 #[.int .i64 a0, .int .i64 a1, .slice A2 l2.length c2] w fun e w' => ∃ v0_ : Value, e = .returned (.agg #[v0_, .int .i64 r2]) ∧ Kd.R Kd.string 9 w' w.heap.size (fun _ => True) v0_ r1 ∧ Below w.heap.size w w' := by
 have hu61 := Try.underlying61
 have HR2 := Aside0.mk hr2
 have HC2 := Aside0.mk hc2
 clear hr2 hc2
 have HB := Aside0.mk (Below.refl w.heap.size w)
 have H : (if (l2.length : Int) > 400 then (some (([] : List ByteArray), 2)) else ((spec_CodeRight.f a0 a1).bind fun t305 => (if t305 = true then (spec_Repair.j0 k a0 a1 l2 ((l2.length : Int) != (wrap64 (a0 + a1)))) else (spec_Repair.j0 k a0 a1 l2 true)))) = some (r1, r2) := h
 clear h
 by_cases c4 : (l2.length : Int) > 400
 ·rw [if_pos c4] at H
  have c4b0 : decide (400 < (l2.length : Int)) = true := decide_eq_true c4
  have c4b1 : decide (400 < l2.length) = true := decide_eq_true (by omega)
  clear c4
  simp only [Option.some.injEq, Prod.mk.injEq] at H
  obtain ⟨rfl, rfl⟩ := H
  go_enter Try.func56, Try.ntmps56
  go_wp2_with (first | ((with_reducible refine gate_dst (N := 6) rfl ?_); (try (refine gate_guard (by rfl) ?_; dsimp only)); refine box_event ?hg (N := 6) ?hd (cs := #[.slice none 0 0, .int .i64 0]) (t := 61) ?hr ?_; (case hd => rfl); (case hg => rfl); (case hr => first | (go_simp; done) | (go_simp; rfl)); intro gb304 hg w5 hbox hb; have n_ := Cy.a4 (below_step (Cz.w HB.out) hb) hbox (Cy.gw hg HB.out) (Cy.gw hg HB.out); clear HB; obtain ⟨HB, BK304, GW304, GE304⟩ := n_; clear hb hbox hg; obtain ⟨hcz6_0, hcz6_1, hfz6_0, hfz6_1⟩ := Cy.z2 BK304.out))
  refine bodyPost_ret (results_cell_row rfl _ _ gb304 61 #[.slice none 0 0, .int .i64 2] (0, 0) _ rfl (by (with_reducible repeat (first | refine blk_drewN ?_ _ | refine blk_drew ?_ | refine blk_alloc ?_ _)); refine blk_put (cs := #[.slice none 0 0, .int .i64 0]) ?_ 1 _ rfl; (with_reducible repeat (first | refine blk_drewN ?_ _ | refine blk_drew ?_ | refine blk_alloc ?_ _)); refine blk_put (cs := #[.slice none 0 0, .int .i64 0]) ?_ 0 _ rfl; (with_reducible repeat (first | refine blk_drewN ?_ _ | refine blk_drew ?_ | refine blk_alloc ?_ _)); exact BK304.out) Try.underlying61 rfl (by kernel_rfl)) rfl ?_
  exact ⟨_, by first | rfl | (simp [errW_none, errW_some] <;> rfl) | (simp [*, errW_none, errW_some] <;> rfl), by first | exact Kd.R_nil _ _ _ _ _ | exact Kd.N_nil _ _ _ _ _ | exact Kd.V_nil _ _ _ _ _ | exact Kd.Q_nil _ _ _ _ _ | exact Kd.S_nil _ _ _ _ _, Cz.w HB.out⟩
 ·rw [if_neg c4] at H
  have c4b0 : decide (400 < (l2.length : Int)) = false := decide_eq_false c4
  have c4b1 : decide (400 < l2.length) = false := decide_eq_false (by omega)
  clear c4
  have HC7 := Aside0.mk H
  clear H
  go_enter Try.func56, Try.ntmps56
  go_upto_region 3 with (first | ((with_reducible refine gate_dst (N := 6) rfl ?_); (try (refine gate_guard (by rfl) ?_; dsimp only)); refine box_event ?hg (N := 6) ?hd (cs := #[.slice none 0 0, .int .i64 0]) (t := 61) ?hr ?_; (case hd => rfl); (case hg => rfl); (case hr => first | (go_simp; done) | (go_simp; rfl)); intro gb304 hg w8 hbox hb; have n_ := Cy.a4 (below_step (Cz.w HB.out) hb) hbox (Cy.gw hg HB.out) (Cy.gw hg HB.out); clear HB; obtain ⟨HB, BK304, GW304, GE304⟩ := n_; clear hb hbox hg))
  (try simp only [Act.put, List.setIfInBounds_toArray, List.set_cons_zero, List.set_cons_succ])
  go_cut [29] (fun v29 wc => ∃ (kq : Nat) (x29_6 : Bool), v29 = .bool x29_6 ∧ Aside0 (spec_Repair.j0 kq a0 a1 l2 x29_6 = some (r1, r2)) ∧ Aside0 (kq ≤ k) ∧ Aside0 (wc.heap[gb304]? = some (.cells #[(.slice none 0 0), .int .i64 0] 61 (0, 0))) ∧ Aside0 (Below w.heap.size w wc))
  case first =>
   have H := HC7.out
   clear HC7
   replace H := Option.bind_eq_some_iff.mp H
   obtain ⟨t305, A90, H⟩ := H
   replace H : (if t305 = true then (spec_Repair.j0 k a0 a1 l2 ((l2.length : Int) != (wrap64 (a0 + a1)))) else (spec_Repair.j0 k a0 a1 l2 true)) = some (r1, r2) := H
   have A9 := Aside0.mk A90
   clear A90
   by_cases c10 : t305 = true
   ·subst c10
    have H1 : (spec_Repair.j0 k a0 a1 l2 ((l2.length : Int) != (wrap64 (a0 + a1)))) = some (r1, r2) := by rw [if_pos rfl] at H; exact H
    clear H
    have H := H1
    clear H1
    have H' := Aside0.mk H
    clear H
    go_wp2_with (first | ((with_reducible refine gate_callee (f := 22) rfl ?_); refine goesL_ (some 20) rfl rfl Try.func22 (by kernel_rfl) rfl #[.int .i64 a0, .int .i64 a1] rfl (by (try simp only [List.map_toArray, List.map_cons, List.map_nil]); first | done | rfl | (simp only [List.length_drop, List.length_take]; rfl)) ?_; (with_reducible refine (spec_CodeRight.calls a0 a1 true _ A9.out).mono ?_); rintro e w' ⟨rfl, ⟨nd, rfl⟩⟩; refine ⟨_, rfl, ?_⟩))
    go_meet
    case rel => exact ⟨_, (((l2.length : Int) != (wrap64 (a0 + a1)))), (by first | rfl | (simp; done) | (simp [*]; done)), H', ⟨by first | omega | exact Nat.le_refl _⟩, ⟨Cz.b BK304.out⟩, ⟨Cz.w HB.out⟩⟩
   ·replace c10 := Bool.eq_false_iff.mpr c10
    subst c10
    have H1 : (spec_Repair.j0 k a0 a1 l2 true) = some (r1, r2) := by rw [if_neg (show ¬ (false = true) by decide)] at H; exact H
    clear H
    have H := H1
    clear H1
    have H' := Aside0.mk H
    clear H
    go_wp2_with (first | ((with_reducible refine gate_callee (f := 22) rfl ?_); refine goesL_ (some 20) rfl rfl Try.func22 (by kernel_rfl) rfl #[.int .i64 a0, .int .i64 a1] rfl (by (try simp only [List.map_toArray, List.map_cons, List.map_nil]); first | done | rfl | (simp only [List.length_drop, List.length_take]; rfl)) ?_; (with_reducible refine (spec_CodeRight.calls a0 a1 false _ A9.out).mono ?_); rintro e w' ⟨rfl, ⟨nd, rfl⟩⟩; refine ⟨_, rfl, ?_⟩))
    go_meet
    case rel => exact ⟨_, (true), (by first | rfl | (simp; done) | (simp [*]; done)), H', ⟨by first | omega | exact Nat.le_refl _⟩, ⟨Cz.b BK304.out⟩, ⟨Cz.w HB.out⟩⟩
  case rest =>
   clear HC7
   try clear c1
   try clear c2
   try clear p2
   try clear c4
   try clear c4b0
   try clear c4b1
   try clear c5
   try clear p6
   try clear c10
   try clear hcz6_0
   try clear hcz6_1
   try clear hfz6_0
   try clear hfz6_1
   obtain ⟨kq, x29_6, rfl, HA, HJ6, BK304, HB⟩ := hcut
   cases kq with
   | zero => exact absurd HA.out (by simp [spec_Repair.j0])
   | succ kj6 =>
    have H := HA.out
    clear HA
    simp only [spec_Repair.j0] at H
    by_cases c11 : x29_6 = true
    ·subst c11
     have H1 : (some (([] : List ByteArray), 1)) = some (r1, r2) := by rw [if_pos rfl] at H; exact H
     clear H
     have H := H1
     clear H1
     simp only [Option.some.injEq, Prod.mk.injEq] at H
     obtain ⟨rfl, rfl⟩ := H
     obtain ⟨hcz12_0, hcz12_1, hfz12_0, hfz12_1⟩ := Cy.z2 BK304.out
     go_wp2
     refine bodyPost_ret (results_cell_row rfl _ _ gb304 61 #[.slice none 0 0, .int .i64 1] (0, 0) _ rfl (by (with_reducible repeat (first | refine blk_drewN ?_ _ | refine blk_drew ?_ | refine blk_alloc ?_ _)); refine blk_put (cs := #[.slice none 0 0, .int .i64 0]) ?_ 1 _ rfl; (with_reducible repeat (first | refine blk_drewN ?_ _ | refine blk_drew ?_ | refine blk_alloc ?_ _)); refine blk_put (cs := #[.slice none 0 0, .int .i64 0]) ?_ 0 _ rfl; (with_reducible repeat (first | refine blk_drewN ?_ _ | refine blk_drew ?_ | refine blk_alloc ?_ _)); exact BK304.out) Try.underlying61 rfl (by kernel_rfl)) rfl ?_
     exact ⟨_, by first | rfl | (simp [errW_none, errW_some] <;> rfl) | (simp [*, errW_none, errW_some] <;> rfl), by first | exact Kd.R_nil _ _ _ _ _ | exact Kd.N_nil _ _ _ _ _ | exact Kd.V_nil _ _ _ _ _ | exact Kd.Q_nil _ _ _ _ _ | exact Kd.S_nil _ _ _ _ _, Cz.w HB.out⟩
    ·replace c11 := Bool.eq_false_iff.mpr c11
     subst c11
     have H1 : (spec_Repair.l0 kj6 a0 a1 l2 (-1) 0) = some (r1, r2) := by rw [if_neg (show ¬ (false = true) by decide)] at H; exact H
     clear H
     have H := H1
     clear H1
     have H' := Aside0.mk H
     clear H
     go_wp2
     go_loopg [7, 8] kj6 (fun kq v7 v8 w' => ∃ (x7_2 : Int) (x8_2 : Int) (x305001_2 : Int), v7 = .int .i64 x7_2 ∧ v8 = .int .i64 x8_2 ∧ Aside0 (spec_Repair.l0 kq a0 a1 l2 x7_2 x8_2 = some (r1, r2)) ∧ Aside0 (kq ≤ kj6) ∧ Aside0 (w'.heap[gb304]? = some (.cells #[(.slice none 0 0), .int .i64 x305001_2] 61 (0, 0))) ∧ Aside0 (Below w.heap.size w w'))
     case atStart => exact ⟨((-1)), (0), (0), (by first | rfl | (simp; done) | (simp [*]; done)), (by first | rfl | (simp; done) | (simp [*]; done)), H', ⟨Nat.le_refl _⟩, ⟨Cz.b BK304.out⟩, ⟨Cz.w HB.out⟩⟩
     case round =>
      clear H'
      try clear c1
      try clear c2
      try clear p2
      try clear c4
      try clear c4b0
      try clear c4b1
      try clear c5
      try clear p6
      try clear c10
      try clear c11
      try clear hcz12_0
      try clear hcz12_1
      try clear hcz6_0
      try clear hcz6_1
      try clear hfz12_0
      try clear hfz12_1
      try clear hfz6_0
      try clear hfz6_1
      try clear p2
      try clear p6
      obtain ⟨x7_2, x8_2, x305001_2, rfl, rfl, HA, HK2, BK304, HB⟩ := hrel
      cases gk with
      | zero => exact absurd HA.out (by simp [spec_Repair.l0])
      | succ k2 =>
       have H := HA.out
       clear HA
       simp only [spec_Repair.l0] at H
       by_cases c13 : x8_2 < (l2.length : Int)
       ·rw [if_pos c13] at H
        have c13b0 : decide (x8_2 < (l2.length : Int)) = true := decide_eq_true c13
        clear c13
        by_cases c14 : 0 ≤ x8_2
        ·rw [if_pos c14] at H
         have c14b0 : decide (0 ≤ x8_2) = true := decide_eq_true c14
         clear c14
         have HC15 := Aside0.mk H
         clear H
         have p306 : 0 ≤ (x8_2 : Int) := of_decide_eq_true (by first | (with_reducible assumption) | assumption)
         have q306 : x8_2 < (l2.length : Int) := of_decide_eq_true (by first | (with_reducible assumption) | assumption)
         obtain ⟨ad306, e306, hx306_0, hx306_1⟩ := at_T112 HR2.out x8_2 p306 q306
         cases e306
         replace hx306_0 := (HB.out.cell (World.block_lt_of_cell? w _ hx306_0)).trans hx306_0
         replace hx306_1 := (HB.out.cell (World.block_lt_of_cell? w _ hx306_1)).trans hx306_1
         replace p306 := eq_true p306
         replace q306 := eq_true q306
         go_upto_region 10 with (fail)
         go_cut [60] (fun v60 wc => ∃ (kq : Nat) (x60_14 : Bool), v60 = .bool x60_14 ∧ Aside0 (spec_Repair.j2 kq a0 a1 l2 x7_2 x8_2 (((rd_T112 l2 x8_2).f1).size : Int) x60_14 = some (r1, r2)) ∧ Aside0 (kq ≤ k2) ∧ Aside0 (wc.heap[gb304]? = some (.cells #[(.slice none 0 0), .int .i64 x305001_2] 61 (0, 0))) ∧ Aside0 (Below w.heap.size w wc))
         case first =>
          have H := HC15.out
          clear HC15
          obtain ⟨bq16, hbq16⟩ : ∃ b_ : Bool, b_ = ((rd_T112 l2 x8_2).f0) := ⟨_, rfl⟩
          replace H : (if bq16 = true then (if (((rd_T112 l2 x8_2).f1).size : Int) > 20000 then (spec_Repair.j2 k2 a0 a1 l2 x7_2 x8_2 (((rd_T112 l2 x8_2).f1).size : Int) true) else (if x7_2 ≥ 0 then (spec_Repair.j2 k2 a0 a1 l2 x7_2 x8_2 (((rd_T112 l2 x8_2).f1).size : Int) ((((rd_T112 l2 x8_2).f1).size : Int) != x7_2)) else (spec_Repair.j2 k2 a0 a1 l2 x7_2 x8_2 (((rd_T112 l2 x8_2).f1).size : Int) false))) else (spec_Repair.j2 k2 a0 a1 l2 x7_2 x8_2 (((rd_T112 l2 x8_2).f1).size : Int) false)) = some (r1, r2) := by rw [← hbq16] at H; exact H
          have Nbq16 := Aside0.mk hbq16
          clear hbq16
          (try rw [← Nbq16.out])
          by_cases c17 : bq16 = true
          ·subst c17
           have H1 : (if (((rd_T112 l2 x8_2).f1).size : Int) > 20000 then (spec_Repair.j2 k2 a0 a1 l2 x7_2 x8_2 (((rd_T112 l2 x8_2).f1).size : Int) true) else (if x7_2 ≥ 0 then (spec_Repair.j2 k2 a0 a1 l2 x7_2 x8_2 (((rd_T112 l2 x8_2).f1).size : Int) ((((rd_T112 l2 x8_2).f1).size : Int) != x7_2)) else (spec_Repair.j2 k2 a0 a1 l2 x7_2 x8_2 (((rd_T112 l2 x8_2).f1).size : Int) false))) = some (r1, r2) := by rw [if_pos rfl] at H; exact H
           clear H
           have H := H1
           clear H1
           by_cases c18 : (((rd_T112 l2 x8_2).f1).size : Int) > 20000
           ·rw [if_pos c18] at H
            have c18b0 : decide (20000 < (((rd_T112 l2 x8_2).f1).size : Int)) = true := decide_eq_true c18
            have c18b1 : decide (20000 < ((rd_T112 l2 x8_2).f1).size) = true := decide_eq_true (by omega)
            clear c18
            have H' := Aside0.mk H
            clear H
            have p307 : 0 ≤ (x8_2 : Int) := of_decide_eq_true (by first | (with_reducible assumption) | assumption)
            have q307 : x8_2 < (l2.length : Int) := of_decide_eq_true (by first | (with_reducible assumption) | assumption)
            obtain ⟨ad307, e307, hx307_0, hx307_1⟩ := at_T112 HR2.out x8_2 p307 q307
            (try rw [← Nbq16.out] at hx307_0)
            (try rw [← Nbq16.out] at hx306_0)
            obtain rfl : ad306 = ad307 := (by injection e307)
            replace hx307_0 := (HB.out.cell (World.block_lt_of_cell? w _ hx307_0)).trans hx307_0
            replace hx307_1 := (HB.out.cell (World.block_lt_of_cell? w _ hx307_1)).trans hx307_1
            replace p307 := eq_true p307
            replace q307 := eq_true q307
            go_wp2
            go_meet
            case rel => exact ⟨_, (true), (by first | rfl | (simp; done) | (simp [*]; done)), H', ⟨by have := HJ6.out; have := HK2.out; first | omega | exact Nat.le_refl _⟩, ⟨Cz.b BK304.out⟩, ⟨Cz.w HB.out⟩⟩
           ·rw [if_neg c18] at H
            have c18b0 : decide (20000 < (((rd_T112 l2 x8_2).f1).size : Int)) = false := decide_eq_false c18
            have c18b1 : decide (20000 < ((rd_T112 l2 x8_2).f1).size) = false := decide_eq_false (by omega)
            clear c18
            by_cases c19 : x7_2 ≥ 0
            ·rw [if_pos c19] at H
             have c19b0 : decide (0 ≤ x7_2) = true := decide_eq_true c19
             clear c19
             have H' := Aside0.mk H
             clear H
             have p307 : 0 ≤ (x8_2 : Int) := of_decide_eq_true (by first | (with_reducible assumption) | assumption)
             have q307 : x8_2 < (l2.length : Int) := of_decide_eq_true (by first | (with_reducible assumption) | assumption)
             obtain ⟨ad307, e307, hx307_0, hx307_1⟩ := at_T112 HR2.out x8_2 p307 q307
             (try rw [← Nbq16.out] at hx307_0)
             (try rw [← Nbq16.out] at hx306_0)
             obtain rfl : ad306 = ad307 := (by injection e307)
             replace hx307_0 := (HB.out.cell (World.block_lt_of_cell? w _ hx307_0)).trans hx307_0
             replace hx307_1 := (HB.out.cell (World.block_lt_of_cell? w _ hx307_1)).trans hx307_1
             replace p307 := eq_true p307
             replace q307 := eq_true q307
             go_wp2
             go_meet
             case rel => exact ⟨_, (((((rd_T112 l2 x8_2).f1).size : Int) != x7_2)), (by first | rfl | (simp; done) | (simp [*]; done)), H', ⟨by have := HJ6.out; have := HK2.out; first | omega | exact Nat.le_refl _⟩, ⟨Cz.b BK304.out⟩, ⟨Cz.w HB.out⟩⟩
            ·rw [if_neg c19] at H
             have c19b0 : decide (0 ≤ x7_2) = false := decide_eq_false c19
             clear c19
             have H' := Aside0.mk H
             clear H
             have p307 : 0 ≤ (x8_2 : Int) := of_decide_eq_true (by first | (with_reducible assumption) | assumption)
             have q307 : x8_2 < (l2.length : Int) := of_decide_eq_true (by first | (with_reducible assumption) | assumption)
             obtain ⟨ad307, e307, hx307_0, hx307_1⟩ := at_T112 HR2.out x8_2 p307 q307
             (try rw [← Nbq16.out] at hx307_0)
             (try rw [← Nbq16.out] at hx306_0)
             obtain rfl : ad306 = ad307 := (by injection e307)
             replace hx307_0 := (HB.out.cell (World.block_lt_of_cell? w _ hx307_0)).trans hx307_0
             replace hx307_1 := (HB.out.cell (World.block_lt_of_cell? w _ hx307_1)).trans hx307_1
             replace p307 := eq_true p307
             replace q307 := eq_true q307
             go_wp2
             go_meet
             case rel => exact ⟨_, (false), (by first | rfl | (simp; done) | (simp [*]; done)), H', ⟨by have := HJ6.out; have := HK2.out; first | omega | exact Nat.le_refl _⟩, ⟨Cz.b BK304.out⟩, ⟨Cz.w HB.out⟩⟩
          ·replace c17 := Bool.eq_false_iff.mpr c17
           subst c17
           have H1 : (spec_Repair.j2 k2 a0 a1 l2 x7_2 x8_2 (((rd_T112 l2 x8_2).f1).size : Int) false) = some (r1, r2) := by rw [if_neg (show ¬ (false = true) by decide)] at H; exact H
           clear H
           have H := H1
           clear H1
           have H' := Aside0.mk H
           clear H
           have p307 : 0 ≤ (x8_2 : Int) := of_decide_eq_true (by first | (with_reducible assumption) | assumption)
           have q307 : x8_2 < (l2.length : Int) := of_decide_eq_true (by first | (with_reducible assumption) | assumption)
           obtain ⟨ad307, e307, hx307_0, hx307_1⟩ := at_T112 HR2.out x8_2 p307 q307
           (try rw [← Nbq16.out] at hx307_0)
           (try rw [← Nbq16.out] at hx306_0)
           obtain rfl : ad306 = ad307 := (by injection e307)
           replace hx307_0 := (HB.out.cell (World.block_lt_of_cell? w _ hx307_0)).trans hx307_0
           replace hx307_1 := (HB.out.cell (World.block_lt_of_cell? w _ hx307_1)).trans hx307_1
           replace p307 := eq_true p307
           replace q307 := eq_true q307
           go_wp2
           go_meet
           case rel => exact ⟨_, (false), (by first | rfl | (simp; done) | (simp [*]; done)), H', ⟨by have := HJ6.out; have := HK2.out; first | omega | exact Nat.le_refl _⟩, ⟨Cz.b BK304.out⟩, ⟨Cz.w HB.out⟩⟩
         case rest =>
          clear HC15
          try clear c1
          try clear q1
          try clear c2
          try clear p2
          try clear p3
          try clear q3
          try clear hx3
          try clear c4
          try clear c4b0
          try clear c4b1
          try clear c5
          try clear p6
          try clear c10
          try clear c11
          try clear c13
          try clear c13b0
          try clear c14
          try clear c14b0
          try clear q16
          try clear c17
          try clear c18
          try clear c18b0
          try clear c18b1
          try clear c19
          try clear c19b0
          try clear hcz12_0
          try clear hcz12_1
          try clear hcz6_0
          try clear hcz6_1
          try clear hfz12_0
          try clear hfz12_1
          try clear hfz6_0
          try clear hfz6_1
          try clear hx306_0
          try clear hx306_1
          try clear hx307_0
          try clear hx307_1
          try clear p2
          try clear p306
          try clear p307
          try clear p6
          try clear q306
          try clear q307
          obtain ⟨kq, x60_14, rfl, HA, HJ14, BK304, HB⟩ := hcut
          cases kq with
          | zero => exact absurd HA.out (by simp [spec_Repair.j2])
          | succ kj14 =>
           have H := HA.out
           clear HA
           simp only [spec_Repair.j2] at H
           by_cases c20 : x60_14 = true
           ·subst c20
            have H1 : (some (([] : List ByteArray), 2)) = some (r1, r2) := by rw [if_pos rfl] at H; exact H
            clear H
            have H := H1
            clear H1
            simp only [Option.some.injEq, Prod.mk.injEq] at H
            obtain ⟨rfl, rfl⟩ := H
            obtain ⟨hcz21_0, hcz21_1, hfz21_0, hfz21_1⟩ := Cy.z2 BK304.out
            go_wp2
            refine bodyPost_ret (results_cell_row rfl _ _ gb304 61 #[.slice none 0 0, .int .i64 2] (0, 0) _ rfl (by (with_reducible repeat (first | refine blk_drewN ?_ _ | refine blk_drew ?_ | refine blk_alloc ?_ _)); refine blk_put (cs := #[.slice none 0 0, .int .i64 x305001_2]) ?_ 1 _ rfl; (with_reducible repeat (first | refine blk_drewN ?_ _ | refine blk_drew ?_ | refine blk_alloc ?_ _)); refine blk_put (cs := #[.slice none 0 0, .int .i64 x305001_2]) ?_ 0 _ rfl; (with_reducible repeat (first | refine blk_drewN ?_ _ | refine blk_drew ?_ | refine blk_alloc ?_ _)); exact BK304.out) Try.underlying61 rfl (by kernel_rfl)) rfl ?_
            exact ⟨_, by first | rfl | (simp [errW_none, errW_some] <;> rfl) | (simp [*, errW_none, errW_some] <;> rfl), by first | exact Kd.R_nil _ _ _ _ _ | exact Kd.N_nil _ _ _ _ _ | exact Kd.V_nil _ _ _ _ _ | exact Kd.Q_nil _ _ _ _ _ | exact Kd.S_nil _ _ _ _ _, Cz.w HB.out⟩
           ·replace c20 := Bool.eq_false_iff.mpr c20
            subst c20
            have H1 : (if 0 ≤ x8_2 then (if x8_2 < (l2.length : Int) then (if (rd_T112 l2 x8_2).f0 = true then (spec_Repair.l0 kj14 a0 a1 l2 (((rd_T112 l2 x8_2).f1).size : Int) (wrap64 (x8_2 + 1))) else (spec_Repair.l0 kj14 a0 a1 l2 x7_2 (wrap64 (x8_2 + 1)))) else (none)) else (none)) = some (r1, r2) := by rw [if_neg (show ¬ (false = true) by decide)] at H; exact H
            clear H
            have H := H1
            clear H1
            by_cases c22 : 0 ≤ x8_2
            ·rw [if_pos c22] at H
             have c22b0 : decide (0 ≤ x8_2) = true := decide_eq_true c22
             clear c22
             by_cases c23 : x8_2 < (l2.length : Int)
             ·rw [if_pos c23] at H
              have c23b0 : decide (x8_2 < (l2.length : Int)) = true := decide_eq_true c23
              clear c23
              obtain ⟨bq24, hbq24⟩ : ∃ b_ : Bool, b_ = ((rd_T112 l2 x8_2).f0) := ⟨_, rfl⟩
              replace H : (if bq24 = true then (spec_Repair.l0 kj14 a0 a1 l2 (((rd_T112 l2 x8_2).f1).size : Int) (wrap64 (x8_2 + 1))) else (spec_Repair.l0 kj14 a0 a1 l2 x7_2 (wrap64 (x8_2 + 1)))) = some (r1, r2) := by rw [← hbq24] at H; exact H
              have Nbq24 := Aside0.mk hbq24
              clear hbq24
              by_cases c25 : bq24 = true
              ·subst c25
               have H1 : (spec_Repair.l0 kj14 a0 a1 l2 (((rd_T112 l2 x8_2).f1).size : Int) (wrap64 (x8_2 + 1))) = some (r1, r2) := by rw [if_pos rfl] at H; exact H
               clear H
               have H := H1
               clear H1
               have H' := Aside0.mk H
               clear H
               have p308 : 0 ≤ (x8_2 : Int) := of_decide_eq_true (by first | (with_reducible assumption) | assumption)
               have q308 : x8_2 < (l2.length : Int) := of_decide_eq_true (by first | (with_reducible assumption) | assumption)
               obtain ⟨ad308, e308, hx308_0, hx308_1⟩ := at_T112 HR2.out x8_2 p308 q308
               (try rw [← Nbq24.out] at hx308_0)
               (try rw [← Nbq24.out] at hx307_0)
               obtain rfl : ad306 = ad308 := (by injection e308)
               replace hx308_0 := (HB.out.cell (World.block_lt_of_cell? w _ hx308_0)).trans hx308_0
               replace hx308_1 := (HB.out.cell (World.block_lt_of_cell? w _ hx308_1)).trans hx308_1
               replace p308 := eq_true p308
               replace q308 := eq_true q308
               go_wp2
               go_roundg kj14
               case measure => have := HJ6.out; have := HK2.out; have := HJ14.out; omega
               case rel => exact ⟨((((rd_T112 l2 x8_2).f1).size : Int)), (wrap64 (x8_2 + 1)), (x305001_2), (by first | rfl | (simp; done) | (simp [*]; done)), (by first | rfl | (simp; done) | (simp [*]; done)), H', ⟨by have := HJ6.out; have := HK2.out; have := HJ14.out; omega⟩, ⟨Cz.b BK304.out⟩, ⟨Cz.w HB.out⟩⟩
              ·replace c25 := Bool.eq_false_iff.mpr c25
               subst c25
               have H1 : (spec_Repair.l0 kj14 a0 a1 l2 x7_2 (wrap64 (x8_2 + 1))) = some (r1, r2) := by rw [if_neg (show ¬ (false = true) by decide)] at H; exact H
               clear H
               have H := H1
               clear H1
               have H' := Aside0.mk H
               clear H
               have p308 : 0 ≤ (x8_2 : Int) := of_decide_eq_true (by first | (with_reducible assumption) | assumption)
               have q308 : x8_2 < (l2.length : Int) := of_decide_eq_true (by first | (with_reducible assumption) | assumption)
               obtain ⟨ad308, e308, hx308_0, hx308_1⟩ := at_T112 HR2.out x8_2 p308 q308
               (try rw [← Nbq24.out] at hx308_0)
               (try rw [← Nbq24.out] at hx307_0)
               obtain rfl : ad306 = ad308 := (by injection e308)
               replace hx308_0 := (HB.out.cell (World.block_lt_of_cell? w _ hx308_0)).trans hx308_0
               replace hx308_1 := (HB.out.cell (World.block_lt_of_cell? w _ hx308_1)).trans hx308_1
               replace p308 := eq_true p308
               replace q308 := eq_true q308
               go_wp2
               go_roundg kj14
               case measure => have := HJ6.out; have := HK2.out; have := HJ14.out; omega
               case rel => exact ⟨(x7_2), (wrap64 (x8_2 + 1)), (x305001_2), (by first | rfl | (simp; done) | (simp [*]; done)), (by first | rfl | (simp; done) | (simp [*]; done)), H', ⟨by have := HJ6.out; have := HK2.out; have := HJ14.out; omega⟩, ⟨Cz.b BK304.out⟩, ⟨Cz.w HB.out⟩⟩
             ·rw [if_neg c23] at H
              exact absurd H (by simp)
            ·rw [if_neg c22] at H
             exact absurd H (by simp)
        ·rw [if_neg c14] at H
         exact absurd H (by simp)
       ·rw [if_neg c13] at H
        have c13b0 : decide (x8_2 < (l2.length : Int)) = false := decide_eq_false c13
        clear c13
        replace H := Option.bind_eq_some_iff.mp H
        obtain ⟨⟨t309, t310⟩, A260, H⟩ := H
        replace H : (if t310 = true then ((spec_Cauchy.f k2 a0 a1).bind fun bt313 => ((spec_l04Times.f k2 bt313.1 bt313.2.1 bt313.2.2.1 t309).bind fun t319 => (spec_Repair.l1 k2 l2 t319 0))) else (some (([] : List ByteArray), 10))) = some (r1, r2) := H
        have A26 := Aside0.mk A260
        clear A260
        by_cases c27 : t310 = true
        ·subst c27
         have H1 : ((spec_Cauchy.f k2 a0 a1).bind fun bt313 => ((spec_l04Times.f k2 bt313.1 bt313.2.1 bt313.2.2.1 t309).bind fun t319 => (spec_Repair.l1 k2 l2 t319 0))) = some (r1, r2) := by rw [if_pos rfl] at H; exact H
         clear H
         have H := H1
         clear H1
         replace H := Option.bind_eq_some_iff.mp H
         obtain ⟨⟨t313, t314, t315, t318⟩, A280, H⟩ := H
         replace H : ((spec_l04Times.f k2 t313 t314 t315 t309).bind fun t319 => (spec_Repair.l1 k2 l2 t319 0)) = some (r1, r2) := H
         have A28 := Aside0.mk A280
         clear A280
         replace H := Option.bind_eq_some_iff.mp H
         obtain ⟨t319, A290, H⟩ := H
         replace H : (spec_Repair.l1 k2 l2 t319 0) = some (r1, r2) := H
         have A29 := Aside0.mk A290
         clear A290
         have H' := Aside0.mk H
         clear H
         go_wp2_with (first | ((with_reducible refine gate_callee (f := 106) rfl ?_); refine goesL_ (some 72) rfl rfl Try.func106 (by kernel_rfl) rfl #[.int .i64 a0, .int .i64 a1, .slice A2 l2.length c2] rfl (by (try simp only [List.map_toArray, List.map_cons, List.map_nil]); first | done | rfl | (simp only [List.length_drop, List.length_take]; rfl)) ?_; (with_reducible refine (spec_l04Data.calls k2 a0 a1 _ _ l2 t309 true _ ?side1 ?side2 A26.out).mono ?_); (case side1 => exact Cz.c HR2.out HB.out); (case side2 => exact HC2.out); rintro e w30 ⟨v311, rfl, ho0, hb⟩; refine ⟨_, rfl, ?_⟩; have n_ := Cy.a3 (Kd.R_lower ho0 (below_size (Cz.w HB.out))) (blk_below (g := gb304) (o := .cells #[.slice none 0 0, .int .i64 x305001_2] 61 (0, 0)) (Cz.b BK304.out) hb) (below_step (Cz.w HB.out) hb); clear BK304 HB; obtain ⟨HO312, BK304, HB⟩ := n_; (try clear hb); (try clear hb2); (try clear hk); (try clear hi); (try clear ho0)) | ((with_reducible refine gate_callee (f := 25) rfl ?_); refine goesL_ (some 80) rfl rfl Try.func25 (by kernel_rfl) rfl #[.int .i64 a0, .int .i64 a1] rfl (by (try simp only [List.map_toArray, List.map_cons, List.map_nil]); first | done | rfl | (simp only [List.length_drop, List.length_take]; rfl)) ?_; (with_reducible refine (spec_Cauchy.calls k2 a0 a1 t313 t314 t315 t318 _ A28.out).mono ?_); rintro e w31 ⟨v316, rfl, ho0, hb⟩; have hf0_v316 : ∀ w : World, (Instr.field 35 (.agg #[.int .i64 t313, .int .i64 t314, v316, .int .i64 t318]) 0).run Try.prog w = .ok (.agg #[.int .i64 t313, .int .i64 t314, v316]) w := (fun _ => by kernel_rfl); refine ⟨_, rfl, ?_⟩; have n_ := Cy.a4 (Kd.R_below (Cz.r HO312.out) hb) (Kd.R_lower ho0 (below_size (Cz.w HB.out))) (blk_below (g := gb304) (o := .cells #[.slice none 0 0, .int .i64 x305001_2] 61 (0, 0)) (Cz.b BK304.out) hb) (below_step (Cz.w HB.out) hb); clear HO312 BK304 HB; obtain ⟨HO312, HO317, BK304, HB⟩ := n_; (try clear hb); (try clear hb2); (try clear hk); (try clear hi); (try clear ho0); obtain ⟨Ao32, co32, eo32⟩ := Kd.R_slice HO317.out; subst eo32; obtain ⟨Ao33, co33, eo33⟩ := Kd.R_slice HO312.out; subst eo33) | ((with_reducible refine gate_callee (f := 89) rfl ?_); refine goesL_ (some 83) rfl rfl Try.func89 (by kernel_rfl) rfl #[.agg #[.int .i64 t313, .int .i64 t314, .slice Ao32 t315.length co32], .slice Ao33 t309.length co33] rfl (by (try simp only [List.map_toArray, List.map_cons, List.map_nil]); first | done | rfl | (simp only [List.length_drop, List.length_take]; rfl)) ?_; (with_reducible refine (spec_l04Times.calls k2 t313 t314 _ _ t315 _ _ t309 t319 _ ?side1 ?side2 ?side3 ?side4 A29.out).mono ?_); (case side1 => repeat (first | exact (Kd.R_reads' HO317.out).2.2 | (with_reducible refine Kd.C_alloc ?_ _) | (with_reducible refine Kd.C_drewN ?_ _) | (with_reducible refine Kd.C_drew ?_))); (case side2 => exact (Kd.R_reads' HO317.out).2.1); (case side3 => repeat (first | exact (Kd.R_reads' HO312.out).2.2 | (with_reducible refine Kd.C_alloc ?_ _) | (with_reducible refine Kd.C_drewN ?_ _) | (with_reducible refine Kd.C_drew ?_))); (case side4 => exact (Kd.R_reads' HO312.out).2.1); rintro e w34 ⟨v320, rfl, ho0, hb⟩; refine ⟨_, rfl, ?_⟩; have n_ := Cy.a5 (Kd.R_elder' (Cz.r HO312.out) (Kd.R_base ho0) hb) (Kd.R_below (Cz.r HO317.out) hb) (Kd.R_lower (Kd.R_new' ho0 (Kd.R_lt (Cz.r HO312.out))) (below_size (Cz.w HB.out))) (blk_below (g := gb304) (o := .cells #[.slice none 0 0, .int .i64 x305001_2] 61 (0, 0)) (Cz.b BK304.out) hb) (below_step (Cz.w HB.out) hb); clear HO312 HO317 BK304 HB; obtain ⟨HO312, HO317, HO321, BK304, HB⟩ := n_; (try clear hb); (try clear hb2); (try clear hk); (try clear hi); (try clear ho0)))
         go_loopg [13] k2 (fun kq v13 w' => ∃ (x12_3 : List ByteArray) (x13_3 : Int), v13 = .int .i64 x13_3 ∧ Aside0 (spec_Repair.l1 kq l2 x12_3 x13_3 = some (r1, r2)) ∧ Aside0 (kq ≤ k2) ∧ Aside0 (Kd.R Kd.string 9 w' w.heap.size (fun _ => True) v320 x12_3) ∧ Aside0 (w'.heap[gb304]? = some (.cells #[(.slice none 0 0), .int .i64 x305001_2] 61 (0, 0))) ∧ Aside0 (Below w.heap.size w w'))
         case atStart => exact ⟨(t319), (0), (by first | rfl | (simp; done) | (simp [*]; done)), H', ⟨Nat.le_refl _⟩, ⟨by (with_reducible repeat (first | apply Kd.R_alloc | apply Kd.R_drewN | apply Kd.R_drew)); exact Kd.R_mono HO321.out (fun _ hk => trivial)⟩, ⟨Cz.b BK304.out⟩, ⟨Cz.w HB.out⟩⟩
         case round =>
          clear H'
          try clear c1
          try clear q1
          try clear c2
          try clear p2
          try clear q2
          try clear p3
          try clear q3
          try clear hx3
          try clear c4
          try clear c4b0
          try clear c4b1
          try clear c5
          try clear p6
          try clear c8
          try clear c10
          try clear c11
          try clear c13
          try clear c13b0
          try clear c14
          try clear c14b0
          try clear q16
          try clear c17
          try clear c18
          try clear c18b0
          try clear c18b1
          try clear c19
          try clear c19b0
          try clear c20
          try clear c22
          try clear c22b0
          try clear c23
          try clear c23b0
          try clear q24
          try clear c25
          try clear c27
          try clear p30
          try clear q30
          try clear hx30
          try clear hcz12_0
          try clear hcz12_1
          try clear hcz21_0
          try clear hcz21_1
          try clear hcz6_0
          try clear hcz6_1
          try clear hfz12_0
          try clear hfz12_1
          try clear hfz21_0
          try clear hfz21_1
          try clear hfz6_0
          try clear hfz6_1
          try clear hx306_0
          try clear hx306_1
          try clear hx307_0
          try clear hx307_1
          try clear hx308_0
          try clear hx308_1
          try clear p2
          try clear p3
          try clear p306
          try clear p307
          try clear p308
          try clear p6
          try clear q1
          try clear q16
          try clear q3
          try clear q306
          try clear q307
          try clear q308
          obtain ⟨x12_3, x13_3, rfl, HA, HK3, HO_12, BK304, HB⟩ := hrel
          cases gk with
          | zero => exact absurd HA.out (by simp [spec_Repair.l1])
          | succ k3 =>
           have H := HA.out
           clear HA
           simp only [spec_Repair.l1] at H
           by_cases c35 : x13_3 < (l2.length : Int)
           ·rw [if_pos c35] at H
            have c35b0 : decide (x13_3 < (l2.length : Int)) = true := decide_eq_true c35
            clear c35
            by_cases c36 : 0 ≤ x13_3
            ·rw [if_pos c36] at H
             have c36b0 : decide (0 ≤ x13_3) = true := decide_eq_true c36
             clear c36
             obtain ⟨bq37, hbq37⟩ : ∃ b_ : Bool, b_ = ((rd_T112 l2 x13_3).f0) := ⟨_, rfl⟩
             replace H : (if bq37 = true then (if x13_3 < (x12_3.length : Int) then (spec_Repair.l1 k3 l2 (x12_3.set (x13_3 : Int).toNat ((rd_T112 l2 x13_3).f1)) (wrap64 (x13_3 + 1))) else (none)) else (spec_Repair.l1 k3 l2 x12_3 (wrap64 (x13_3 + 1)))) = some (r1, r2) := by rw [← hbq37] at H; exact H
             have Nbq37 := Aside0.mk hbq37
             clear hbq37
             by_cases c38 : bq37 = true
             ·subst c38
              have H1 : (if x13_3 < (x12_3.length : Int) then (spec_Repair.l1 k3 l2 (x12_3.set (x13_3 : Int).toNat ((rd_T112 l2 x13_3).f1)) (wrap64 (x13_3 + 1))) else (none)) = some (r1, r2) := by rw [if_pos rfl] at H; exact H
              clear H
              have H := H1
              clear H1
              by_cases c39 : x13_3 < (x12_3.length : Int)
              ·rw [if_pos c39] at H
               have c39b0 : decide (x13_3 < (x12_3.length : Int)) = true := decide_eq_true c39
               clear c39
               obtain ⟨y324, hy324⟩ : ∃ y_ : List ByteArray, y_ = (x12_3.set (x13_3 : Int).toNat ((rd_T112 l2 x13_3).f1)) := ⟨_, rfl⟩
               replace H : (spec_Repair.l1 k3 l2 y324 (wrap64 (x13_3 + 1))) = some (r1, r2) := by first | (rw [hy324]; with_reducible exact H) | (have H2_ := (Option.bind_some _ _).symm.trans H; rw [hy324]; with_reducible exact H2_) | (have H2_ := (Option.bind_some _ _).symm.trans H; with_reducible exact H2_) | with_reducible exact H | (rw [hy324]; exact H) | exact H
               have Ny324 := Aside0.mk hy324
               clear hy324
               have H' := Aside0.mk H
               clear H
               have p322 : 0 ≤ (x13_3 : Int) := of_decide_eq_true (by first | (with_reducible assumption) | assumption)
               have q322 : x13_3 < (l2.length : Int) := of_decide_eq_true (by first | (with_reducible assumption) | assumption)
               obtain ⟨ad322, e322, hx322_0, hx322_1⟩ := at_T112 HR2.out x13_3 p322 q322
               (try rw [← Nbq37.out] at hx322_0)
               (try rw [← Nbq37.out] at hx321_0)
               cases e322
               replace hx322_0 := (HB.out.cell (World.block_lt_of_cell? w _ hx322_0)).trans hx322_0
               replace hx322_1 := (HB.out.cell (World.block_lt_of_cell? w _ hx322_1)).trans hx322_1
               replace p322 := eq_true p322
               replace q322 := eq_true q322
               have p323 : 0 ≤ (x13_3 : Int) := of_decide_eq_true (by first | (with_reducible assumption) | assumption)
               have q323 : x13_3 < (l2.length : Int) := of_decide_eq_true (by first | (with_reducible assumption) | assumption)
               obtain ⟨ad323, e323, hx323_0, hx323_1⟩ := at_T112 HR2.out x13_3 p323 q323
               (try rw [← Nbq37.out] at hx323_0)
               (try rw [← Nbq37.out] at hx322_0)
               obtain rfl : ad322 = ad323 := (by injection e323)
               replace hx323_0 := (HB.out.cell (World.block_lt_of_cell? w _ hx323_0)).trans hx323_0
               replace hx323_1 := (HB.out.cell (World.block_lt_of_cell? w _ hx323_1)).trans hx323_1
               replace p323 := eq_true p323
               replace q323 := eq_true q323
               have p40 : 0 ≤ (x13_3 : Int) := of_decide_eq_true (by first | (with_reducible assumption) | assumption)
               have q40 : (x13_3 : Int) < ((x12_3.length : Int) : Int) := of_decide_eq_true (by first | (with_reducible assumption) | assumption)
               obtain ⟨go40, co40, eo40, gb40, gl40, cl40, HG40⟩ := Kd.R_form HO_12.out (by omega)
               (first | cases eo40 | (injection eo40 with ea_ en_ ec_; (first | subst ea_ | (injection ea_ with ea_; subst ea_)); subst ec_; clear en_))
               have GB40 := Aside0.mk gb40
               have GG40 := Aside0.mk HG40
               clear gb40 gl40 HG40
               obtain ⟨hx40_0, hf40_0⟩ := Kd.R_celln (⟨#[]⟩ : ByteArray) HO_12.out (x13_3 : Int) p40 q40
               replace p40 := eq_true p40
               replace q40 := eq_true q40
               have HP41 := Kd.R_putg HO_12.out (x13_3 : Int) ((rd_T112 l2 x13_3).f1)
               go_wp2_with (first | ((with_reducible refine gate_store (t := 9) (p := 102) rfl ?_); refine store_event (t := 9) (p := 102) (v := ?vo_w42) (w1 := (wr.setCell ⟨go40, (x13_3 : Int).toNat, none⟩ (.string ((rd_T112 l2 x13_3).f1)))) ?hg ?ho ?hn ?hr ?_; (case ho => rfl); (case hg => rfl); (case hn => rfl); (case hr => first | (go_simp; done) | (go_simp; rfl)); intro w42 hw; have hg : wr.grownBy w42 (some go40) := (by rw [hw]; exact HP41.2); have hp_ : Kd.R Kd.string 9 w42 w.heap.size (fun _ => True) (.slice (some ⟨go40, 0, none⟩) x12_3.length co40) y324 := (by rw [hw, Ny324.out]; exact HP41.1); clear HP41; have n_ := Cy.a3 hp_ (blk_grown (g := gb304) (o := .cells #[.slice none 0 0, .int .i64 x305001_2] 61 (0, 0)) (Cz.b BK304.out) hg (Kd.R_ne HO_12.out BK304.out (by decide))) (by rw [hw]; exact below_set (HB.out) GB40.out : Below w.heap.size w w42); clear HO_12 BK304 HB; obtain ⟨HO_12, BK304, HB⟩ := n_; clear hg hw hp_))
               go_roundg k3
               case measure => have := HJ6.out; have := HK2.out; have := HK3.out; omega
               case rel => exact ⟨(y324), (wrap64 (x13_3 + 1)), (by first | rfl | (simp; done) | (simp [*]; done)), H', ⟨by have := HJ6.out; have := HK2.out; have := HK3.out; omega⟩, ⟨Cz.r HO_12.out⟩, ⟨Cz.b BK304.out⟩, ⟨Cz.w HB.out⟩⟩
              ·rw [if_neg c39] at H
               exact absurd H (by simp)
             ·replace c38 := Bool.eq_false_iff.mpr c38
              subst c38
              have H1 : (spec_Repair.l1 k3 l2 x12_3 (wrap64 (x13_3 + 1))) = some (r1, r2) := by rw [if_neg (show ¬ (false = true) by decide)] at H; exact H
              clear H
              have H := H1
              clear H1
              have H' := Aside0.mk H
              clear H
              have p322 : 0 ≤ (x13_3 : Int) := of_decide_eq_true (by first | (with_reducible assumption) | assumption)
              have q322 : x13_3 < (l2.length : Int) := of_decide_eq_true (by first | (with_reducible assumption) | assumption)
              obtain ⟨ad322, e322, hx322_0, hx322_1⟩ := at_T112 HR2.out x13_3 p322 q322
              (try rw [← Nbq37.out] at hx322_0)
              (try rw [← Nbq37.out] at hx321_0)
              cases e322
              replace hx322_0 := (HB.out.cell (World.block_lt_of_cell? w _ hx322_0)).trans hx322_0
              replace hx322_1 := (HB.out.cell (World.block_lt_of_cell? w _ hx322_1)).trans hx322_1
              replace p322 := eq_true p322
              replace q322 := eq_true q322
              go_wp2
              go_roundg k3
              case measure => have := HJ6.out; have := HK2.out; have := HK3.out; omega
              case rel => exact ⟨(x12_3), (wrap64 (x13_3 + 1)), (by first | rfl | (simp; done) | (simp [*]; done)), H', ⟨by have := HJ6.out; have := HK2.out; have := HK3.out; omega⟩, ⟨Cz.r HO_12.out⟩, ⟨Cz.b BK304.out⟩, ⟨Cz.w HB.out⟩⟩
            ·rw [if_neg c36] at H
             exact absurd H (by simp)
           ·rw [if_neg c35] at H
            have c35b0 : decide (x13_3 < (l2.length : Int)) = false := decide_eq_false c35
            clear c35
            simp only [Option.some.injEq, Prod.mk.injEq] at H
            obtain ⟨rfl, rfl⟩ := H
            obtain ⟨Ao43, co43, eo43⟩ := Kd.R_slice HO_12.out
            subst eo43
            obtain ⟨hcz44_0, hcz44_1, hfz44_0, hfz44_1⟩ := Cy.z2 BK304.out
            go_wp2
            refine bodyPost_ret (results_cell_row rfl _ _ gb304 61 #[.slice Ao43 x12_3.length co43, .int .i64 0] (0, 0) _ rfl (by (with_reducible repeat (first | refine blk_drewN ?_ _ | refine blk_drew ?_ | refine blk_alloc ?_ _)); refine blk_put (cs := #[.slice Ao43 x12_3.length co43, .int .i64 x305001_2]) ?_ 1 _ rfl; (with_reducible repeat (first | refine blk_drewN ?_ _ | refine blk_drew ?_ | refine blk_alloc ?_ _)); refine blk_put (cs := #[.slice none 0 0, .int .i64 x305001_2]) ?_ 0 _ rfl; (with_reducible repeat (first | refine blk_drewN ?_ _ | refine blk_drew ?_ | refine blk_alloc ?_ _)); exact BK304.out) Try.underlying61 rfl (by kernel_rfl)) rfl ?_
            exact ⟨_, by first | rfl | (simp [errW_none, errW_some] <;> rfl) | (simp [*, errW_none, errW_some] <;> rfl), by (with_reducible repeat (first | apply Kd.R_alloc | apply Kd.R_drewN | apply Kd.R_drew)); exact Kd.R_mono (Kd.R_far (p := ⟨gb304, 1, none⟩) (Kd.R_far (p := ⟨gb304, 0, none⟩) (Kd.R_types HO_12.out BK304.out (by decide)) (fun _ hk => hk.2) (.slice Ao43 x12_3.length co43)) (fun _ hk => hk.2) (.int .i64 0)) (fun _ hk => trivial), Cz.w HB.out⟩
        ·replace c27 := Bool.eq_false_iff.mpr c27
         subst c27
         have H1 : (some (([] : List ByteArray), 10)) = some (r1, r2) := by rw [if_neg (show ¬ (false = true) by decide)] at H; exact H
         clear H
         have H := H1
         clear H1
         simp only [Option.some.injEq, Prod.mk.injEq] at H
         obtain ⟨rfl, rfl⟩ := H
         go_wp2_with (first | ((with_reducible refine gate_callee (f := 106) rfl ?_); refine goesL_ (some 72) rfl rfl Try.func106 (by kernel_rfl) rfl #[.int .i64 a0, .int .i64 a1, .slice A2 l2.length c2] rfl (by (try simp only [List.map_toArray, List.map_cons, List.map_nil]); first | done | rfl | (simp only [List.length_drop, List.length_take]; rfl)) ?_; (with_reducible refine (spec_l04Data.calls k2 a0 a1 _ _ l2 t309 false _ ?side1 ?side2 A26.out).mono ?_); (case side1 => exact Cz.c HR2.out HB.out); (case side2 => exact HC2.out); rintro e w45 ⟨v311, rfl, ho0, hb⟩; refine ⟨_, rfl, ?_⟩; have n_ := Cy.a3 (Kd.R_lower ho0 (below_size (Cz.w HB.out))) (blk_below (g := gb304) (o := .cells #[.slice none 0 0, .int .i64 x305001_2] 61 (0, 0)) (Cz.b BK304.out) hb) (below_step (Cz.w HB.out) hb); clear BK304 HB; obtain ⟨HO312, BK304, HB⟩ := n_; (try clear hb); (try clear hb2); (try clear hk); (try clear hi); (try clear ho0); obtain ⟨hcz46_0, hcz46_1, hfz46_0, hfz46_1⟩ := Cy.z2 BK304.out))
         refine bodyPost_ret (results_cell_row rfl _ _ gb304 61 #[.slice none 0 0, .int .i64 10] (0, 0) _ rfl (by (with_reducible repeat (first | refine blk_drewN ?_ _ | refine blk_drew ?_ | refine blk_alloc ?_ _)); refine blk_put (cs := #[.slice none 0 0, .int .i64 x305001_2]) ?_ 1 _ rfl; (with_reducible repeat (first | refine blk_drewN ?_ _ | refine blk_drew ?_ | refine blk_alloc ?_ _)); refine blk_put (cs := #[.slice none 0 0, .int .i64 x305001_2]) ?_ 0 _ rfl; (with_reducible repeat (first | refine blk_drewN ?_ _ | refine blk_drew ?_ | refine blk_alloc ?_ _)); exact BK304.out) Try.underlying61 rfl (by kernel_rfl)) rfl ?_
         exact ⟨_, by first | rfl | (simp [errW_none, errW_some] <;> rfl) | (simp [*, errW_none, errW_some] <;> rfl), by first | exact Kd.R_nil _ _ _ _ _ | exact Kd.N_nil _ _ _ _ _ | exact Kd.V_nil _ _ _ _ _ | exact Kd.Q_nil _ _ _ _ _ | exact Kd.S_nil _ _ _ _ _, Cz.w HB.out⟩
def laws_toShard.f (a0_0 : Bool) (a0_1 : ByteArray) : Option (Bool × ByteArray) := some (a0_0, a0_1)
set_option maxHeartbeats 8000000 in
set_option maxRecDepth 100000 in
theorem laws_toShard.calls (a0_0 : Bool) (a0_1 : ByteArray) (r1 : Bool) (r2 : ByteArray) (w : World) (h : laws_toShard.f a0_0 a0_1 = some (r1, r2)) :
  Calls Try.prog 107 #[.agg #[.bool a0_0, .string a0_1]] w fun e w' => e = .returned (.agg #[.bool r1, .string r2]) ∧ Below w.heap.size w w' := by
 have hu111 := Try.underlying111
 have hu112 := Try.underlying112
 have HB := Aside0.mk (Below.refl w.heap.size w)
 have H : (some (a0_0, a0_1)) = some (r1, r2) := h
 clear h
 simp only [Option.some.injEq, Prod.mk.injEq] at H
 obtain ⟨rfl, rfl⟩ := H
 go_enter Try.func107, Try.ntmps107
 go_wp2_with (first | ((with_reducible refine gate_dst (N := 1) rfl ?_); refine box_event ?hg (N := 1) ?hd (cs := #[.bool a0_0, .string a0_1]) (t := 111) ?hr ?_; (case hd => rfl); (case hg => rfl); (case hr => first | (go_simp; done) | (go_simp; rfl)); intro gb325 hg w2 hbox hb; have n_ := Cy.a4 (below_step (Cz.w HB.out) hb) hbox (Cy.gw hg HB.out) (Cy.gw hg HB.out); clear HB; obtain ⟨HB, BK325, GW325, GE325⟩ := n_; clear hb hbox hg) | ((with_reducible refine gate_dst (N := 2) rfl ?_); refine box_event ?hg (N := 2) ?hd (cs := #[.bool false, .string (⟨#[]⟩ : ByteArray)]) (t := 112) ?hr ?_; (case hd => rfl); (case hg => rfl); (case hr => first | (go_simp; done) | (go_simp; rfl)); intro gb326 hg w3 hbox hb; have n_ := Cy.a7 (blk_below (g := gb325) (o := .cells #[.bool a0_0, .string a0_1] 111 (0, 0)) (Cz.b BK325.out) hb) (below_step (Cz.w HB.out) hb) hbox (Cy.gw hg HB.out) (Cy.gw hg HB.out) (by rw [hg]; exact Nat.ne_of_lt (blk_lt (g := gb325) (o := .cells #[.bool a0_0, .string a0_1] 111 (0, 0)) (Cz.b BK325.out)) : gb325 ≠ gb326) (by rw [hg]; exact Nat.ne_of_gt (blk_lt (g := gb325) (o := .cells #[.bool a0_0, .string a0_1] 111 (0, 0)) (Cz.b BK325.out)) : gb326 ≠ gb325); clear BK325 HB; obtain ⟨BK325, HB, BK326, GW326, GE326, NB325_326, NB326_325⟩ := n_; clear hb hbox hg) | ((with_reducible refine gate_dst (N := 3) rfl ?_); refine box_event ?hg (N := 3) ?hd (cs := #[.bool false, .string (⟨#[]⟩ : ByteArray)]) (t := 112) ?hr ?_; (case hd => rfl); (case hg => rfl); (case hr => first | (go_simp; done) | (go_simp; rfl)); intro gb327 hg w4 hbox hb; have n_ := Cy.a10 (blk_below (g := gb325) (o := .cells #[.bool a0_0, .string a0_1] 111 (0, 0)) (Cz.b BK325.out) hb) (blk_below (g := gb326) (o := .cells #[.bool false, .string (⟨#[]⟩ : ByteArray)] 112 (0, 0)) (Cz.b BK326.out) hb) (below_step (Cz.w HB.out) hb) hbox (Cy.gw hg HB.out) (Cy.gw hg HB.out) (by rw [hg]; exact Nat.ne_of_lt (blk_lt (g := gb325) (o := .cells #[.bool a0_0, .string a0_1] 111 (0, 0)) (Cz.b BK325.out)) : gb325 ≠ gb327) (by rw [hg]; exact Nat.ne_of_gt (blk_lt (g := gb325) (o := .cells #[.bool a0_0, .string a0_1] 111 (0, 0)) (Cz.b BK325.out)) : gb327 ≠ gb325) (by rw [hg]; exact Nat.ne_of_lt (blk_lt (g := gb326) (o := .cells #[.bool false, .string (⟨#[]⟩ : ByteArray)] 112 (0, 0)) (Cz.b BK326.out)) : gb326 ≠ gb327) (by rw [hg]; exact Nat.ne_of_gt (blk_lt (g := gb326) (o := .cells #[.bool false, .string (⟨#[]⟩ : ByteArray)] 112 (0, 0)) (Cz.b BK326.out)) : gb327 ≠ gb326); clear BK325 BK326 HB; obtain ⟨BK325, BK326, HB, BK327, GW327, GE327, NB325_327, NB327_325, NB326_327, NB327_326⟩ := n_; clear hb hbox hg; have hnb5 := NB325_326.out; have hnc5 := NB326_325.out; have hnb6 := NB325_327.out; have hnc6 := NB327_325.out; obtain ⟨hcz7_0, hcz7_1, hfz7_0, hfz7_1⟩ := Cy.z2 BK325.out; have hnb8 := NB327_326.out; have hnc8 := NB326_327.out; obtain ⟨hcz9_0, hcz9_1, hfz9_0, hfz9_1⟩ := Cy.z2 BK327.out; obtain ⟨hcz10_0, hcz10_1, hfz10_0, hfz10_1⟩ := Cy.z2 BK326.out))
 refine bodyPost_ret (results_cell_row rfl _ _ gb326 112 #[.bool a0_0, .string a0_1] (0, 0) _ rfl (by (with_reducible repeat (first | refine blk_drewN ?_ _ | refine blk_drew ?_ | refine blk_alloc ?_ _)); refine blk_put (cs := #[.bool a0_0, .string (⟨#[]⟩ : ByteArray)]) ?_ 1 _ rfl; (with_reducible repeat (first | refine blk_drewN ?_ _ | refine blk_drew ?_ | refine blk_alloc ?_ _)); refine blk_put (cs := #[.bool false, .string (⟨#[]⟩ : ByteArray)]) ?_ 0 _ rfl; (with_reducible repeat (first | refine blk_drewN ?_ _ | refine blk_drew ?_ | refine blk_alloc ?_ _)); refine blk_far ?_ NB326_327.out _; (with_reducible repeat (first | refine blk_drewN ?_ _ | refine blk_drew ?_ | refine blk_alloc ?_ _)); refine blk_far ?_ NB326_327.out _; (with_reducible repeat (first | refine blk_drewN ?_ _ | refine blk_drew ?_ | refine blk_alloc ?_ _)); exact BK326.out) Try.underlying112 rfl (by kernel_rfl)) rfl ?_
 exact ⟨by first | rfl | (simp [errW_none, errW_some] <;> rfl) | (simp [*, errW_none, errW_some] <;> rfl), Cz.w HB.out⟩
end Go.Proofs.Ytlololbhlnapkaa.XFnExactRepair

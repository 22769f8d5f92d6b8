/- Plain functions of what the law reaches, proofs that the calls come to them, and the law's row: written by a program of this session (xprint.py) over the kit's print. No conditions beyond each lemma's own. -/
import Derived.Test.YtlololbhlnapkaaKxCy
import Derived.Test.YtlololbhlnapkaaKxXFnExactRepairx0
import Derived.Test.YtlololbhlnapkaaKxXFnExactRepairx10
import Derived.Test.YtlololbhlnapkaaKxXFnExactRepairx15
namespace Go.Proofs.Ytlololbhlnapkaa.XFnExactRepair
open Go.RowKit Go.Proofs.YtlololbhlnapkaaW.PrintWords Go.Proofs.YtlololbhlnapkaaW.PrintLast Go.Proofs.YtlololbhlnapkaaW.PrintMore
attribute [local go_sem] max2_int min2_int max_two min_two max_three min_three max_four min_four   -- for this text's walks alone
set_option linter.unusedVariables false
set_option linter.unusedSimpArgs false
mutual
def impl_Repair.j0 : Nat → Int → Int → List (S112) → Option (List ByteArray × Int)
  | 0, _, _, _ => none
  | k + 1, x0, x1, x2 => (impl_remade.f k x0 x1 x2).bind fun bt481 => (if bt481.2 = true then (impl_Repair.l0 k bt481.1 x2 (x2.length : Int) 0) else (some (([] : List ByteArray), 10)))
def impl_Repair.l0 : Nat → List ByteArray → List (S112) → Int → Int → Option (List ByteArray × Int)
  | 0, _, _, _, _ => none
  | k + 1, x8, x61, x62, x63 => if x63 < x62 then (if 0 ≤ x63 then (if x63 < (x61.length : Int) then (if (rd_T112 x61 x63).f0 = true then (if x63 < (x8.length : Int) then (impl_Repair.l0 k (x8.set (x63 : Int).toNat ((rd_T112 x61 x63).f1)) x61 x62 (wrap64 (x63 + 1))) else (none)) else (impl_Repair.l0 k x8 x61 x62 (wrap64 (x63 + 1)))) else (none)) else (none)) else (some (x8, 0))
end
def impl_Repair.f (k : Nat) (a0 : Int) (a1 : Int) (l2 : List (S112)) : Option (List ByteArray × Int) := (impl_Shard_108.f l2).bind fun t472 => (if t472 = true then (some (([] : List ByteArray), 2)) else ((impl_CodeRight.f a0 a1).bind fun t473 => (if t473 = true then ((impl_Shard_109.f l2).bind fun t474 => (if t474 = (wrap64 (a0 + a1)) then ((impl_Shard_110.f k l2 (-1)).bind fun t475 => (if t475 ≥ 0 then (if 0 ≤ t475 then (if t475 < (l2.length : Int) then ((impl_isLong.f ((rd_T112 l2 t475).f1)).bind fun t477 => (if t477 = true then (some (([] : List ByteArray), 2)) else ((impl_long.f ((rd_T112 l2 t475).f1)).bind fun t479 => ((impl_hasWrong.f k l2 t479).bind fun t480 => (if t480 = true then (some (([] : List ByteArray), 2)) else (impl_Repair.j0 k a0 a1 l2)))))) else (none)) else (none)) else (impl_Repair.j0 k a0 a1 l2))) else (some (([] : List ByteArray), 1)))) else (some (([] : List ByteArray), 1)))))
set_option maxHeartbeats 8000000 in
set_option maxRecDepth 100000 in
theorem impl_Repair.calls (k : Nat) (a0 : Int) (a1 : Int) (A2 : Option Addr) (c2 : Nat) (l2 : List (S112)) (r1 : List ByteArray) (r2 : Int) (w : World) (hr2 : Kd.C k112 w A2 l2.length l2) (hc2 : l2.length ≤ c2) (h : impl_Repair.f k a0 a1 l2 = some (r1, r2)) :
  Calls Try.prog 58 #[.int .i64 a0, .int .i64 a1, .slice A2 l2.length c2] w fun e w' => ∃ v0_ : Value, e = .returned (.agg #[v0_, .int .i64 r2]) ∧ Kd.R Kd.string 9 w' w.heap.size (fun _ => True) v0_ r1 ∧ Below w.heap.size w w' := by
 have hu61 := Try.underlying61
 have hu112 := Try.underlying112
 have HR2 := Aside0.mk hr2
 have HC2 := Aside0.mk hc2
 clear hr2 hc2
 have HB := Aside0.mk (Below.refl w.heap.size w)
 have H : ((impl_Shard_108.f l2).bind fun t472 => (if t472 = true then (some (([] : List ByteArray), 2)) else ((impl_CodeRight.f a0 a1).bind fun t473 => (if t473 = true then ((impl_Shard_109.f l2).bind fun t474 => (if t474 = (wrap64 (a0 + a1)) then ((impl_Shard_110.f k l2 (-1)).bind fun t475 => (if t475 ≥ 0 then (if 0 ≤ t475 then (if t475 < (l2.length : Int) then ((impl_isLong.f ((rd_T112 l2 t475).f1)).bind fun t477 => (if t477 = true then (some (([] : List ByteArray), 2)) else ((impl_long.f ((rd_T112 l2 t475).f1)).bind fun t479 => ((impl_hasWrong.f k l2 t479).bind fun t480 => (if t480 = true then (some (([] : List ByteArray), 2)) else (impl_Repair.j0 k a0 a1 l2)))))) else (none)) else (none)) else (impl_Repair.j0 k a0 a1 l2))) else (some (([] : List ByteArray), 1)))) else (some (([] : List ByteArray), 1)))))) = some (r1, r2) := h
 clear h
 replace H := Option.bind_eq_some_iff.mp H
 obtain ⟨t472, A40, H⟩ := H
 replace H : (if t472 = true then (some (([] : List ByteArray), 2)) else ((impl_CodeRight.f a0 a1).bind fun t473 => (if t473 = true then ((impl_Shard_109.f l2).bind fun t474 => (if t474 = (wrap64 (a0 + a1)) then ((impl_Shard_110.f k l2 (-1)).bind fun t475 => (if t475 ≥ 0 then (if 0 ≤ t475 then (if t475 < (l2.length : Int) then ((impl_isLong.f ((rd_T112 l2 t475).f1)).bind fun t477 => (if t477 = true then (some (([] : List ByteArray), 2)) else ((impl_long.f ((rd_T112 l2 t475).f1)).bind fun t479 => ((impl_hasWrong.f k l2 t479).bind fun t480 => (if t480 = true then (some (([] : List ByteArray), 2)) else (impl_Repair.j0 k a0 a1 l2)))))) else (none)) else (none)) else (impl_Repair.j0 k a0 a1 l2))) else (some (([] : List ByteArray), 1)))) else (some (([] : List ByteArray), 1))))) = some (r1, r2) := H
 have A4 := Aside0.mk A40
 clear A40
 by_cases c5 : t472 = true
 ·subst c5
  have H1 : (some (([] : List ByteArray), 2)) = some (r1, r2) := by rw [if_pos rfl] at H; exact H
  clear H
  have H := H1
  clear H1
  simp only [Option.some.injEq, Prod.mk.injEq] at H
  obtain ⟨rfl, rfl⟩ := H
  go_enter Try.func58, Try.ntmps58
  go_wp2_with (first | ((with_reducible refine gate_dst (N := 6) rfl ?_); refine box_event ?hg (N := 6) ?hd (cs := #[.slice none 0 0, .int .i64 0]) (t := 61) ?hr ?_; (case hd => rfl); (case hg => rfl); (case hr => first | (go_simp; done) | (go_simp; rfl)); intro gb471 hg w6 hbox hb; have n_ := Cy.a4 (below_step (Cz.w HB.out) hb) hbox (Cy.gw hg HB.out) (Cy.gw hg HB.out); clear HB; obtain ⟨HB, BK471, GW471, GE471⟩ := n_; clear hb hbox hg) | ((with_reducible refine gate_callee (f := 108) rfl ?_); refine goesL_ (some 14) rfl rfl Try.func108 (by kernel_rfl) rfl #[.slice A2 l2.length c2] rfl (by (try simp only [List.map_toArray, List.map_cons, List.map_nil]); first | done | rfl | (simp only [List.length_drop, List.length_take]; rfl)) ?_; (with_reducible refine (impl_Shard_108.calls _ _ l2 true _ ?side1 ?side2 A4.out).mono ?_); (case side1 => exact Cz.c HR2.out HB.out); (case side2 => exact HC2.out); rintro e w' ⟨rfl, ⟨nd, rfl⟩⟩; refine ⟨_, rfl, ?_⟩; (try (rw [drewN_self w6]; generalize hq_ : World.drewN w6 _ = w6; have n0_ : Aside0 (w6.heap[gb471]? = some (.cells #[.slice none 0 0, .int .i64 0] 61 (0, 0))) := ⟨by rw [← hq_]; exact (Cz.b BK471.out)⟩; have n1_ : Aside0 (Below w.heap.size w w6) := ⟨by rw [← hq_]; exact (Cz.w HB.out)⟩; clear BK471 HB hq_; have BK471 := n0_; have HB := n1_; clear n0_ n1_)); obtain ⟨hcz7_0, hcz7_1, hfz7_0, hfz7_1⟩ := Cy.z2 BK471.out))
  refine bodyPost_ret (results_cell_row rfl _ _ gb471 61 #[.slice none 0 0, .int .i64 2] (0, 0) _ rfl (by (with_reducible repeat (first | refine blk_drewN ?_ _ | refine blk_drew ?_ | refine blk_alloc ?_ _)); refine blk_put (cs := #[.slice none 0 0, .int .i64 0]) ?_ 1 _ rfl; (with_reducible repeat (first | refine blk_drewN ?_ _ | refine blk_drew ?_ | refine blk_alloc ?_ _)); refine blk_put (cs := #[.slice none 0 0, .int .i64 0]) ?_ 0 _ rfl; (with_reducible repeat (first | refine blk_drewN ?_ _ | refine blk_drew ?_ | refine blk_alloc ?_ _)); exact BK471.out) Try.underlying61 rfl (by kernel_rfl)) rfl ?_
  exact ⟨_, by first | rfl | (simp [errW_none, errW_some] <;> rfl) | (simp [*, errW_none, errW_some] <;> rfl), by first | exact Kd.R_nil _ _ _ _ _ | exact Kd.N_nil _ _ _ _ _ | exact Kd.V_nil _ _ _ _ _ | exact Kd.Q_nil _ _ _ _ _ | exact Kd.S_nil _ _ _ _ _, Cz.w HB.out⟩
 ·replace c5 := Bool.eq_false_iff.mpr c5
  subst c5
  have H1 : ((impl_CodeRight.f a0 a1).bind fun t473 => (if t473 = true then ((impl_Shard_109.f l2).bind fun t474 => (if t474 = (wrap64 (a0 + a1)) then ((impl_Shard_110.f k l2 (-1)).bind fun t475 => (if t475 ≥ 0 then (if 0 ≤ t475 then (if t475 < (l2.length : Int) then ((impl_isLong.f ((rd_T112 l2 t475).f1)).bind fun t477 => (if t477 = true then (some (([] : List ByteArray), 2)) else ((impl_long.f ((rd_T112 l2 t475).f1)).bind fun t479 => ((impl_hasWrong.f k l2 t479).bind fun t480 => (if t480 = true then (some (([] : List ByteArray), 2)) else (impl_Repair.j0 k a0 a1 l2)))))) else (none)) else (none)) else (impl_Repair.j0 k a0 a1 l2))) else (some (([] : List ByteArray), 1)))) else (some (([] : List ByteArray), 1)))) = some (r1, r2) := by rw [if_neg (show ¬ (false = true) by decide)] at H; exact H
  clear H
  have H := H1
  clear H1
  replace H := Option.bind_eq_some_iff.mp H
  obtain ⟨t473, A80, H⟩ := H
  replace H : (if t473 = true then ((impl_Shard_109.f l2).bind fun t474 => (if t474 = (wrap64 (a0 + a1)) then ((impl_Shard_110.f k l2 (-1)).bind fun t475 => (if t475 ≥ 0 then (if 0 ≤ t475 then (if t475 < (l2.length : Int) then ((impl_isLong.f ((rd_T112 l2 t475).f1)).bind fun t477 => (if t477 = true then (some (([] : List ByteArray), 2)) else ((impl_long.f ((rd_T112 l2 t475).f1)).bind fun t479 => ((impl_hasWrong.f k l2 t479).bind fun t480 => (if t480 = true then (some (([] : List ByteArray), 2)) else (impl_Repair.j0 k a0 a1 l2)))))) else (none)) else (none)) else (impl_Repair.j0 k a0 a1 l2))) else (some (([] : List ByteArray), 1)))) else (some (([] : List ByteArray), 1))) = some (r1, r2) := H
  have A8 := Aside0.mk A80
  clear A80
  by_cases c9 : t473 = true
  ·subst c9
   have H1 : ((impl_Shard_109.f l2).bind fun t474 => (if t474 = (wrap64 (a0 + a1)) then ((impl_Shard_110.f k l2 (-1)).bind fun t475 => (if t475 ≥ 0 then (if 0 ≤ t475 then (if t475 < (l2.length : Int) then ((impl_isLong.f ((rd_T112 l2 t475).f1)).bind fun t477 => (if t477 = true then (some (([] : List ByteArray), 2)) else ((impl_long.f ((rd_T112 l2 t475).f1)).bind fun t479 => ((impl_hasWrong.f k l2 t479).bind fun t480 => (if t480 = true then (some (([] : List ByteArray), 2)) else (impl_Repair.j0 k a0 a1 l2)))))) else (none)) else (none)) else (impl_Repair.j0 k a0 a1 l2))) else (some (([] : List ByteArray), 1)))) = some (r1, r2) := by rw [if_pos rfl] at H; exact H
   clear H
   have H := H1
   clear H1
   replace H := Option.bind_eq_some_iff.mp H
   obtain ⟨t474, A100, H⟩ := H
   replace H : (if t474 = (wrap64 (a0 + a1)) then ((impl_Shard_110.f k l2 (-1)).bind fun t475 => (if t475 ≥ 0 then (if 0 ≤ t475 then (if t475 < (l2.length : Int) then ((impl_isLong.f ((rd_T112 l2 t475).f1)).bind fun t477 => (if t477 = true then (some (([] : List ByteArray), 2)) else ((impl_long.f ((rd_T112 l2 t475).f1)).bind fun t479 => ((impl_hasWrong.f k l2 t479).bind fun t480 => (if t480 = true then (some (([] : List ByteArray), 2)) else (impl_Repair.j0 k a0 a1 l2)))))) else (none)) else (none)) else (impl_Repair.j0 k a0 a1 l2))) else (some (([] : List ByteArray), 1))) = some (r1, r2) := H
   have A10 := Aside0.mk A100
   clear A100
   by_cases c11 : t474 = (wrap64 (a0 + a1))
   ·rw [if_pos c11] at H
    have c11b0 : (t474 == (wrap64 (a0 + a1))) = true := beq_iff_eq.mpr c11
    have c11b1 : (t474 != (wrap64 (a0 + a1))) = false := bne_eq_false_iff_eq.mpr c11
    clear c11
    replace H := Option.bind_eq_some_iff.mp H
    obtain ⟨t475, A120, H⟩ := H
    replace H : (if t475 ≥ 0 then (if 0 ≤ t475 then (if t475 < (l2.length : Int) then ((impl_isLong.f ((rd_T112 l2 t475).f1)).bind fun t477 => (if t477 = true then (some (([] : List ByteArray), 2)) else ((impl_long.f ((rd_T112 l2 t475).f1)).bind fun t479 => ((impl_hasWrong.f k l2 t479).bind fun t480 => (if t480 = true then (some (([] : List ByteArray), 2)) else (impl_Repair.j0 k a0 a1 l2)))))) else (none)) else (none)) else (impl_Repair.j0 k a0 a1 l2)) = some (r1, r2) := H
    have A12 := Aside0.mk A120
    clear A120
    have HC13 := Aside0.mk H
    clear H
    go_enter Try.func58, Try.ntmps58
    go_upto_if 33 with (first | ((with_reducible refine gate_dst (N := 6) rfl ?_); refine box_event ?hg (N := 6) ?hd (cs := #[.slice none 0 0, .int .i64 0]) (t := 61) ?hr ?_; (case hd => rfl); (case hg => rfl); (case hr => first | (go_simp; done) | (go_simp; rfl)); intro gb471 hg w14 hbox hb; have n_ := Cy.a4 (below_step (Cz.w HB.out) hb) hbox (Cy.gw hg HB.out) (Cy.gw hg HB.out); clear HB; obtain ⟨HB, BK471, GW471, GE471⟩ := n_; clear hb hbox hg) | ((with_reducible refine gate_callee (f := 108) rfl ?_); refine goesL_ (some 14) rfl rfl Try.func108 (by kernel_rfl) rfl #[.slice A2 l2.length c2] rfl (by (try simp only [List.map_toArray, List.map_cons, List.map_nil]); first | done | rfl | (simp only [List.length_drop, List.length_take]; rfl)) ?_; (with_reducible refine (impl_Shard_108.calls _ _ l2 false _ ?side1 ?side2 A4.out).mono ?_); (case side1 => exact Cz.c HR2.out HB.out); (case side2 => exact HC2.out); rintro e w' ⟨rfl, ⟨nd, rfl⟩⟩; refine ⟨_, rfl, ?_⟩) | ((with_reducible refine gate_callee (f := 23) rfl ?_); refine goesL_ (some 19) rfl rfl Try.func23 (by kernel_rfl) rfl #[.int .i64 a0, .int .i64 a1] rfl (by (try simp only [List.map_toArray, List.map_cons, List.map_nil]); first | done | rfl | (simp only [List.length_drop, List.length_take]; rfl)) ?_; (with_reducible refine (impl_CodeRight.calls a0 a1 true _ A8.out).mono ?_); rintro e w' ⟨rfl, ⟨nd, rfl⟩⟩; refine ⟨_, rfl, ?_⟩) | (go_at_call 109; (with_reducible refine (impl_Shard_109.calls _ _ l2 t474 _ ?side1 ?side2 A10.out).mono ?_); (case side1 => repeat (first | exact (Kd.C_below HR2.out (Cz.w HB.out)) | (with_reducible refine Kd.C_alloc ?_ _) | (with_reducible refine Kd.C_drewN ?_ _) | (with_reducible refine Kd.C_drew ?_))); (case side2 => exact HC2.out); rintro e w' ⟨rfl, ⟨nd, rfl⟩⟩) | ((with_reducible refine gate_callee (f := 110) rfl ?_); refine goesL_ (some 31) rfl rfl Try.func110 (by kernel_rfl) rfl #[.slice A2 l2.length c2, .func (.func 111) #[] #[]] rfl (by (try simp only [List.map_toArray, List.map_cons, List.map_nil]); first | done | rfl | (simp only [List.length_drop, List.length_take]; rfl)) ?_; (with_reducible refine (impl_Shard_110.calls0 k _ _ l2 t475 _ ?side1 ?side2 A12.out).mono ?_); (case side1 => repeat (first | exact (Kd.C_below HR2.out (Cz.w HB.out)) | (with_reducible refine Kd.C_alloc ?_ _) | (with_reducible refine Kd.C_drewN ?_ _) | (with_reducible refine Kd.C_drew ?_))); (case side2 => exact HC2.out); rintro e w15 ⟨rfl, hb⟩; refine ⟨_, rfl, ?_⟩; have n_ := Cy.a2 (blk_below (g := gb471) (o := .cells #[.slice none 0 0, .int .i64 0] 61 (0, 0)) (Cz.b BK471.out) hb) (below_step (Cz.w HB.out) hb); clear BK471 HB; obtain ⟨BK471, HB⟩ := n_; (try clear hb); (try clear hb2); (try clear hk); (try clear hi)))
    (try simp only [Act.put, List.setIfInBounds_toArray, List.set_cons_zero, List.set_cons_succ])
    go_cut [] (fun wc => ∃ (kq : Nat) (x472001_12 : Int), Aside0 (impl_Repair.j0 kq a0 a1 l2 = some (r1, r2)) ∧ Aside0 (kq ≤ k) ∧ Aside0 (wc.heap[gb471]? = some (.cells #[(.slice none 0 0), .int .i64 x472001_12] 61 (0, 0))) ∧ Aside0 (Below w.heap.size w wc))
    case first =>
     have H := HC13.out
     clear HC13
     by_cases c16 : t475 ≥ 0
     ·rw [if_pos c16] at H
      have c16b0 : decide (0 ≤ t475) = true := decide_eq_true c16
      clear c16
      (first | rw [c16b0] | (simp only [i64_w, i32_w]; rw [c16b0]) | skip)
      by_cases c17 : 0 ≤ t475
      ·rw [if_pos c17] at H
       have c17b0 : decide (0 ≤ t475) = true := decide_eq_true c17
       clear c17
       by_cases c18 : t475 < (l2.length : Int)
       ·rw [if_pos c18] at H
        have c18b0 : decide (t475 < (l2.length : Int)) = true := decide_eq_true c18
        clear c18
        replace H := Option.bind_eq_some_iff.mp H
        obtain ⟨t477, A190, H⟩ := H
        replace H : (if t477 = true then (some (([] : List ByteArray), 2)) else ((impl_long.f ((rd_T112 l2 t475).f1)).bind fun t479 => ((impl_hasWrong.f k l2 t479).bind fun t480 => (if t480 = true then (some (([] : List ByteArray), 2)) else (impl_Repair.j0 k a0 a1 l2))))) = some (r1, r2) := H
        have A19 := Aside0.mk A190
        clear A190
        by_cases c20 : t477 = true
        ·subst c20
         have H1 : (some (([] : List ByteArray), 2)) = some (r1, r2) := by rw [if_pos rfl] at H; exact H
         clear H
         have H := H1
         clear H1
         simp only [Option.some.injEq, Prod.mk.injEq] at H
         obtain ⟨rfl, rfl⟩ := H
         have p476 : 0 ≤ (t475 : Int) := of_decide_eq_true (by first | (with_reducible assumption) | assumption)
         have q476 : t475 < (l2.length : Int) := of_decide_eq_true (by first | (with_reducible assumption) | assumption)
         obtain ⟨ad476, e476, hx476_0, hx476_1⟩ := at_T112 HR2.out t475 p476 q476
         cases e476
         replace hx476_0 := (HB.out.cell (World.block_lt_of_cell? w _ hx476_0)).trans hx476_0
         replace hx476_1 := (HB.out.cell (World.block_lt_of_cell? w _ hx476_1)).trans hx476_1
         replace p476 := eq_true p476
         replace q476 := eq_true q476
         go_wp2_with (first | ((with_reducible refine gate_callee (f := 94) rfl ?_); refine goesL_ (some 39) rfl rfl Try.func94 (by kernel_rfl) rfl #[.string ((rd_T112 l2 t475).f1)] rfl (by (try simp only [List.map_toArray, List.map_cons, List.map_nil]); first | done | rfl | (simp only [List.length_drop, List.length_take]; rfl)) ?_; (with_reducible refine (impl_isLong.calls ((rd_T112 l2 t475).f1) true _ A19.out).mono ?_); rintro e w' ⟨rfl, ⟨nd, rfl⟩⟩; refine ⟨_, rfl, ?_⟩; (try (rw [drewN_self w15]; generalize hq_ : World.drewN w15 _ = w15; have n0_ : Aside0 (w15.heap[gb471]? = some (.cells #[.slice none 0 0, .int .i64 0] 61 (0, 0))) := ⟨by rw [← hq_]; exact (Cz.b BK471.out)⟩; have n1_ : Aside0 (Below w.heap.size w w15) := ⟨by rw [← hq_]; exact (Cz.w HB.out)⟩; clear BK471 HB hq_; have BK471 := n0_; have HB := n1_; clear n0_ n1_)); obtain ⟨hcz21_0, hcz21_1, hfz21_0, hfz21_1⟩ := Cy.z2 BK471.out))
         refine bodyPost_ret (results_cell_row rfl _ _ gb471 61 #[.slice none 0 0, .int .i64 2] (0, 0) _ rfl (by (with_reducible repeat (first | refine blk_drewN ?_ _ | refine blk_drew ?_ | refine blk_alloc ?_ _)); refine blk_put (cs := #[.slice none 0 0, .int .i64 0]) ?_ 1 _ rfl; (with_reducible repeat (first | refine blk_drewN ?_ _ | refine blk_drew ?_ | refine blk_alloc ?_ _)); refine blk_put (cs := #[.slice none 0 0, .int .i64 0]) ?_ 0 _ rfl; (with_reducible repeat (first | refine blk_drewN ?_ _ | refine blk_drew ?_ | refine blk_alloc ?_ _)); exact BK471.out) Try.underlying61 rfl (by kernel_rfl)) rfl ?_
         exact ⟨_, by first | rfl | (simp [errW_none, errW_some] <;> rfl) | (simp [*, errW_none, errW_some] <;> rfl), by first | exact Kd.R_nil _ _ _ _ _ | exact Kd.N_nil _ _ _ _ _ | exact Kd.V_nil _ _ _ _ _ | exact Kd.Q_nil _ _ _ _ _ | exact Kd.S_nil _ _ _ _ _, Cz.w HB.out⟩
        ·replace c20 := Bool.eq_false_iff.mpr c20
         subst c20
         have H1 : ((impl_long.f ((rd_T112 l2 t475).f1)).bind fun t479 => ((impl_hasWrong.f k l2 t479).bind fun t480 => (if t480 = true then (some (([] : List ByteArray), 2)) else (impl_Repair.j0 k a0 a1 l2)))) = some (r1, r2) := by rw [if_neg (show ¬ (false = true) by decide)] at H; exact H
         clear H
         have H := H1
         clear H1
         replace H := Option.bind_eq_some_iff.mp H
         obtain ⟨t479, A220, H⟩ := H
         replace H : ((impl_hasWrong.f k l2 t479).bind fun t480 => (if t480 = true then (some (([] : List ByteArray), 2)) else (impl_Repair.j0 k a0 a1 l2))) = some (r1, r2) := H
         have A22 := Aside0.mk A220
         clear A220
         replace H := Option.bind_eq_some_iff.mp H
         obtain ⟨t480, A230, H⟩ := H
         replace H : (if t480 = true then (some (([] : List ByteArray), 2)) else (impl_Repair.j0 k a0 a1 l2)) = some (r1, r2) := H
         have A23 := Aside0.mk A230
         clear A230
         by_cases c24 : t480 = true
         ·subst c24
          have H1 : (some (([] : List ByteArray), 2)) = some (r1, r2) := by rw [if_pos rfl] at H; exact H
          clear H
          have H := H1
          clear H1
          simp only [Option.some.injEq, Prod.mk.injEq] at H
          obtain ⟨rfl, rfl⟩ := H
          have p476 : 0 ≤ (t475 : Int) := of_decide_eq_true (by first | (with_reducible assumption) | assumption)
          have q476 : t475 < (l2.length : Int) := of_decide_eq_true (by first | (with_reducible assumption) | assumption)
          obtain ⟨ad476, e476, hx476_0, hx476_1⟩ := at_T112 HR2.out t475 p476 q476
          cases e476
          replace hx476_0 := (HB.out.cell (World.block_lt_of_cell? w _ hx476_0)).trans hx476_0
          replace hx476_1 := (HB.out.cell (World.block_lt_of_cell? w _ hx476_1)).trans hx476_1
          replace p476 := eq_true p476
          replace q476 := eq_true q476
          go_wp2_with (first | ((with_reducible refine gate_callee (f := 94) rfl ?_); refine goesL_ (some 39) rfl rfl Try.func94 (by kernel_rfl) rfl #[.string ((rd_T112 l2 t475).f1)] rfl (by (try simp only [List.map_toArray, List.map_cons, List.map_nil]); first | done | rfl | (simp only [List.length_drop, List.length_take]; rfl)) ?_; (with_reducible refine (impl_isLong.calls ((rd_T112 l2 t475).f1) false _ A19.out).mono ?_); rintro e w' ⟨rfl, ⟨nd, rfl⟩⟩; refine ⟨_, rfl, ?_⟩; (try (rw [drewN_self w15]; generalize hq_ : World.drewN w15 _ = w15; have n0_ : Aside0 (w15.heap[gb471]? = some (.cells #[.slice none 0 0, .int .i64 0] 61 (0, 0))) := ⟨by rw [← hq_]; exact (Cz.b BK471.out)⟩; have n1_ : Aside0 (Below w.heap.size w w15) := ⟨by rw [← hq_]; exact (Cz.w HB.out)⟩; clear BK471 HB hq_; have BK471 := n0_; have HB := n1_; clear n0_ n1_)); have p478 : 0 ≤ (t475 : Int) := of_decide_eq_true (by first | (with_reducible assumption) | assumption); have q478 : t475 < (l2.length : Int) := of_decide_eq_true (by first | (with_reducible assumption) | assumption); obtain ⟨ad478, e478, hx478_0, hx478_1⟩ := at_T112 HR2.out t475 p478 q478; obtain rfl : ad476 = ad478 := (by injection e478); replace hx478_0 := (HB.out.cell (World.block_lt_of_cell? w _ hx478_0)).trans hx478_0; replace hx478_1 := (HB.out.cell (World.block_lt_of_cell? w _ hx478_1)).trans hx478_1; replace p478 := eq_true p478; replace q478 := eq_true q478) | (go_at_call 113; (with_reducible refine (impl_long.calls ((rd_T112 l2 t475).f1) t479 _ A22.out).mono ?_); rintro e w' ⟨rfl, ⟨nd, rfl⟩⟩; (try (rw [drewN_self w15]; generalize hq_ : World.drewN w15 _ = w15; have n0_ : Aside0 (w15.heap[gb471]? = some (.cells #[.slice none 0 0, .int .i64 0] 61 (0, 0))) := ⟨by rw [← hq_]; exact (Cz.b BK471.out)⟩; have n1_ : Aside0 (Below w.heap.size w w15) := ⟨by rw [← hq_]; exact (Cz.w HB.out)⟩; clear BK471 HB hq_; have BK471 := n0_; have HB := n1_; clear n0_ n1_))) | (go_at_call 112; (with_reducible refine (impl_hasWrong.calls k _ _ l2 t479 true _ ?side1 ?side2 A23.out).mono ?_); (case side1 => exact Cz.c HR2.out HB.out); (case side2 => exact HC2.out); rintro e w25 ⟨rfl, hb⟩; have n_ := Cy.a2 (blk_below (g := gb471) (o := .cells #[.slice none 0 0, .int .i64 0] 61 (0, 0)) (Cz.b BK471.out) hb) (below_step (Cz.w HB.out) hb); clear BK471 HB; obtain ⟨BK471, HB⟩ := n_; (try clear hb); (try clear hb2); (try clear hk); (try clear hi); obtain ⟨hcz26_0, hcz26_1, hfz26_0, hfz26_1⟩ := Cy.z2 BK471.out))
          refine bodyPost_ret (results_cell_row rfl _ _ gb471 61 #[.slice none 0 0, .int .i64 2] (0, 0) _ rfl (by (with_reducible repeat (first | refine blk_drewN ?_ _ | refine blk_drew ?_ | refine blk_alloc ?_ _)); refine blk_put (cs := #[.slice none 0 0, .int .i64 0]) ?_ 1 _ rfl; (with_reducible repeat (first | refine blk_drewN ?_ _ | refine blk_drew ?_ | refine blk_alloc ?_ _)); refine blk_put (cs := #[.slice none 0 0, .int .i64 0]) ?_ 0 _ rfl; (with_reducible repeat (first | refine blk_drewN ?_ _ | refine blk_drew ?_ | refine blk_alloc ?_ _)); exact BK471.out) Try.underlying61 rfl (by kernel_rfl)) rfl ?_
          exact ⟨_, by first | rfl | (simp [errW_none, errW_some] <;> rfl) | (simp [*, errW_none, errW_some] <;> rfl), by first | exact Kd.R_nil _ _ _ _ _ | exact Kd.N_nil _ _ _ _ _ | exact Kd.V_nil _ _ _ _ _ | exact Kd.Q_nil _ _ _ _ _ | exact Kd.S_nil _ _ _ _ _, Cz.w HB.out⟩
         ·replace c24 := Bool.eq_false_iff.mpr c24
          subst c24
          have H1 : (impl_Repair.j0 k a0 a1 l2) = some (r1, r2) := by rw [if_neg (show ¬ (false = true) by decide)] at H; exact H
          clear H
          have H := H1
          clear H1
          have H' := Aside0.mk H
          clear H
          have p476 : 0 ≤ (t475 : Int) := of_decide_eq_true (by first | (with_reducible assumption) | assumption)
          have q476 : t475 < (l2.length : Int) := of_decide_eq_true (by first | (with_reducible assumption) | assumption)
          obtain ⟨ad476, e476, hx476_0, hx476_1⟩ := at_T112 HR2.out t475 p476 q476
          cases e476
          replace hx476_0 := (HB.out.cell (World.block_lt_of_cell? w _ hx476_0)).trans hx476_0
          replace hx476_1 := (HB.out.cell (World.block_lt_of_cell? w _ hx476_1)).trans hx476_1
          replace p476 := eq_true p476
          replace q476 := eq_true q476
          go_wp2_with (first | ((with_reducible refine gate_callee (f := 94) rfl ?_); refine goesL_ (some 39) rfl rfl Try.func94 (by kernel_rfl) rfl #[.string ((rd_T112 l2 t475).f1)] rfl (by (try simp only [List.map_toArray, List.map_cons, List.map_nil]); first | done | rfl | (simp only [List.length_drop, List.length_take]; rfl)) ?_; (with_reducible refine (impl_isLong.calls ((rd_T112 l2 t475).f1) false _ A19.out).mono ?_); rintro e w' ⟨rfl, ⟨nd, rfl⟩⟩; refine ⟨_, rfl, ?_⟩; have p478 : 0 ≤ (t475 : Int) := of_decide_eq_true (by first | (with_reducible assumption) | assumption); have q478 : t475 < (l2.length : Int) := of_decide_eq_true (by first | (with_reducible assumption) | assumption); obtain ⟨ad478, e478, hx478_0, hx478_1⟩ := at_T112 HR2.out t475 p478 q478; obtain rfl : ad476 = ad478 := (by injection e478); replace hx478_0 := (HB.out.cell (World.block_lt_of_cell? w _ hx478_0)).trans hx478_0; replace hx478_1 := (HB.out.cell (World.block_lt_of_cell? w _ hx478_1)).trans hx478_1; replace p478 := eq_true p478; replace q478 := eq_true q478) | (go_at_call 113; (with_reducible refine (impl_long.calls ((rd_T112 l2 t475).f1) t479 _ A22.out).mono ?_); rintro e w' ⟨rfl, ⟨nd, rfl⟩⟩) | (go_at_call 112; (with_reducible refine (impl_hasWrong.calls k _ _ l2 t479 false _ ?side1 ?side2 A23.out).mono ?_); (case side1 => repeat (first | exact (Kd.C_below HR2.out (Cz.w HB.out)) | (with_reducible refine Kd.C_alloc ?_ _) | (with_reducible refine Kd.C_drewN ?_ _) | (with_reducible refine Kd.C_drew ?_))); (case side2 => exact HC2.out); rintro e w27 ⟨rfl, hb⟩; have n_ := Cy.a2 (blk_below (g := gb471) (o := .cells #[.slice none 0 0, .int .i64 0] 61 (0, 0)) (Cz.b BK471.out) hb) (below_step (Cz.w HB.out) hb); clear BK471 HB; obtain ⟨BK471, HB⟩ := n_; (try clear hb); (try clear hb2); (try clear hk); (try clear hi)))
          go_meet
          case rel => exact ⟨_, (0), H', ⟨by first | omega | exact Nat.le_refl _⟩, ⟨Cz.b BK471.out⟩, ⟨Cz.w HB.out⟩⟩
       ·rw [if_neg c18] at H
        exact absurd H (by simp)
      ·rw [if_neg c17] at H
       exact absurd H (by simp)
     ·rw [if_neg c16] at H
      have c16b0 : decide (0 ≤ t475) = false := decide_eq_false c16
      clear c16
      (first | rw [c16b0] | (simp only [i64_w, i32_w]; rw [c16b0]) | skip)
      have H' := Aside0.mk H
      clear H
      go_wp2
      go_meet
      case rel => exact ⟨_, (0), H', ⟨by first | omega | exact Nat.le_refl _⟩, ⟨Cz.b BK471.out⟩, ⟨Cz.w HB.out⟩⟩
    case rest =>
     clear HC13
     try clear c1
     try clear c2
     try clear p2
     try clear p4
     try clear q4
     try clear hx4
     try clear c5
     try clear p6
     try clear c9
     try clear c10
     try clear c11
     try clear c11b0
     try clear c11b1
     try clear c16
     try clear c16b0
     try clear c17
     try clear c17b0
     try clear c18
     try clear c18b0
     try clear c20
     try clear c23
     try clear c24
     try clear hcz21_0
     try clear hcz21_1
     try clear hcz26_0
     try clear hcz26_1
     try clear hcz7_0
     try clear hcz7_1
     try clear hfz21_0
     try clear hfz21_1
     try clear hfz26_0
     try clear hfz26_1
     try clear hfz7_0
     try clear hfz7_1
     try clear hx476_0
     try clear hx476_1
     try clear hx478_0
     try clear hx478_1
     try clear p476
     try clear p478
     try clear q476
     try clear q478
     obtain ⟨kq, x472001_12, HA, HJ12, BK471, HB⟩ := hcut
     cases kq with
     | zero => exact absurd HA.out (by simp [impl_Repair.j0])
     | succ kj12 =>
      have H := HA.out
      clear HA
      simp only [impl_Repair.j0] at H
      replace H := Option.bind_eq_some_iff.mp H
      obtain ⟨⟨t481, t482⟩, A280, H⟩ := H
      replace H : (if t482 = true then (impl_Repair.l0 kj12 t481 l2 (l2.length : Int) 0) else (some (([] : List ByteArray), 10))) = some (r1, r2) := H
      have A28 := Aside0.mk A280
      clear A280
      by_cases c29 : t482 = true
      ·subst c29
       have H1 : (impl_Repair.l0 kj12 t481 l2 (l2.length : Int) 0) = some (r1, r2) := by rw [if_pos rfl] at H; exact H
       clear H
       have H := H1
       clear H1
       have H' := Aside0.mk H
       clear H
       go_wp2_with (first | ((with_reducible refine gate_callee (f := 114) rfl ?_); refine goesL_ (some 55) rfl rfl Try.func114 (by kernel_rfl) rfl #[.int .i64 a0, .int .i64 a1, .slice A2 l2.length c2] rfl (by (try simp only [List.map_toArray, List.map_cons, List.map_nil]); first | done | rfl | (simp only [List.length_drop, List.length_take]; rfl)) ?_; (with_reducible refine (impl_remade.calls kj12 a0 a1 _ _ l2 t481 true _ ?side1 ?side2 A28.out).mono ?_); (case side1 => exact Cz.c HR2.out HB.out); (case side2 => exact HC2.out); rintro e w30 ⟨v483, rfl, ho0, hb⟩; refine ⟨_, rfl, ?_⟩; have n_ := Cy.a3 (Kd.R_lower ho0 (below_size (Cz.w HB.out))) (blk_below (g := gb471) (o := .cells #[.slice none 0 0, .int .i64 x472001_12] 61 (0, 0)) (Cz.b BK471.out) hb) (below_step (Cz.w HB.out) hb); clear BK471 HB; obtain ⟨HO484, BK471, HB⟩ := n_; (try clear hb); (try clear hb2); (try clear hk); (try clear hi); (try clear ho0)))
       go_loopg [63] kj12 (fun kq v63 w' => ∃ (x8_2 : List ByteArray) (x63_2 : Int), v63 = .int .i64 x63_2 ∧ Aside0 (impl_Repair.l0 kq x8_2 l2 (l2.length : Int) x63_2 = some (r1, r2)) ∧ Aside0 (kq ≤ kj12) ∧ Aside0 (Kd.R Kd.string 9 w' w.heap.size (fun _ => True) v483 x8_2) ∧ Aside0 (w'.heap[gb471]? = some (.cells #[(.slice none 0 0), .int .i64 x472001_12] 61 (0, 0))) ∧ Aside0 (Below w.heap.size w w'))
       case atStart => exact ⟨(t481), (0), (by first | rfl | (simp; done) | (simp [*]; done)), H', ⟨Nat.le_refl _⟩, ⟨Cz.r HO484.out⟩, ⟨Cz.b BK471.out⟩, ⟨Cz.w HB.out⟩⟩
       case round =>
        clear H'
        try clear c1
        try clear c2
        try clear p2
        try clear p4
        try clear q4
        try clear hx4
        try clear c5
        try clear p6
        try clear c9
        try clear c10
        try clear c11
        try clear c11b0
        try clear c11b1
        try clear c16
        try clear c16b0
        try clear c17
        try clear c17b0
        try clear c18
        try clear c18b0
        try clear c20
        try clear c23
        try clear c24
        try clear c29
        try clear hcz21_0
        try clear hcz21_1
        try clear hcz26_0
        try clear hcz26_1
        try clear hcz7_0
        try clear hcz7_1
        try clear hfz21_0
        try clear hfz21_1
        try clear hfz26_0
        try clear hfz26_1
        try clear hfz7_0
        try clear hfz7_1
        try clear hx476_0
        try clear hx476_1
        try clear hx478_0
        try clear hx478_1
        try clear p2
        try clear p4
        try clear p476
        try clear p478
        try clear p6
        try clear q4
        try clear q476
        try clear q478
        obtain ⟨x8_2, x63_2, rfl, HA, HK2, HO_8, BK471, HB⟩ := hrel
        cases gk with
        | zero => exact absurd HA.out (by simp [impl_Repair.l0])
        | succ k2 =>
         have H := HA.out
         clear HA
         simp only [impl_Repair.l0] at H
         by_cases c31 : x63_2 < (l2.length : Int)
         ·rw [if_pos c31] at H
          have c31b0 : decide (x63_2 < (l2.length : Int)) = true := decide_eq_true c31
          clear c31
          by_cases c32 : 0 ≤ x63_2
          ·rw [if_pos c32] at H
           have c32b0 : decide (0 ≤ x63_2) = true := decide_eq_true c32
           clear c32
           by_cases c33 : x63_2 < (l2.length : Int)
           ·rw [if_pos c33] at H
            have c33b0 : decide (x63_2 < (l2.length : Int)) = true := decide_eq_true c33
            clear c33
            obtain ⟨bq34, hbq34⟩ : ∃ b_ : Bool, b_ = ((rd_T112 l2 x63_2).f0) := ⟨_, rfl⟩
            replace H : (if bq34 = true then (if x63_2 < (x8_2.length : Int) then (impl_Repair.l0 k2 (x8_2.set (x63_2 : Int).toNat ((rd_T112 l2 x63_2).f1)) l2 (l2.length : Int) (wrap64 (x63_2 + 1))) else (none)) else (impl_Repair.l0 k2 x8_2 l2 (l2.length : Int) (wrap64 (x63_2 + 1)))) = some (r1, r2) := by rw [← hbq34] at H; exact H
            have Nbq34 := Aside0.mk hbq34
            clear hbq34
            by_cases c35 : bq34 = true
            ·subst c35
             have H1 : (if x63_2 < (x8_2.length : Int) then (impl_Repair.l0 k2 (x8_2.set (x63_2 : Int).toNat ((rd_T112 l2 x63_2).f1)) l2 (l2.length : Int) (wrap64 (x63_2 + 1))) else (none)) = some (r1, r2) := by rw [if_pos rfl] at H; exact H
             clear H
             have H := H1
             clear H1
             by_cases c36 : x63_2 < (x8_2.length : Int)
             ·rw [if_pos c36] at H
              have c36b0 : decide (x63_2 < (x8_2.length : Int)) = true := decide_eq_true c36
              clear c36
              obtain ⟨y487, hy487⟩ : ∃ y_ : List ByteArray, y_ = (x8_2.set (x63_2 : Int).toNat ((rd_T112 l2 x63_2).f1)) := ⟨_, rfl⟩
              replace H : (impl_Repair.l0 k2 y487 l2 (l2.length : Int) (wrap64 (x63_2 + 1))) = some (r1, r2) := by first | (rw [hy487]; with_reducible exact H) | (have H2_ := (Option.bind_some _ _).symm.trans H; rw [hy487]; with_reducible exact H2_) | (have H2_ := (Option.bind_some _ _).symm.trans H; with_reducible exact H2_) | with_reducible exact H | (rw [hy487]; exact H) | exact H
              have Ny487 := Aside0.mk hy487
              clear hy487
              have H' := Aside0.mk H
              clear H
              have p485 : 0 ≤ (x63_2 : Int) := of_decide_eq_true (by first | (with_reducible assumption) | assumption)
              have q485 : x63_2 < (l2.length : Int) := of_decide_eq_true (by first | (with_reducible assumption) | assumption)
              obtain ⟨ad485, e485, hx485_0, hx485_1⟩ := at_T112 HR2.out x63_2 p485 q485
              (try rw [← Nbq34.out] at hx485_0)
              cases e485
              replace hx485_0 := (HB.out.cell (World.block_lt_of_cell? w _ hx485_0)).trans hx485_0
              replace hx485_1 := (HB.out.cell (World.block_lt_of_cell? w _ hx485_1)).trans hx485_1
              replace p485 := eq_true p485
              replace q485 := eq_true q485
              go_wp2_with (first | ((with_reducible refine gate_dst (N := 11) rfl ?_); refine box_event ?hg (N := 11) ?hd (cs := #[.bool false, .string (⟨#[]⟩ : ByteArray)]) (t := 112) ?hr ?_; (case hd => rfl); (case hg => rfl); (case hr => first | (go_simp; done) | (go_simp; rfl)); intro gb486 hg w38 hbox hb; have n_ := Cy.a8 (Kd.R_below (Cz.r HO_8.out) hb) (blk_below (g := gb471) (o := .cells #[.slice none 0 0, .int .i64 x472001_12] 61 (0, 0)) (Cz.b BK471.out) hb) (below_step (Cz.w HB.out) hb) hbox (Cy.gw hg HB.out) (Cy.gw hg HB.out) (by rw [hg]; exact Nat.ne_of_lt (blk_lt (g := gb471) (o := .cells #[.slice none 0 0, .int .i64 x472001_12] 61 (0, 0)) (Cz.b BK471.out)) : gb471 ≠ gb486) (by rw [hg]; exact Nat.ne_of_gt (blk_lt (g := gb471) (o := .cells #[.slice none 0 0, .int .i64 x472001_12] 61 (0, 0)) (Cz.b BK471.out)) : gb486 ≠ gb471); clear HO_8 BK471 HB; obtain ⟨HO_8, BK471, HB, BK486, GW486, GE486, NB471_486, NB486_471⟩ := n_; clear hb hbox hg; have hnb39 := NB486_471.out; have hnc39 := NB471_486.out; obtain ⟨hcz40_0, hcz40_1, hfz40_0, hfz40_1⟩ := Cy.z2 BK486.out) | ((with_reducible refine gate_store (t := 112) (p := 11) rfl ?_); refine store_event (t := 112) (p := 11) (v := ?vo_w41) (w1 := ((w38.setCell ⟨gb486, 0, none⟩ (.bool true)).setCell ⟨gb486, 1, none⟩ (.string ((rd_T112 l2 x63_2).f1)))) ?hg ?ho ?hn ?hr ?_; (case ho => rfl); (case hg => rfl); (case hn => rfl); (case hr => first | (go_simp; done) | (go_simp; rfl)); intro w41 hw; have n0_ : Aside0 (Kd.R Kd.string 9 w41 w.heap.size (fun _ => True) v483 x8_2) := ⟨(by rw [hw]; exact (by (with_reducible repeat (first | apply Kd.R_alloc | apply Kd.R_drewN | apply Kd.R_drew)); exact Kd.R_mono (Kd.R_far (p := ⟨gb486, 1, none⟩) (Kd.R_far (p := ⟨gb486, 0, none⟩) (Kd.R_types HO_8.out BK486.out (by decide)) (fun _ hk => hk.2) (.bool true)) (fun _ hk => hk.2) (.string ((rd_T112 l2 x63_2).f1))) (fun _ hk => trivial)))⟩; have n1_ : Aside0 (w41.heap[gb471]? = some (.cells #[.slice none 0 0, .int .i64 x472001_12] 61 (0, 0))) := ⟨(by rw [hw]; exact (Cz.f BK471.out NB471_486.out))⟩; have n2_ : Aside0 (w41.heap[gb486]? = some (.cells #[.bool true, .string ((rd_T112 l2 x63_2).f1)] 112 (0, 0))) := ⟨(by rw [hw]; exact (by (with_reducible repeat (first | refine blk_drewN ?_ _ | refine blk_drew ?_ | refine blk_alloc ?_ _)); refine blk_put (cs := #[.bool true, .string (⟨#[]⟩ : ByteArray)]) ?_ 1 _ rfl; (with_reducible repeat (first | refine blk_drewN ?_ _ | refine blk_drew ?_ | refine blk_alloc ?_ _)); refine blk_put (cs := #[.bool false, .string (⟨#[]⟩ : ByteArray)]) ?_ 0 _ rfl; (with_reducible repeat (first | refine blk_drewN ?_ _ | refine blk_drew ?_ | refine blk_alloc ?_ _)); exact BK486.out))⟩; have n3_ : Aside0 (Below w.heap.size w w41) := ⟨(by rw [hw]; exact (Cz.w HB.out))⟩; clear hw; clear HO_8 BK471 BK486 HB; have HO_8 := n0_; have BK471 := n1_; have BK486 := n2_; have HB := n3_; clear n0_ n1_ n2_ n3_; obtain ⟨hcz42_0, hcz42_1, hfz42_0, hfz42_1⟩ := Cy.z2 BK486.out; have p37 : 0 ≤ (x63_2 : Int) := of_decide_eq_true (by first | (with_reducible assumption) | assumption); have q37 : (x63_2 : Int) < ((x8_2.length : Int) : Int) := of_decide_eq_true (by first | (with_reducible assumption) | assumption); obtain ⟨go37, co37, eo37, gb37, gl37, cl37, HG37⟩ := Kd.R_form HO_8.out (by omega); (first | cases eo37 | (injection eo37 with ea_ en_ ec_; (first | subst ea_ | (injection ea_ with ea_; subst ea_)); subst ec_; clear en_)); have GB37 := Aside0.mk gb37; have GG37 := Aside0.mk HG37; clear gb37 gl37 HG37; obtain ⟨hx37_0, hf37_0⟩ := Kd.R_celln (⟨#[]⟩ : ByteArray) HO_8.out (x63_2 : Int) p37 q37; replace p37 := eq_true p37; replace q37 := eq_true q37; obtain ⟨hy43_, hz43_⟩ := Kd.R_celln (⟨#[]⟩ : ByteArray) HO_8.out (x63_2 : Int) (of_decide_eq_true (by first | (with_reducible assumption) | assumption)) (of_decide_eq_true (by first | (with_reducible assumption) | assumption)); have HP43 := Kd.R_putg HO_8.out (x63_2 : Int) ((rd_T112 l2 x63_2).f1)) | ((with_reducible refine gate_store (t := 9) (p := 74) rfl ?_); refine store_event (t := 9) (p := 74) (v := ?vo_w44) (w1 := (w41.setCell ⟨go37, (x63_2 : Int).toNat, none⟩ (.string ((rd_T112 l2 x63_2).f1)))) ?hg ?ho ?hn ?hr ?_; (case ho => rfl); (case hg => rfl); (case hn => rfl); (case hr => first | (go_simp; done) | (go_simp; rfl)); intro w44 hw; have hg : w41.grownBy w44 (some go37) := (by rw [hw]; exact HP43.2); have hp_ : Kd.R Kd.string 9 w44 w.heap.size (fun _ => True) (.slice (some ⟨go37, 0, none⟩) x8_2.length co37) y487 := (by rw [hw, Ny487.out]; exact HP43.1); clear HP43; have n_ := Cy.a4 hp_ (blk_grown (g := gb471) (o := .cells #[.slice none 0 0, .int .i64 x472001_12] 61 (0, 0)) (Cz.b BK471.out) hg (Kd.R_ne HO_8.out BK471.out (by decide))) (blk_grown (g := gb486) (o := .cells #[.bool true, .string ((rd_T112 l2 x63_2).f1)] 112 (0, 0)) (Cz.b BK486.out) hg (Kd.R_ne HO_8.out BK486.out (by decide))) (by rw [hw]; exact below_set (HB.out) GB37.out : Below w.heap.size w w44); clear HO_8 BK471 BK486 HB; obtain ⟨HO_8, BK471, BK486, HB⟩ := n_; clear hg hw hp_))
              go_roundg k2
              case measure => have := HJ12.out; have := HK2.out; omega
              case rel => exact ⟨(y487), (wrap64 (x63_2 + 1)), (by first | rfl | (simp; done) | (simp [*]; done)), H', ⟨by have := HJ12.out; have := HK2.out; omega⟩, ⟨Cz.r HO_8.out⟩, ⟨Cz.b BK471.out⟩, ⟨Cz.w HB.out⟩⟩
             ·rw [if_neg c36] at H
              exact absurd H (by simp)
            ·replace c35 := Bool.eq_false_iff.mpr c35
             subst c35
             have H1 : (impl_Repair.l0 k2 x8_2 l2 (l2.length : Int) (wrap64 (x63_2 + 1))) = some (r1, r2) := by rw [if_neg (show ¬ (false = true) by decide)] at H; exact H
             clear H
             have H := H1
             clear H1
             have H' := Aside0.mk H
             clear H
             have p485 : 0 ≤ (x63_2 : Int) := of_decide_eq_true (by first | (with_reducible assumption) | assumption)
             have q485 : x63_2 < (l2.length : Int) := of_decide_eq_true (by first | (with_reducible assumption) | assumption)
             obtain ⟨ad485, e485, hx485_0, hx485_1⟩ := at_T112 HR2.out x63_2 p485 q485
             (try rw [← Nbq34.out] at hx485_0)
             cases e485
             replace hx485_0 := (HB.out.cell (World.block_lt_of_cell? w _ hx485_0)).trans hx485_0
             replace hx485_1 := (HB.out.cell (World.block_lt_of_cell? w _ hx485_1)).trans hx485_1
             replace p485 := eq_true p485
             replace q485 := eq_true q485
             go_wp2_with (first | ((with_reducible refine gate_dst (N := 11) rfl ?_); refine box_event ?hg (N := 11) ?hd (cs := #[.bool false, .string (⟨#[]⟩ : ByteArray)]) (t := 112) ?hr ?_; (case hd => rfl); (case hg => rfl); (case hr => first | (go_simp; done) | (go_simp; rfl)); intro gb486 hg w45 hbox hb; have n_ := Cy.a8 (Kd.R_below (Cz.r HO_8.out) hb) (blk_below (g := gb471) (o := .cells #[.slice none 0 0, .int .i64 x472001_12] 61 (0, 0)) (Cz.b BK471.out) hb) (below_step (Cz.w HB.out) hb) hbox (Cy.gw hg HB.out) (Cy.gw hg HB.out) (by rw [hg]; exact Nat.ne_of_lt (blk_lt (g := gb471) (o := .cells #[.slice none 0 0, .int .i64 x472001_12] 61 (0, 0)) (Cz.b BK471.out)) : gb471 ≠ gb486) (by rw [hg]; exact Nat.ne_of_gt (blk_lt (g := gb471) (o := .cells #[.slice none 0 0, .int .i64 x472001_12] 61 (0, 0)) (Cz.b BK471.out)) : gb486 ≠ gb471); clear HO_8 BK471 HB; obtain ⟨HO_8, BK471, HB, BK486, GW486, GE486, NB471_486, NB486_471⟩ := n_; clear hb hbox hg; have hnb46 := NB486_471.out; have hnc46 := NB471_486.out; obtain ⟨hcz47_0, hcz47_1, hfz47_0, hfz47_1⟩ := Cy.z2 BK486.out))
             go_roundg k2
             case measure => have := HJ12.out; have := HK2.out; omega
             case rel => exact ⟨(x8_2), (wrap64 (x63_2 + 1)), (by first | rfl | (simp; done) | (simp [*]; done)), H', ⟨by have := HJ12.out; have := HK2.out; omega⟩, ⟨by (with_reducible repeat (first | apply Kd.R_alloc | apply Kd.R_drewN | apply Kd.R_drew)); exact Kd.R_mono (Kd.R_far (p := ⟨gb486, 1, none⟩) (Kd.R_far (p := ⟨gb486, 0, none⟩) (Kd.R_types HO_8.out BK486.out (by decide)) (fun _ hk => hk.2) (.bool false)) (fun _ hk => hk.2) (.string ((rd_T112 l2 x63_2).f1))) (fun _ hk => trivial)⟩, ⟨Cz.f BK471.out NB471_486.out⟩, ⟨Cz.w HB.out⟩⟩
           ·rw [if_neg c33] at H
            exact absurd H (by simp)
          ·rw [if_neg c32] at H
           exact absurd H (by simp)
         ·rw [if_neg c31] at H
          have c31b0 : decide (x63_2 < (l2.length : Int)) = false := decide_eq_false c31
          clear c31
          simp only [Option.some.injEq, Prod.mk.injEq] at H
          obtain ⟨rfl, rfl⟩ := H
          obtain ⟨Ao48, co48, eo48⟩ := Kd.R_slice HO_8.out
          subst eo48
          obtain ⟨hcz49_0, hcz49_1, hfz49_0, hfz49_1⟩ := Cy.z2 BK471.out
          go_wp2
          refine bodyPost_ret (results_cell_row rfl _ _ gb471 61 #[.slice Ao48 x8_2.length co48, .int .i64 0] (0, 0) _ rfl (by (with_reducible repeat (first | refine blk_drewN ?_ _ | refine blk_drew ?_ | refine blk_alloc ?_ _)); refine blk_put (cs := #[.slice Ao48 x8_2.length co48, .int .i64 x472001_12]) ?_ 1 _ rfl; (with_reducible repeat (first | refine blk_drewN ?_ _ | refine blk_drew ?_ | refine blk_alloc ?_ _)); refine blk_put (cs := #[.slice none 0 0, .int .i64 x472001_12]) ?_ 0 _ rfl; (with_reducible repeat (first | refine blk_drewN ?_ _ | refine blk_drew ?_ | refine blk_alloc ?_ _)); exact BK471.out) Try.underlying61 rfl (by kernel_rfl)) rfl ?_
          exact ⟨_, by first | rfl | (simp [errW_none, errW_some] <;> rfl) | (simp [*, errW_none, errW_some] <;> rfl), by (with_reducible repeat (first | apply Kd.R_alloc | apply Kd.R_drewN | apply Kd.R_drew)); exact Kd.R_mono (Kd.R_far (p := ⟨gb471, 1, none⟩) (Kd.R_far (p := ⟨gb471, 0, none⟩) (Kd.R_types HO_8.out BK471.out (by decide)) (fun _ hk => hk.2) (.slice Ao48 x8_2.length co48)) (fun _ hk => hk.2) (.int .i64 0)) (fun _ hk => trivial), Cz.w HB.out⟩
      ·replace c29 := Bool.eq_false_iff.mpr c29
       subst c29
       have H1 : (some (([] : List ByteArray), 10)) = some (r1, r2) := by rw [if_neg (show ¬ (false = true) by decide)] at H; exact H
       clear H
       have H := H1
       clear H1
       simp only [Option.some.injEq, Prod.mk.injEq] at H
       obtain ⟨rfl, rfl⟩ := H
       go_wp2_with (first | ((with_reducible refine gate_callee (f := 114) rfl ?_); refine goesL_ (some 55) rfl rfl Try.func114 (by kernel_rfl) rfl #[.int .i64 a0, .int .i64 a1, .slice A2 l2.length c2] rfl (by (try simp only [List.map_toArray, List.map_cons, List.map_nil]); first | done | rfl | (simp only [List.length_drop, List.length_take]; rfl)) ?_; (with_reducible refine (impl_remade.calls kj12 a0 a1 _ _ l2 t481 false _ ?side1 ?side2 A28.out).mono ?_); (case side1 => exact Cz.c HR2.out HB.out); (case side2 => exact HC2.out); rintro e w50 ⟨v483, rfl, ho0, hb⟩; refine ⟨_, rfl, ?_⟩; have n_ := Cy.a3 (Kd.R_lower ho0 (below_size (Cz.w HB.out))) (blk_below (g := gb471) (o := .cells #[.slice none 0 0, .int .i64 x472001_12] 61 (0, 0)) (Cz.b BK471.out) hb) (below_step (Cz.w HB.out) hb); clear BK471 HB; obtain ⟨HO484, BK471, HB⟩ := n_; (try clear hb); (try clear hb2); (try clear hk); (try clear hi); (try clear ho0); obtain ⟨hcz51_0, hcz51_1, hfz51_0, hfz51_1⟩ := Cy.z2 BK471.out))
       refine bodyPost_ret (results_cell_row rfl _ _ gb471 61 #[.slice none 0 0, .int .i64 10] (0, 0) _ rfl (by (with_reducible repeat (first | refine blk_drewN ?_ _ | refine blk_drew ?_ | refine blk_alloc ?_ _)); refine blk_put (cs := #[.slice none 0 0, .int .i64 x472001_12]) ?_ 1 _ rfl; (with_reducible repeat (first | refine blk_drewN ?_ _ | refine blk_drew ?_ | refine blk_alloc ?_ _)); refine blk_put (cs := #[.slice none 0 0, .int .i64 x472001_12]) ?_ 0 _ rfl; (with_reducible repeat (first | refine blk_drewN ?_ _ | refine blk_drew ?_ | refine blk_alloc ?_ _)); exact BK471.out) Try.underlying61 rfl (by kernel_rfl)) rfl ?_
       exact ⟨_, by first | rfl | (simp [errW_none, errW_some] <;> rfl) | (simp [*, errW_none, errW_some] <;> rfl), by first | exact Kd.R_nil _ _ _ _ _ | exact Kd.N_nil _ _ _ _ _ | exact Kd.V_nil _ _ _ _ _ | exact Kd.Q_nil _ _ _ _ _ | exact Kd.S_nil _ _ _ _ _, Cz.w HB.out⟩
   ·rw [if_neg c11] at H
    have c11b0 : (t474 == (wrap64 (a0 + a1))) = false := beq_eq_false_iff_ne.mpr c11
    have c11b1 : (t474 != (wrap64 (a0 + a1))) = true := bne_iff_ne.mpr c11
    simp only [Option.some.injEq, Prod.mk.injEq] at H
    obtain ⟨rfl, rfl⟩ := H
    go_enter Try.func58, Try.ntmps58
    go_wp2_with (first | ((with_reducible refine gate_dst (N := 6) rfl ?_); refine box_event ?hg (N := 6) ?hd (cs := #[.slice none 0 0, .int .i64 0]) (t := 61) ?hr ?_; (case hd => rfl); (case hg => rfl); (case hr => first | (go_simp; done) | (go_simp; rfl)); intro gb471 hg w52 hbox hb; have n_ := Cy.a4 (below_step (Cz.w HB.out) hb) hbox (Cy.gw hg HB.out) (Cy.gw hg HB.out); clear HB; obtain ⟨HB, BK471, GW471, GE471⟩ := n_; clear hb hbox hg) | ((with_reducible refine gate_callee (f := 108) rfl ?_); refine goesL_ (some 14) rfl rfl Try.func108 (by kernel_rfl) rfl #[.slice A2 l2.length c2] rfl (by (try simp only [List.map_toArray, List.map_cons, List.map_nil]); first | done | rfl | (simp only [List.length_drop, List.length_take]; rfl)) ?_; (with_reducible refine (impl_Shard_108.calls _ _ l2 false _ ?side1 ?side2 A4.out).mono ?_); (case side1 => exact Cz.c HR2.out HB.out); (case side2 => exact HC2.out); rintro e w' ⟨rfl, ⟨nd, rfl⟩⟩; refine ⟨_, rfl, ?_⟩; (try (rw [drewN_self w52]; generalize hq_ : World.drewN w52 _ = w52; have n0_ : Aside0 (w52.heap[gb471]? = some (.cells #[.slice none 0 0, .int .i64 0] 61 (0, 0))) := ⟨by rw [← hq_]; exact (Cz.b BK471.out)⟩; have n1_ : Aside0 (Below w.heap.size w w52) := ⟨by rw [← hq_]; exact (Cz.w HB.out)⟩; clear BK471 HB hq_; have BK471 := n0_; have HB := n1_; clear n0_ n1_))) | ((with_reducible refine gate_callee (f := 23) rfl ?_); refine goesL_ (some 19) rfl rfl Try.func23 (by kernel_rfl) rfl #[.int .i64 a0, .int .i64 a1] rfl (by (try simp only [List.map_toArray, List.map_cons, List.map_nil]); first | done | rfl | (simp only [List.length_drop, List.length_take]; rfl)) ?_; (with_reducible refine (impl_CodeRight.calls a0 a1 true _ A8.out).mono ?_); rintro e w' ⟨rfl, ⟨nd, rfl⟩⟩; refine ⟨_, rfl, ?_⟩; (try (rw [drewN_self w52]; generalize hq_ : World.drewN w52 _ = w52; have n0_ : Aside0 (w52.heap[gb471]? = some (.cells #[.slice none 0 0, .int .i64 0] 61 (0, 0))) := ⟨by rw [← hq_]; exact (Cz.b BK471.out)⟩; have n1_ : Aside0 (Below w.heap.size w w52) := ⟨by rw [← hq_]; exact (Cz.w HB.out)⟩; clear BK471 HB hq_; have BK471 := n0_; have HB := n1_; clear n0_ n1_))) | (go_at_call 109; (with_reducible refine (impl_Shard_109.calls _ _ l2 t474 _ ?side1 ?side2 A10.out).mono ?_); (case side1 => exact Cz.c HR2.out HB.out); (case side2 => exact HC2.out); rintro e w' ⟨rfl, ⟨nd, rfl⟩⟩; (try (rw [drewN_self w52]; generalize hq_ : World.drewN w52 _ = w52; have n0_ : Aside0 (w52.heap[gb471]? = some (.cells #[.slice none 0 0, .int .i64 0] 61 (0, 0))) := ⟨by rw [← hq_]; exact (Cz.b BK471.out)⟩; have n1_ : Aside0 (Below w.heap.size w w52) := ⟨by rw [← hq_]; exact (Cz.w HB.out)⟩; clear BK471 HB hq_; have BK471 := n0_; have HB := n1_; clear n0_ n1_)); obtain ⟨hcz53_0, hcz53_1, hfz53_0, hfz53_1⟩ := Cy.z2 BK471.out))
    refine bodyPost_ret (results_cell_row rfl _ _ gb471 61 #[.slice none 0 0, .int .i64 1] (0, 0) _ rfl (by (with_reducible repeat (first | refine blk_drewN ?_ _ | refine blk_drew ?_ | refine blk_alloc ?_ _)); refine blk_put (cs := #[.slice none 0 0, .int .i64 0]) ?_ 1 _ rfl; (with_reducible repeat (first | refine blk_drewN ?_ _ | refine blk_drew ?_ | refine blk_alloc ?_ _)); refine blk_put (cs := #[.slice none 0 0, .int .i64 0]) ?_ 0 _ rfl; (with_reducible repeat (first | refine blk_drewN ?_ _ | refine blk_drew ?_ | refine blk_alloc ?_ _)); exact BK471.out) Try.underlying61 rfl (by kernel_rfl)) rfl ?_
    exact ⟨_, by first | rfl | (simp [errW_none, errW_some] <;> rfl) | (simp [*, errW_none, errW_some] <;> rfl), by first | exact Kd.R_nil _ _ _ _ _ | exact Kd.N_nil _ _ _ _ _ | exact Kd.V_nil _ _ _ _ _ | exact Kd.Q_nil _ _ _ _ _ | exact Kd.S_nil _ _ _ _ _, Cz.w HB.out⟩
  ·replace c9 := Bool.eq_false_iff.mpr c9
   subst c9
   have H1 : (some (([] : List ByteArray), 1)) = some (r1, r2) := by rw [if_neg (show ¬ (false = true) by decide)] at H; exact H
   clear H
   have H := H1
   clear H1
   simp only [Option.some.injEq, Prod.mk.injEq] at H
   obtain ⟨rfl, rfl⟩ := H
   go_enter Try.func58, Try.ntmps58
   go_wp2_with (first | ((with_reducible refine gate_dst (N := 6) rfl ?_); refine box_event ?hg (N := 6) ?hd (cs := #[.slice none 0 0, .int .i64 0]) (t := 61) ?hr ?_; (case hd => rfl); (case hg => rfl); (case hr => first | (go_simp; done) | (go_simp; rfl)); intro gb471 hg w54 hbox hb; have n_ := Cy.a4 (below_step (Cz.w HB.out) hb) hbox (Cy.gw hg HB.out) (Cy.gw hg HB.out); clear HB; obtain ⟨HB, BK471, GW471, GE471⟩ := n_; clear hb hbox hg) | ((with_reducible refine gate_callee (f := 108) rfl ?_); refine goesL_ (some 14) rfl rfl Try.func108 (by kernel_rfl) rfl #[.slice A2 l2.length c2] rfl (by (try simp only [List.map_toArray, List.map_cons, List.map_nil]); first | done | rfl | (simp only [List.length_drop, List.length_take]; rfl)) ?_; (with_reducible refine (impl_Shard_108.calls _ _ l2 false _ ?side1 ?side2 A4.out).mono ?_); (case side1 => exact Cz.c HR2.out HB.out); (case side2 => exact HC2.out); rintro e w' ⟨rfl, ⟨nd, rfl⟩⟩; refine ⟨_, rfl, ?_⟩; (try (rw [drewN_self w54]; generalize hq_ : World.drewN w54 _ = w54; have n0_ : Aside0 (w54.heap[gb471]? = some (.cells #[.slice none 0 0, .int .i64 0] 61 (0, 0))) := ⟨by rw [← hq_]; exact (Cz.b BK471.out)⟩; have n1_ : Aside0 (Below w.heap.size w w54) := ⟨by rw [← hq_]; exact (Cz.w HB.out)⟩; clear BK471 HB hq_; have BK471 := n0_; have HB := n1_; clear n0_ n1_))) | ((with_reducible refine gate_callee (f := 23) rfl ?_); refine goesL_ (some 19) rfl rfl Try.func23 (by kernel_rfl) rfl #[.int .i64 a0, .int .i64 a1] rfl (by (try simp only [List.map_toArray, List.map_cons, List.map_nil]); first | done | rfl | (simp only [List.length_drop, List.length_take]; rfl)) ?_; (with_reducible refine (impl_CodeRight.calls a0 a1 false _ A8.out).mono ?_); rintro e w' ⟨rfl, ⟨nd, rfl⟩⟩; refine ⟨_, rfl, ?_⟩; (try (rw [drewN_self w54]; generalize hq_ : World.drewN w54 _ = w54; have n0_ : Aside0 (w54.heap[gb471]? = some (.cells #[.slice none 0 0, .int .i64 0] 61 (0, 0))) := ⟨by rw [← hq_]; exact (Cz.b BK471.out)⟩; have n1_ : Aside0 (Below w.heap.size w w54) := ⟨by rw [← hq_]; exact (Cz.w HB.out)⟩; clear BK471 HB hq_; have BK471 := n0_; have HB := n1_; clear n0_ n1_)); obtain ⟨hcz55_0, hcz55_1, hfz55_0, hfz55_1⟩ := Cy.z2 BK471.out))
   refine bodyPost_ret (results_cell_row rfl _ _ gb471 61 #[.slice none 0 0, .int .i64 1] (0, 0) _ rfl (by (with_reducible repeat (first | refine blk_drewN ?_ _ | refine blk_drew ?_ | refine blk_alloc ?_ _)); refine blk_put (cs := #[.slice none 0 0, .int .i64 0]) ?_ 1 _ rfl; (with_reducible repeat (first | refine blk_drewN ?_ _ | refine blk_drew ?_ | refine blk_alloc ?_ _)); refine blk_put (cs := #[.slice none 0 0, .int .i64 0]) ?_ 0 _ rfl; (with_reducible repeat (first | refine blk_drewN ?_ _ | refine blk_drew ?_ | refine blk_alloc ?_ _)); exact BK471.out) Try.underlying61 rfl (by kernel_rfl)) rfl ?_
   exact ⟨_, by first | rfl | (simp [errW_none, errW_some] <;> rfl) | (simp [*, errW_none, errW_some] <;> rfl), by first | exact Kd.R_nil _ _ _ _ _ | exact Kd.N_nil _ _ _ _ _ | exact Kd.V_nil _ _ _ _ _ | exact Kd.Q_nil _ _ _ _ _ | exact Kd.S_nil _ _ _ _ _, Cz.w HB.out⟩
def laws_eqShard.f (a0_0 : Bool) (a0_1 : ByteArray) (a1_0 : Bool) (a1_1 : ByteArray) : Option (Bool) := if (a0_0 != a1_0) = true then (none) else (if a0_1.toList = a1_1.toList then (some true) else (none))
set_option maxHeartbeats 8000000 in
set_option maxRecDepth 100000 in
theorem laws_eqShard.calls (a0_0 : Bool) (a0_1 : ByteArray) (a1_0 : Bool) (a1_1 : ByteArray) (r : Bool) (w : World) (h : laws_eqShard.f a0_0 a0_1 a1_0 a1_1 = some r) :
  Calls Try.prog 115 #[.agg #[.bool a0_0, .string a0_1], .agg #[.bool a1_0, .string a1_1]] w fun e w' => e = .returned (.bool r) ∧ Below w.heap.size w w' := by
 have hu112 := Try.underlying112
 have HB := Aside0.mk (Below.refl w.heap.size w)
 have H : (if (a0_0 != a1_0) = true then (none) else (if a0_1.toList = a1_1.toList then (some true) else (none))) = some r := h
 clear h
 by_cases c3 : (a0_0 != a1_0) = true
 ·rw [if_pos c3] at H
  exact absurd H (by simp)
 ·rw [if_neg c3] at H
  have c3b0 : (a0_0 != a1_0) = false := by simpa using c3
  (try (have c3b1 : decide (a0_0 = a1_0) = true := by simpa using c3))
  (try (have c3b2 : (a0_0 == a1_0) = true := by simpa using c3))
  clear c3
  by_cases c4 : a0_1.toList = a1_1.toList
  ·rw [if_pos c4] at H
   have c4b0 : (a0_1.toList == a1_1.toList) = true := beq_iff_eq.mpr c4
   have c4b1 : (a0_1.toList != a1_1.toList) = false := bne_eq_false_iff_eq.mpr c4
   clear c4
   obtain rfl := Option.some.inj H
   go_enter Try.func115, Try.ntmps115
   go_wp2_with (first | ((with_reducible refine gate_dst (N := 2) rfl ?_); refine box_event ?hg (N := 2) ?hd (cs := #[.bool a0_0, .string a0_1]) (t := 112) ?hr ?_; (case hd => rfl); (case hg => rfl); (case hr => first | (go_simp; done) | (go_simp; rfl)); intro gb488 hg w5 hbox hb; have n_ := Cy.a4 (below_step (Cz.w HB.out) hb) hbox (Cy.gw hg HB.out) (Cy.gw hg HB.out); clear HB; obtain ⟨HB, BK488, GW488, GE488⟩ := n_; clear hb hbox hg) | ((with_reducible refine gate_dst (N := 3) rfl ?_); refine box_event ?hg (N := 3) ?hd (cs := #[.bool a1_0, .string a1_1]) (t := 112) ?hr ?_; (case hd => rfl); (case hg => rfl); (case hr => first | (go_simp; done) | (go_simp; rfl)); intro gb489 hg w6 hbox hb; have n_ := Cy.a7 (blk_below (g := gb488) (o := .cells #[.bool a0_0, .string a0_1] 112 (0, 0)) (Cz.b BK488.out) hb) (below_step (Cz.w HB.out) hb) hbox (Cy.gw hg HB.out) (Cy.gw hg HB.out) (by rw [hg]; exact Nat.ne_of_lt (blk_lt (g := gb488) (o := .cells #[.bool a0_0, .string a0_1] 112 (0, 0)) (Cz.b BK488.out)) : gb488 ≠ gb489) (by rw [hg]; exact Nat.ne_of_gt (blk_lt (g := gb488) (o := .cells #[.bool a0_0, .string a0_1] 112 (0, 0)) (Cz.b BK488.out)) : gb489 ≠ gb488); clear BK488 HB; obtain ⟨BK488, HB, BK489, GW489, GE489, NB488_489, NB489_488⟩ := n_; clear hb hbox hg; have hnb7 := NB488_489.out; have hnc7 := NB489_488.out; obtain ⟨hcz8_0, hcz8_1, hfz8_0, hfz8_1⟩ := Cy.z2 BK488.out; obtain ⟨hcz9_0, hcz9_1, hfz9_0, hfz9_1⟩ := Cy.z2 BK489.out))
   go_ret
   exact ⟨by first | rfl | (simp [errW_none, errW_some] <;> rfl) | (simp [*, errW_none, errW_some] <;> rfl), Cz.w HB.out⟩
  ·rw [if_neg c4] at H
   exact absurd H (by simp)
def laws_eqShardS.l0 : Nat → List (S112) → List (S112) → Int → Option (Bool)
 | 0, _, _, _ => none
 | k + 1, x0, x1, x5 => if x5 < (x0.length : Int) then (if 0 ≤ x5 then (if x5 < (x1.length : Int) then ((laws_eqShard.f ((rd_T112 x0 x5).f0) ((rd_T112 x0 x5).f1) ((rd_T112 x1 x5).f0) ((rd_T112 x1 x5).f1)).bind fun t492 => (if t492 = true then (laws_eqShardS.l0 k x0 x1 (wrap64 (x5 + 1))) else (none))) else (none)) else (none)) else (some true)
def laws_eqShardS.f (k : Nat) (l0 : List (S112)) (l1 : List (S112)) : Option (Bool) := if (l0.length : Int) = (l1.length : Int) then (laws_eqShardS.l0 k l0 l1 0) else (none)
def laws_eqShardS.T6 : Bool × List (List Nat × List Nat) := (true, [([], []), ([], []), ([0, 1], [0, 1]), ([2], [2]), ([], []), ([], []), ([4, 5], [4, 5]), ([6], [6]), ([3, 7], [3, 7]), ([8], [8])])
def laws_eqShardS.B6 : List Nat := [0, 0, 3, 7, 0, 0, 48, 112, 255, 511]
theorem laws_eqShardS.tab6 : rtab .any (opsOf Try.f59 6) = laws_eqShardS.T6 := by kernel_rfl
theorem laws_eqShardS.bits6 : waitsOk laws_eqShardS.T6.2 laws_eqShardS.B6 = true := by kernel_rfl
set_option maxHeartbeats 8000000 in
set_option maxRecDepth 100000 in
theorem laws_eqShardS.calls (k : Nat) (A0 : Option Addr) (c0 : Nat) (l0 : List (S112)) (A1 : Option Addr) (c1 : Nat) (l1 : List (S112)) (r : Bool) (w : World) (hr0 : Kd.C k112 w A0 l0.length l0) (hc0 : l0.length ≤ c0) (hr1 : Kd.C k112 w A1 l1.length l1) (hc1 : l1.length ≤ c1) (h : laws_eqShardS.f k l0 l1 = some r) :
  Calls Try.prog 59 #[.slice A0 l0.length c0, .slice A1 l1.length c1] w fun e w' => e = .returned (.bool r) ∧ Below w.heap.size w w' := by
 have hu112 := Try.underlying112
 have HR0 := Aside0.mk hr0
 have HC0 := Aside0.mk hc0
 clear hr0 hc0
 have HR1 := Aside0.mk hr1
 have HC1 := Aside0.mk hc1
 clear hr1 hc1
 have HB := Aside0.mk (Below.refl w.heap.size w)
 have H : (if (l0.length : Int) = (l1.length : Int) then (laws_eqShardS.l0 k l0 l1 0) else (none)) = some r := h
 clear h
 by_cases c3 : (l0.length : Int) = (l1.length : Int)
 ·rw [if_pos c3] at H
  have c3b0 : ((l0.length : Int) == (l1.length : Int)) = true := beq_iff_eq.mpr c3
  have c3b1 : ((l0.length : Int) != (l1.length : Int)) = false := bne_eq_false_iff_eq.mpr c3
  have c3b2 : (l0.length == l1.length) = true := by first | simpa using c3 | (simp at c3 ⊢; omega)
  clear c3
  have H' := Aside0.mk H
  clear H
  go_enter Try.func59, Try.ntmps59
  go_wp2
  go_loopg [5] k (fun kq v5 w' => ∃ (x5_1 : Int), v5 = .int .i64 x5_1 ∧ Aside0 (laws_eqShardS.l0 kq l0 l1 x5_1 = some r) ∧ Aside0 (kq ≤ k) ∧ Aside0 (Below w.heap.size w w'))
  case atStart => exact ⟨(0), (by first | rfl | (simp; done) | (simp [*]; done)), H', ⟨Nat.le_refl _⟩, ⟨Cz.w HB.out⟩⟩
  case round =>
   clear H'
   try clear c1
   try clear p2
   try clear c3
   try clear c3b0
   try clear c3b1
   try clear c3b2
   obtain ⟨x5_1, rfl, HA, HK1, HB⟩ := hrel
   cases gk with
   | zero => exact absurd HA.out (by simp [laws_eqShardS.l0])
   | succ k1 =>
    have H := HA.out
    clear HA
    simp only [laws_eqShardS.l0] at H
    by_cases c4 : x5_1 < (l0.length : Int)
    ·rw [if_pos c4] at H
     have c4b0 : decide (x5_1 < (l0.length : Int)) = true := decide_eq_true c4
     clear c4
     by_cases c5 : 0 ≤ x5_1
     ·rw [if_pos c5] at H
      have c5b0 : decide (0 ≤ x5_1) = true := decide_eq_true c5
      clear c5
      by_cases c6 : x5_1 < (l1.length : Int)
      ·rw [if_pos c6] at H
       have c6b0 : decide (x5_1 < (l1.length : Int)) = true := decide_eq_true c6
       clear c6
       replace H := Option.bind_eq_some_iff.mp H
       obtain ⟨t492, A70, H⟩ := H
       replace H : (if t492 = true then (laws_eqShardS.l0 k1 l0 l1 (wrap64 (x5_1 + 1))) else (none)) = some r := H
       have A7 := Aside0.mk A70
       clear A70
       by_cases c8 : t492 = true
       ·subst c8
        have H1 : (laws_eqShardS.l0 k1 l0 l1 (wrap64 (x5_1 + 1))) = some r := by rw [if_pos rfl] at H; exact H
        clear H
        have H := H1
        clear H1
        have H' := Aside0.mk H
        clear H
        try go_wp2
        replace HB := Aside0.mk (below_drew1 HB.out)
        have p490 : 0 ≤ (x5_1 : Int) := of_decide_eq_true (by first | (with_reducible assumption) | assumption)
        have q490 : x5_1 < (l0.length : Int) := of_decide_eq_true (by first | (with_reducible assumption) | assumption)
        obtain ⟨ad490, e490, hx490_0, hx490_1⟩ := at_T112 HR0.out x5_1 p490 q490
        have hw490_1 := hx490_1
        have hw490_0 := hx490_0
        cases e490
        replace hx490_0 := (HB.out.cell (World.block_lt_of_cell? w _ hx490_0)).trans hx490_0
        replace hx490_1 := (HB.out.cell (World.block_lt_of_cell? w _ hx490_1)).trans hx490_1
        replace p490 := eq_true p490
        replace q490 := eq_true q490
        have p491 : 0 ≤ (x5_1 : Int) := of_decide_eq_true (by first | (with_reducible assumption) | assumption)
        have q491 : x5_1 < (l1.length : Int) := of_decide_eq_true (by first | (with_reducible assumption) | assumption)
        obtain ⟨ad491, e491, hx491_0, hx491_1⟩ := at_T112 HR1.out x5_1 p491 q491
        have hw491_1 := hx491_1
        have hw491_0 := hx491_0
        cases e491
        replace hx491_0 := (HB.out.cell (World.block_lt_of_cell? w _ hx491_0)).trans hx491_0
        replace hx491_1 := (HB.out.cell (World.block_lt_of_cell? w _ hx491_1)).trans hx491_1
        replace p491 := eq_true p491
        replace q491 := eq_true q491
        refine start_ (n := 10) (S := fun w' => w'.cell? (ad490.add ((x5_1).toNat * 2)) = some (.bool ((rd_T112 l0 x5_1).f0)) ∧ w'.cell? ⟨(ad490.add ((x5_1).toNat * 2)).block, (ad490.add ((x5_1).toNat * 2)).off + 1, none⟩ = some (.string ((rd_T112 l0 x5_1).f1)) ∧ w'.cell? (ad491.add ((x5_1).toNat * 2)) = some (.bool ((rd_T112 l1 x5_1).f0)) ∧ w'.cell? ⟨(ad491.add ((x5_1).toNat * 2)).block, (ad491.add ((x5_1).toNat * 2)).off + 1, none⟩ = some (.string ((rd_T112 l1 x5_1).f1))) (ds := []) #[false, false, false, false, false, false, false, false, false, false] (by kernel_rfl) rfl rfl ⟨((HB.out.cell (World.block_lt_of_cell? w _ hw490_0)).trans hw490_0), ((HB.out.cell (World.block_lt_of_cell? w _ hw490_1)).trans hw490_1), ((HB.out.cell (World.block_lt_of_cell? w _ hw491_0)).trans hw491_0), ((HB.out.cell (World.block_lt_of_cell? w _ hw491_1)).trans hw491_1)⟩ (fun hHeld => ?_); refine with_tabW laws_eqShardS.tab6 laws_eqShardS.bits6 (fun HT_ HW_ => ?_)
        generalize wr.drew = w9 at HB hx490_0 hx490_1 hx491_0 hx491_1 hHeld ⊢
        refine Cy.pu 0 17 HT_ ?_
        refine Cy.pu 1 18 HT_ ?_
        refine Cy.pu 2 19 HT_ ?_
        refine Cy.pu 4 21 HT_ ?_
        refine Cy.pu 5 22 HT_ ?_
        refine Cy.pu 6 23 HT_ ?_
        refine Cy.tk 3 20 HT_ HW_ hHeld ?_
        refine Cy.tk 7 24 HT_ HW_ hHeld ?_
        refine one_ (i := 8) (N := some 25) #[true, true, true, true, true, true, true, true, true, false] rfl rfl (one_of HT_.out (by kernel_rfl)) (by decide) (fun K hK => ?_)
        refine goes_ Try.func115 (by kernel_rfl) rfl #[.agg #[.bool ((rd_T112 l0 x5_1).f0), .string ((rd_T112 l0 x5_1).f1)], .agg #[.bool ((rd_T112 l1 x5_1).f0), .string ((rd_T112 l1 x5_1).f1)]] (by rfl) rfl rfl (by (try simp only [List.map_toArray, List.map_cons, List.map_nil]); first | done | rfl | (simp only [List.length_drop, List.length_take]; rfl)) ?_
        with_reducible refine (laws_eqShard.calls ((rd_T112 l0 x5_1).f0) ((rd_T112 l0 x5_1).f1) ((rd_T112 l1 x5_1).f0) ((rd_T112 l1 x5_1).f1) true _ A7.out).mono ?_
        rintro e w10 ⟨rfl, hb⟩
        refine ⟨_, rfl, ?_⟩
        replace HB := Aside0.mk (below_step (Cz.w HB.out) hb)
        (try clear hb)
        (try clear hb2)
        (try clear hk)
        (try clear hi)
        refine hK.out _ _ ⟨((HB.out.cell (World.block_lt_of_cell? w _ hw490_0)).trans hw490_0), ((HB.out.cell (World.block_lt_of_cell? w _ hw490_1)).trans hw490_1), ((HB.out.cell (World.block_lt_of_cell? w _ hw491_0)).trans hw491_0), ((HB.out.cell (World.block_lt_of_cell? w _ hw491_1)).trans hw491_1)⟩ (fun hHeld => ?_)
        clear hK K
        refine norm_ (a' := ?_) ?_ ?_
        rotate_left
        ·show Act.put _ (some 25) _ = _
         simp only [Act.put, List.setIfInBounds_toArray, List.set_cons_zero, List.set_cons_succ, i64_w, i32_w]
         rfl
        refine Cy.pu 9 26 HT_ ?_
        refine done_ (done_of HT_.out (by kernel_rfl)) ?_
        try go_wp2
        go_roundg k1
        case measure => have := HK1.out; omega
        case rel => exact ⟨(wrap64 (x5_1 + 1)), (by first | rfl | (simp; done) | (simp [*]; done)), H', ⟨by have := HK1.out; omega⟩, ⟨Cz.w HB.out⟩⟩
       ·replace c8 := Bool.eq_false_iff.mpr c8
        subst c8
        have H1 : (none) = some r := by rw [if_neg (show ¬ (false = true) by decide)] at H; exact H
        clear H
        have H := H1
        clear H1
        exact absurd H (by simp)
      ·rw [if_neg c6] at H
       exact absurd H (by simp)
     ·rw [if_neg c5] at H
      exact absurd H (by simp)
    ·rw [if_neg c4] at H
     have c4b0 : decide (x5_1 < (l0.length : Int)) = false := decide_eq_false c4
     clear c4
     obtain rfl := Option.some.inj H
     go_wp2
     go_ret
     exact ⟨by first | rfl | (simp [errW_none, errW_some] <;> rfl) | (simp [*, errW_none, errW_some] <;> rfl), Cz.w HB.out⟩
 ·rw [if_neg c3] at H
  exact absurd H (by simp)
end Go.Proofs.Ytlololbhlnapkaa.XFnExactRepair

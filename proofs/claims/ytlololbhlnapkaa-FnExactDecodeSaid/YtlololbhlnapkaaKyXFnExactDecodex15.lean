/- Plain functions of what the law reaches, proofs that the calls come to them, and the law's row: written by a program of this session (xprint.py) over the kit's print. No conditions beyond each lemma's own. -/
import Derived.Test.YtlololbhlnapkaaKyCy
import Derived.Test.YtlololbhlnapkaaKyXFnExactDecodex0
import Derived.Test.YtlololbhlnapkaaKyXFnExactDecodex10
import Derived.Test.YtlololbhlnapkaaKyXFnExactDecodex11
import Derived.Test.YtlololbhlnapkaaKyXFnExactDecodex13
import Derived.Test.YtlololbhlnapkaaKyXFnExactDecodex14
namespace Go.Proofs.Ytlololbhlnapkaa.XFnExactDecode
open Go.RowKit Go.Proofs.YtlololbhlnapkaaW.PrintWords Go.Proofs.YtlololbhlnapkaaW.PrintLast Go.Proofs.YtlololbhlnapkaaW.PrintMore
attribute [local go_sem] max2_int min2_int max_two min_two max_three min_three max_four min_four   -- for this text's walks alone
set_option linter.unusedVariables false
set_option linter.unusedSimpArgs false
def impl_remade.l0 : Nat → Int → Int → List Int → List ByteArray → List (S112) → Int → Int → Option (List ByteArray × Bool)
  | 0, _, _, _, _, _, _, _ => none
  | k + 1, x0, x1, x8, x9, x15, x16, x17 => if x17 < x16 then (if 0 ≤ x17 then (if x17 < (x15.length : Int) then (if (rd_T112 x15 x17).f0 = true then ((impl_size_int64_67.f x8).bind fun t423 => (if t423 < x0 then ((some (([x17] : List Int) : List Int)).bind fun y424 => (if x8.length + y424.length < 17592186044416 then ((some (([(rd_T112 x15 x17).f1] : List ByteArray) : List ByteArray)).bind fun y430 => (if x9.length + y430.length < 8796093022208 then (impl_remade.l0 k x0 x1 (x8 ++ y424) (x9 ++ y430) x15 x16 (wrap64 (x17 + 1))) else (none))) else (none))) else (impl_remade.l0 k x0 x1 x8 x9 x15 x16 (wrap64 (x17 + 1))))) else (impl_remade.l0 k x0 x1 x8 x9 x15 x16 (wrap64 (x17 + 1)))) else (none)) else (none)) else ((impl_size_int64_67.f x8).bind fun t436 => (if t436 < x0 then (some (([] : List ByteArray), false)) else ((impl_cauchy.f k x0 x1).bind fun bt437 => ((impl_Matrix_pick.f k bt437.1 bt437.2.1 bt437.2.2 x8).bind fun bt443 => ((impl_Matrix_inverse.f bt443.1 bt443.2.1 bt443.2.2).bind fun bt448 => ((impl_combined.f k bt448.1 bt448.2.1 bt448.2.2.1 x9).bind fun t455 => ((impl_combined.f k bt437.1 bt437.2.1 bt437.2.2 t455).bind fun t458 => (some (t458, true)))))))))
def impl_remade.f (k : Nat) (a0 : Int) (a1 : Int) (l2 : List (S112)) : Option (List ByteArray × Bool) := impl_remade.l0 k a0 a1 ([] : List Int) ([] : List ByteArray) l2 (l2.length : Int) 0
def impl_remade.T7 : Bool × List (List Nat × List Nat) := (true, [([], []), ([], []), ([1], [1]), ([0, 2], [0, 2]), ([], []), ([], []), ([5], [5]), ([6], [6]), ([4, 7, 3], [4, 7]), ([3, 8, 0, 1, 2, 3], [0, 3]), ([8, 9, 0, 1, 2, 3, 4, 5, 6, 7, 8, 9], [4, 8])])
def impl_remade.B7 : List Nat := [0, 0, 2, 7, 0, 0, 32, 96, 255, 511, 1023]
theorem impl_remade.tab7 : rtab .any (opsOf Try.f114 7) = impl_remade.T7 := by kernel_rfl
theorem impl_remade.bits7 : waitsOk impl_remade.T7.2 impl_remade.B7 = true := by kernel_rfl
set_option maxHeartbeats 8000000 in
set_option maxRecDepth 100000 in
theorem impl_remade.calls (k : Nat) (a0 : Int) (a1 : Int) (A2 : Option Addr) (c2 : Nat) (l2 : List (S112)) (r1 : List ByteArray) (r2 : Bool) (w : World) (hr2 : Kd.C k112 w A2 l2.length l2) (hc2 : l2.length ≤ c2) (h : impl_remade.f k a0 a1 l2 = some (r1, r2)) :
  Calls Try.prog 114 #[.int .i64 a0, .int .i64 a1, .slice A2 l2.length c2] w fun e w' => ∃ v0_ : Value, e = .returned (.tuple #[v0_, .bool r2]) ∧ Kd.R Kd.string 9 w' w.heap.size (fun _ => True) v0_ r1 ∧ Below w.heap.size w w' := by
 have hu112 := Try.underlying112
 have hu27 := Try.underlying27
 have HR2 := Aside0.mk hr2
 have HC2 := Aside0.mk hc2
 clear hr2 hc2
 have HB := Aside0.mk (Below.refl w.heap.size w)
 have H : (impl_remade.l0 k a0 a1 ([] : List Int) ([] : List ByteArray) l2 (l2.length : Int) 0) = some (r1, r2) := h
 clear h
 have H' := Aside0.mk H
 clear H
 go_enter Try.func114, Try.ntmps114
 go_wp2
 go_loopg [8, 9, 17] k (fun kq v8 v9 v17 w' => ∃ (x8_1 : List Int) (x9_1 : List ByteArray) (x17_1 : Int), v17 = .int .i64 x17_1 ∧ Aside0 (impl_remade.l0 kq a0 a1 x8_1 x9_1 l2 (l2.length : Int) x17_1 = some (r1, r2)) ∧ Aside0 (kq ≤ k) ∧ Aside0 (Kd.R (Kd.int .i64) 2 w' w.heap.size (fun _ => True) v8 x8_1) ∧ Aside0 (Kd.R Kd.string 9 w' w.heap.size (fun _ => True) v9 x9_1) ∧ Aside0 (Below w.heap.size w w'))
 case atStart => exact ⟨(([] : List Int)), (([] : List ByteArray)), (0), (by first | rfl | (simp; done) | (simp [*]; done)), H', ⟨Nat.le_refl _⟩, ⟨by first | exact Kd.R_nil _ _ _ _ _ | exact Kd.N_nil _ _ _ _ _ | exact Kd.V_nil _ _ _ _ _ | exact Kd.Q_nil _ _ _ _ _ | exact Kd.S_nil _ _ _ _ _⟩, ⟨by first | exact Kd.R_nil _ _ _ _ _ | exact Kd.N_nil _ _ _ _ _ | exact Kd.V_nil _ _ _ _ _ | exact Kd.Q_nil _ _ _ _ _ | exact Kd.S_nil _ _ _ _ _⟩, ⟨Cz.w HB.out⟩⟩
 case round =>
  clear H'
  try clear c1
  try clear c2
  try clear p2
  obtain ⟨x8_1, x9_1, x17_1, rfl, HA, HK1, HO_8, HO_9, HB⟩ := hrel
  cases gk with
  | zero => exact absurd HA.out (by simp [impl_remade.l0])
  | succ k1 =>
   have H := HA.out
   clear HA
   simp only [impl_remade.l0] at H
   by_cases c4 : x17_1 < (l2.length : Int)
   ·rw [if_pos c4] at H
    have c4b0 : decide (x17_1 < (l2.length : Int)) = true := decide_eq_true c4
    clear c4
    by_cases c5 : 0 ≤ x17_1
    ·rw [if_pos c5] at H
     have c5b0 : decide (0 ≤ x17_1) = true := decide_eq_true c5
     clear c5
     by_cases c6 : x17_1 < (l2.length : Int)
     ·rw [if_pos c6] at H
      have c6b0 : decide (x17_1 < (l2.length : Int)) = true := decide_eq_true c6
      clear c6
      obtain ⟨bq7, hbq7⟩ : ∃ b_ : Bool, b_ = ((rd_T112 l2 x17_1).f0) := ⟨_, rfl⟩
      replace H : (if bq7 = true then ((impl_size_int64_67.f x8_1).bind fun t423 => (if t423 < a0 then ((some (([x17_1] : List Int) : List Int)).bind fun y424 => (if x8_1.length + y424.length < 17592186044416 then ((some (([(rd_T112 l2 x17_1).f1] : List ByteArray) : List ByteArray)).bind fun y430 => (if x9_1.length + y430.length < 8796093022208 then (impl_remade.l0 k1 a0 a1 (x8_1 ++ y424) (x9_1 ++ y430) l2 (l2.length : Int) (wrap64 (x17_1 + 1))) else (none))) else (none))) else (impl_remade.l0 k1 a0 a1 x8_1 x9_1 l2 (l2.length : Int) (wrap64 (x17_1 + 1))))) else (impl_remade.l0 k1 a0 a1 x8_1 x9_1 l2 (l2.length : Int) (wrap64 (x17_1 + 1)))) = some (r1, r2) := by rw [← hbq7] at H; exact H
      have Nbq7 := Aside0.mk hbq7
      clear hbq7
      by_cases c8 : bq7 = true
      ·subst c8
       have H1 : ((impl_size_int64_67.f x8_1).bind fun t423 => (if t423 < a0 then ((some (([x17_1] : List Int) : List Int)).bind fun y424 => (if x8_1.length + y424.length < 17592186044416 then ((some (([(rd_T112 l2 x17_1).f1] : List ByteArray) : List ByteArray)).bind fun y430 => (if x9_1.length + y430.length < 8796093022208 then (impl_remade.l0 k1 a0 a1 (x8_1 ++ y424) (x9_1 ++ y430) l2 (l2.length : Int) (wrap64 (x17_1 + 1))) else (none))) else (none))) else (impl_remade.l0 k1 a0 a1 x8_1 x9_1 l2 (l2.length : Int) (wrap64 (x17_1 + 1))))) = some (r1, r2) := by rw [if_pos rfl] at H; exact H
       clear H
       have H := H1
       clear H1
       replace H := Option.bind_eq_some_iff.mp H
       obtain ⟨t423, A90, H⟩ := H
       replace H : (if t423 < a0 then ((some (([x17_1] : List Int) : List Int)).bind fun y424 => (if x8_1.length + y424.length < 17592186044416 then ((some (([(rd_T112 l2 x17_1).f1] : List ByteArray) : List ByteArray)).bind fun y430 => (if x9_1.length + y430.length < 8796093022208 then (impl_remade.l0 k1 a0 a1 (x8_1 ++ y424) (x9_1 ++ y430) l2 (l2.length : Int) (wrap64 (x17_1 + 1))) else (none))) else (none))) else (impl_remade.l0 k1 a0 a1 x8_1 x9_1 l2 (l2.length : Int) (wrap64 (x17_1 + 1)))) = some (r1, r2) := H
       have A9 := Aside0.mk A90
       clear A90
       by_cases c10 : t423 < a0
       ·rw [if_pos c10] at H
        have c10b0 : decide (t423 < a0) = true := decide_eq_true c10
        clear c10
        obtain ⟨y424, hy424⟩ : ∃ y_ : List Int, y_ = (([x17_1] : List Int)) := ⟨_, rfl⟩
        replace H : (if x8_1.length + y424.length < 17592186044416 then ((some (([(rd_T112 l2 x17_1).f1] : List ByteArray) : List ByteArray)).bind fun y430 => (if x9_1.length + y430.length < 8796093022208 then (impl_remade.l0 k1 a0 a1 (x8_1 ++ y424) (x9_1 ++ y430) l2 (l2.length : Int) (wrap64 (x17_1 + 1))) else (none))) else (none)) = some (r1, r2) := by first | (rw [hy424]; with_reducible exact H) | (have H2_ := (Option.bind_some _ _).symm.trans H; rw [hy424]; with_reducible exact H2_) | (have H2_ := (Option.bind_some _ _).symm.trans H; with_reducible exact H2_) | with_reducible exact H | (rw [hy424]; exact H) | exact H
        have Ny424 := Aside0.mk hy424
        clear hy424
        by_cases c11 : x8_1.length + y424.length < 17592186044416
        ·rw [if_pos c11] at H
         have LMc11 := Aside0.mk c11
         clear c11
         obtain ⟨y427, hy427⟩ : ∃ y_ : List Int, y_ = (x8_1 ++ y424) := ⟨_, rfl⟩
         replace H : ((some (([(rd_T112 l2 x17_1).f1] : List ByteArray) : List ByteArray)).bind fun y430 => (if x9_1.length + y430.length < 8796093022208 then (impl_remade.l0 k1 a0 a1 y427 (x9_1 ++ y430) l2 (l2.length : Int) (wrap64 (x17_1 + 1))) else (none))) = some (r1, r2) := by first | (rw [hy427]; with_reducible exact H) | (have H2_ := (Option.bind_some _ _).symm.trans H; rw [hy427]; with_reducible exact H2_) | (have H2_ := (Option.bind_some _ _).symm.trans H; with_reducible exact H2_) | with_reducible exact H | (rw [hy427]; exact H) | exact H
         have Ny427 := Aside0.mk hy427
         clear hy427
         obtain ⟨y430, hy430⟩ : ∃ y_ : List ByteArray, y_ = (([(rd_T112 l2 x17_1).f1] : List ByteArray)) := ⟨_, rfl⟩
         replace H : (if x9_1.length + y430.length < 8796093022208 then (impl_remade.l0 k1 a0 a1 y427 (x9_1 ++ y430) l2 (l2.length : Int) (wrap64 (x17_1 + 1))) else (none)) = some (r1, r2) := by first | (rw [hy430]; with_reducible exact H) | (have H2_ := (Option.bind_some _ _).symm.trans H; rw [hy430]; with_reducible exact H2_) | (have H2_ := (Option.bind_some _ _).symm.trans H; with_reducible exact H2_) | with_reducible exact H | (rw [hy430]; exact H) | exact H
         have Ny430 := Aside0.mk hy430
         clear hy430
         by_cases c12 : x9_1.length + y430.length < 8796093022208
         ·rw [if_pos c12] at H
          have LMc12 := Aside0.mk c12
          clear c12
          obtain ⟨y433, hy433⟩ : ∃ y_ : List ByteArray, y_ = (x9_1 ++ y430) := ⟨_, rfl⟩
          replace H : (impl_remade.l0 k1 a0 a1 y427 y433 l2 (l2.length : Int) (wrap64 (x17_1 + 1))) = some (r1, r2) := by first | (rw [hy433]; with_reducible exact H) | (have H2_ := (Option.bind_some _ _).symm.trans H; rw [hy433]; with_reducible exact H2_) | (have H2_ := (Option.bind_some _ _).symm.trans H; with_reducible exact H2_) | with_reducible exact H | (rw [hy433]; exact H) | exact H
          have Ny433 := Aside0.mk hy433
          clear hy433
          have H' := Aside0.mk H
          clear H
          have p421 : 0 ≤ (x17_1 : Int) := of_decide_eq_true (by first | (with_reducible assumption) | assumption)
          have q421 : x17_1 < (l2.length : Int) := of_decide_eq_true (by first | (with_reducible assumption) | assumption)
          obtain ⟨ad421, e421, hx421_0, hx421_1⟩ := at_T112 HR2.out x17_1 p421 q421
          (try rw [← Nbq7.out] at hx421_0)
          cases e421
          replace hx421_0 := (HB.out.cell (World.block_lt_of_cell? w _ hx421_0)).trans hx421_0
          replace hx421_1 := (HB.out.cell (World.block_lt_of_cell? w _ hx421_1)).trans hx421_1
          replace p421 := eq_true p421
          replace q421 := eq_true q421
          try go_wp2_with (first | ((with_reducible refine gate_dst (N := 11) rfl ?_); refine box_event ?hg (N := 11) ?hd (cs := #[.bool false, .string (⟨#[]⟩ : ByteArray)]) (t := 112) ?hr ?_; (case hd => rfl); (case hg => rfl); (case hr => first | (go_simp; done) | (go_simp; rfl)); intro gb422 hg w13 hbox hb; have n_ := Cy.a6 (Kd.R_below (Cz.r HO_8.out) hb) (Kd.R_below (Cz.r HO_9.out) hb) (below_step (Cz.w HB.out) hb) hbox (Cy.gw hg HB.out) (Cy.gw hg HB.out); clear HO_8 HO_9 HB; obtain ⟨HO_8, HO_9, HB, BK422, GW422, GE422⟩ := n_; clear hb hbox hg; obtain ⟨hcz14_0, hcz14_1, hfz14_0, hfz14_1⟩ := Cy.z2 BK422.out; obtain ⟨Ao15, co15, eo15⟩ := Kd.R_slice HO_8.out; subst eo15) | (go_at_call 67; (with_reducible refine (impl_size_int64_67.calls _ _ x8_1 t423 _ ?side1 ?side2 A9.out).mono ?_); (case side1 => refine (Kd.R_reads' (e := 2) (base := w.heap.size) (ok := fun k_ => True) (n := x8_1.length) (c := co15) ?_).2.2; exact (by (with_reducible repeat (first | apply Kd.R_alloc | apply Kd.R_drewN | apply Kd.R_drew)); exact (Kd.R_mono (Kd.R_far (p := ⟨gb422, 1, none⟩) (Kd.R_far (p := ⟨gb422, 0, none⟩) (Kd.R_types HO_8.out BK422.out (by decide)) (fun _ hk => hk.2) (.bool true)) (fun _ hk => hk.2) (.string ((rd_T112 l2 x17_1).f1))) (fun _ h_ => h_.1)))); (case side2 => exact (Kd.R_reads' HO_8.out).2.1); rintro e w' ⟨rfl, ⟨nd, rfl⟩⟩; obtain ⟨Ao16, co16, eo16⟩ := Kd.R_slice HO_9.out; subst eo16))
          have n0_ : Aside0 (Kd.R (Kd.int .i64) 2 ((w13.setCell ⟨gb422, 0, none⟩ (.bool true)).setCell ⟨gb422, 1, none⟩ (.string ((rd_T112 l2 x17_1).f1))) w.heap.size (fun _ => True) (.slice Ao15 x8_1.length co15) x8_1) := ⟨by (with_reducible repeat (first | apply Kd.R_alloc | apply Kd.R_drewN | apply Kd.R_drew)); exact Kd.R_mono (Kd.R_far (p := ⟨gb422, 1, none⟩) (Kd.R_far (p := ⟨gb422, 0, none⟩) (Kd.R_types HO_8.out BK422.out (by decide)) (fun _ hk => hk.2) (.bool true)) (fun _ hk => hk.2) (.string ((rd_T112 l2 x17_1).f1))) (fun _ hk => trivial)⟩
          have n1_ : Aside0 (Kd.R Kd.string 9 ((w13.setCell ⟨gb422, 0, none⟩ (.bool true)).setCell ⟨gb422, 1, none⟩ (.string ((rd_T112 l2 x17_1).f1))) w.heap.size (fun _ => True) (.slice Ao16 x9_1.length co16) x9_1) := ⟨by (with_reducible repeat (first | apply Kd.R_alloc | apply Kd.R_drewN | apply Kd.R_drew)); exact Kd.R_mono (Kd.R_far (p := ⟨gb422, 1, none⟩) (Kd.R_far (p := ⟨gb422, 0, none⟩) (Kd.R_types HO_9.out BK422.out (by decide)) (fun _ hk => hk.2) (.bool true)) (fun _ hk => hk.2) (.string ((rd_T112 l2 x17_1).f1))) (fun _ hk => trivial)⟩
          have n2_ : Aside0 (((w13.setCell ⟨gb422, 0, none⟩ (.bool true)).setCell ⟨gb422, 1, none⟩ (.string ((rd_T112 l2 x17_1).f1))).heap[gb422]? = some (.cells #[.bool true, .string ((rd_T112 l2 x17_1).f1)] 112 (0, 0))) := ⟨by (with_reducible repeat (first | refine blk_drewN ?_ _ | refine blk_drew ?_ | refine blk_alloc ?_ _)); refine blk_put (cs := #[.bool true, .string (⟨#[]⟩ : ByteArray)]) ?_ 1 _ rfl; (with_reducible repeat (first | refine blk_drewN ?_ _ | refine blk_drew ?_ | refine blk_alloc ?_ _)); refine blk_put (cs := #[.bool false, .string (⟨#[]⟩ : ByteArray)]) ?_ 0 _ rfl; (with_reducible repeat (first | refine blk_drewN ?_ _ | refine blk_drew ?_ | refine blk_alloc ?_ _)); exact BK422.out⟩
          have n3_ : Aside0 (Below w.heap.size w ((w13.setCell ⟨gb422, 0, none⟩ (.bool true)).setCell ⟨gb422, 1, none⟩ (.string ((rd_T112 l2 x17_1).f1)))) := ⟨Cz.w HB.out⟩
          (try clear HO_8)
          (try clear HO_9)
          (try clear BK422)
          (try clear HB)
          generalize ((w13.setCell ⟨gb422, 0, none⟩ (.bool true)).setCell ⟨gb422, 1, none⟩ (.string ((rd_T112 l2 x17_1).f1))) = w17 at n0_ n1_ n2_ n3_ ⊢
          have HO_8 := n0_
          have HO_9 := n1_
          have BK422 := n2_
          have HB := n3_
          clear n0_ n1_ n2_ n3_
          (try (rw [drewN_self w17]; generalize hq_ : World.drewN w17 _ = w17; have n0_ : Aside0 (Kd.R (Kd.int .i64) 2 w17 w.heap.size (fun _ => True) (.slice Ao15 x8_1.length co15) x8_1) := ⟨by rw [← hq_]; exact (Cz.r HO_8.out)⟩; have n1_ : Aside0 (Kd.R Kd.string 9 w17 w.heap.size (fun _ => True) (.slice Ao16 x9_1.length co16) x9_1) := ⟨by rw [← hq_]; exact (Cz.r HO_9.out)⟩; have n2_ : Aside0 (w17.heap[gb422]? = some (.cells #[.bool true, .string ((rd_T112 l2 x17_1).f1)] 112 (0, 0))) := ⟨by rw [← hq_]; exact (Cz.b BK422.out)⟩; have n3_ : Aside0 (Below w.heap.size w w17) := ⟨by rw [← hq_]; exact (Cz.w HB.out)⟩; clear HO_8 HO_9 BK422 HB hq_; have HO_8 := n0_; have HO_9 := n1_; have BK422 := n2_; have HB := n3_; clear n0_ n1_ n2_ n3_))
          have n_ := Cy.a4 (Kd.R_drew HO_8.out) (Kd.R_drew HO_9.out) (blk_drew BK422.out) (below_drew1 HB.out)
          clear HO_8 HO_9 BK422 HB
          obtain ⟨HO_8, HO_9, BK422, HB⟩ := n_
          refine start_ (n := 11) (S := fun w' => w'.cell? ⟨gb422, 0, none⟩ = some (.bool true) ∧ w'.cell? ⟨gb422, 1, none⟩ = some (.string ((rd_T112 l2 x17_1).f1))) (ds := []) #[false, false, false, false, false, false, false, false, false, false, false] (by kernel_rfl) rfl rfl ⟨(blk_cell BK422.out 0).trans rfl, (blk_cell BK422.out 1).trans rfl⟩ (fun hHeld => ?_); refine with_tabW impl_remade.tab7 impl_remade.bits7 (fun HT_ HW_ => ?_)
          generalize w17.drew = w18 at HO_8 HO_9 BK422 HB hHeld ⊢
          refine Cy.pu 0 30 HT_ ?_
          refine Cy.pu 1 31 HT_ ?_
          refine Cy.pu 4 34 HT_ ?_
          refine Cy.pu 5 35 HT_ ?_
          refine Cy.tk 6 36 HT_ HW_ hHeld ?_
          refine join_ (σ := Value × Value × Value) 3 #[true, true, true, true, true, true, true, true, false, false, false] (fun s_ => [(32, s_.1), (33, s_.2.1), (37, s_.2.2)]) (fun s_ w' => (w'.cell? ⟨gb422, 0, none⟩ = some (.bool true) ∧ w'.cell? ⟨gb422, 1, none⟩ = some (.string ((rd_T112 l2 x17_1).f1))) ∧ (Kd.R (Kd.int .i64) 2 w' w.heap.size (fun k_ => some k_ ≠ (s_.2.1 : Value).ownBlock) s_.1 y424) ∧ (Kd.R (Kd.int .i64) 2 w' w.heap.size (fun k_ => some k_ ≠ (s_.1 : Value).ownBlock) s_.2.1 y427) ∧ (Kd.R Kd.string 9 w' w.heap.size (fun k_ => some k_ ≠ (.slice Ao16 x9_1.length co16 : Value).ownBlock) s_.2.2 y430) ∧ (Kd.R Kd.string 9 w' w.heap.size (fun k_ => some k_ ≠ (s_.2.2 : Value).ownBlock) (.slice Ao16 x9_1.length co16) x9_1) ∧ (w'.heap[gb422]? = some (.cells #[.bool true, .string ((rd_T112 l2 x17_1).f1)] 112 (0, 0))) ∧ (Below w.heap.size w w')) ?_ ?_
          rotate_left
          ·intro hCont
           refine two_ (i := 2) (j := 7) (Ni := some 32) (Nj := some 37) #[true, true, true, false, true, true, true, false, false, false, false] #[true, true, false, false, true, true, true, true, false, false, false] rfl rfl rfl rfl (two_of HT_.out (by kernel_rfl)) (by decide) (by decide) (fun K hK => ?_) (fun K hK => ?_)
           ·skip
            refine Kd.R_lit_step (Kd.int .i64) _ 2 ?hg (N := 32) ?hd (xs := ([x17_1] : List Int)) (inner := [.int .i64 x17_1]) (ok := fun _ => True) (okp := fun _ => True) ?hr ?hp (fun _ hk => hk) trivial (Below.refl _ _) (Nat.le_refl _) (by simp) ?_; (case hd => rfl); (case hg => rfl); (case hr => first | (go_simp; done) | (go_simp; rfl)); (case hp => exact (Reps.one (show Kd.M (Kd.int .i64) _ _ _ x17_1 [.int .i64 x17_1] from rfl) (Reps.none _ _)))
            intro v425 w19 ho20 hb hg_ hnew_
            clear hg_ hnew_
            (first | rw [← Ny424.out] at ho20 | (simp only [Int.reduceToNat] at ho20; rw [← Ny424.out] at ho20))
            have n_ := Cy.a5 (Kd.R_elder' (Cz.r HO_8.out) (Kd.R_base ho20) hb) (Kd.R_below (Cz.r HO_9.out) hb) (Kd.R_lower (Kd.R_new' ho20 (Kd.R_lt (Cz.r HO_8.out))) (below_size (Cz.w HB.out))) (blk_below (g := gb422) (o := .cells #[.bool true, .string ((rd_T112 l2 x17_1).f1)] 112 (0, 0)) (Cz.b BK422.out) hb) (below_step (Cz.w HB.out) hb)
            clear HO_8 HO_9 BK422 HB
            obtain ⟨HO_8, HO_9, HO426, BK422, HB⟩ := n_
            clear hb ho20
            obtain ⟨Ao22, co22, eo22⟩ := Kd.R_slice HO426.out
            (first | subst eo22 | (injection eo22 with f1_ f2_ f3_; have f4_ := f1_.symm; have f5_ := f3_.symm; clear f1_ f2_ f3_; subst f4_; subst f5_))
            refine hK.out _ _ ⟨(blk_cell BK422.out 0).trans rfl, (blk_cell BK422.out 1).trans rfl⟩ (fun hHeld => ?_)
            clear hK K
            refine norm_ (a' := ?_) ?_ ?_
            rotate_left
            ·show Act.put _ (some 32) _ = _
             simp only [Act.put, List.setIfInBounds_toArray, List.set_cons_zero, List.set_cons_succ, i64_w, i32_w]
             rfl
            refine two_ (i := 3) (j := 7) (Ni := some 33) (Nj := some 37) #[true, true, true, true, true, true, true, false, false, false, false] #[true, true, true, false, true, true, true, true, false, false, false] rfl rfl rfl rfl (two_of HT_.out (by kernel_rfl)) (by decide) (by decide) (fun K hK => ?_) (fun K hK => ?_)
            ·skip
             refine Kd.R_append_rows_step (Kd.int .i64) (w0 := w) w.heap.size (by rfl) (.tmp 30) (.tmp 32) 22 2 (.int .i64 0) 8 rfl Try.underlying22 info2 rfl (by decide) (by omega) (.slice Ao15 x8_1.length co15) x8_1 y424 _ _ _ (fun k_ => some k_ ≠ (.slice Ao22 y424.length co22 : Value).ownBlock) (fun _ => False) rfl rfl ?aO ?aR (fun _ _ h => h) (fun _ h => h.elim) ?aF ?aB ?aS ?aL ?_
             (case aR => exact Cy.cd (Kd.R_reads' HO426.out).2.2)
             (case aB => exact (Cz.w HB.out))
             (case aF => exact (fun k_ hk => Kd.fresh' (Kd.R_lt (Cz.r HO426.out)) k_ hk))
             (case aO => exact (by (with_reducible repeat (first | apply Kd.R_alloc | apply Kd.R_drewN | apply Kd.R_drew)); exact Kd.R_mono HO_8.out (fun _ hk => hk.2)))
             (case aS => exact (below_size (Cz.w HB.out)))
             (case aL => have := LMc11.out; omega)
             intro v428 w21 ho hb hg hat
             rw [← Ny427.out] at ho
             have n_ := Cy.a5 (Kd.R_over' (Cz.r HO_9.out) (Kd.R_typed (Cz.r HO_8.out)) (by decide) hg) (blk_grown (g := gb422) (o := .cells #[.bool true, .string ((rd_T112 l2 x17_1).f1)] 112 (0, 0)) (Cz.b BK422.out) hg (Kd.R_ne HO_8.out BK422.out (by decide))) (Kd.R_after (ok := (fun _ => True)) (Cz.r HO426.out) hg hat) hb ho
             clear HO_9 BK422 HO426 HB HO_8
             obtain ⟨HO_9, BK422, HO426, HB, HO429⟩ := n_
             clear ho hb hg hat
             refine hK.out _ _ ⟨(blk_cell BK422.out 0).trans rfl, (blk_cell BK422.out 1).trans rfl⟩ (fun hHeld => ?_)
             clear hK K
             refine norm_ (a' := ?_) ?_ ?_
             rotate_left
             ·show Act.put _ (some 33) _ = _
              simp only [Act.put, List.setIfInBounds_toArray, List.set_cons_zero, List.set_cons_succ, i64_w, i32_w]
              rfl
             refine one_ (i := 7) (N := some 37) #[true, true, true, true, true, true, true, true, false, false, false] rfl rfl (one_of HT_.out (by kernel_rfl)) (by decide) (fun K hK => ?_)
             refine Kd.R_lit_step Kd.string _ 9 ?hg (N := 37) ?hd (xs := ([(rd_T112 l2 x17_1).f1] : List ByteArray)) (inner := [.string ((rd_T112 l2 x17_1).f1)]) (ok := fun _ => True) (okp := fun _ => True) ?hr ?hp (fun _ hk => hk) trivial (Below.refl _ _) (Nat.le_refl _) (by simp) ?_; (case hd => rfl); (case hg => rfl); (case hr => first | (go_simp; done) | (go_simp; rfl)); (case hp => exact (Reps.one (show Kd.M Kd.string _ _ _ ((rd_T112 l2 x17_1).f1) [.string ((rd_T112 l2 x17_1).f1)] from rfl) (Reps.none _ _)))
             intro v431 w23 ho24 hb hg_ hnew_
             clear hg_ hnew_
             (first | rw [← Ny430.out] at ho24 | (simp only [Int.reduceToNat] at ho24; rw [← Ny430.out] at ho24))
             have n_ := Cy.a6 (Kd.R_elder' (Cz.r HO_9.out) (Kd.R_base ho24) hb) (Kd.R_below (Cz.r HO426.out) hb) (Kd.R_below (Cz.r HO429.out) hb) (Kd.R_lower (Kd.R_new' ho24 (Kd.R_lt (Cz.r HO_9.out))) (below_size (Cz.w HB.out))) (blk_below (g := gb422) (o := .cells #[.bool true, .string ((rd_T112 l2 x17_1).f1)] 112 (0, 0)) (Cz.b BK422.out) hb) (below_step (Cz.w HB.out) hb)
             clear HO_9 HO426 HO429 BK422 HB
             obtain ⟨HO_9, HO426, HO429, HO432, BK422, HB⟩ := n_
             clear hb ho24
             refine hK.out _ _ ⟨(blk_cell BK422.out 0).trans rfl, (blk_cell BK422.out 1).trans rfl⟩ (fun hHeld => ?_)
             clear hK K
             refine norm_ (a' := ?_) ?_ ?_
             rotate_left
             ·show Act.put _ (some 37) _ = _
              simp only [Act.put, List.setIfInBounds_toArray, List.set_cons_zero, List.set_cons_succ, i64_w, i32_w]
              rfl
             exact norm_ (by simp only [putAll, Act.put, List.setIfInBounds_toArray, List.set_cons_zero, List.set_cons_succ]) (hCont (.slice Ao22 y424.length co22, v428, v431) _ ⟨hHeld, (by (with_reducible repeat (first | apply Kd.R_alloc | apply Kd.R_drewN | apply Kd.R_drew)); exact Kd.R_mono HO426.out (fun _ hk => hk.2)), (Cz.r HO429.out), (by (with_reducible repeat (first | apply Kd.R_alloc | apply Kd.R_drewN | apply Kd.R_drew)); exact Kd.R_mono HO432.out (fun _ hk => hk.2)), (by (with_reducible repeat (first | apply Kd.R_alloc | apply Kd.R_drewN | apply Kd.R_drew)); exact Kd.R_mono HO_9.out (fun _ hk => hk.2)), (Cz.b BK422.out), (Cz.w HB.out)⟩)
            ·skip
             refine Kd.R_lit_step Kd.string _ 9 ?hg (N := 37) ?hd (xs := ([(rd_T112 l2 x17_1).f1] : List ByteArray)) (inner := [.string ((rd_T112 l2 x17_1).f1)]) (ok := fun _ => True) (okp := fun _ => True) ?hr ?hp (fun _ hk => hk) trivial (Below.refl _ _) (Nat.le_refl _) (by simp) ?_; (case hd => rfl); (case hg => rfl); (case hr => first | (go_simp; done) | (go_simp; rfl)); (case hp => exact (Reps.one (show Kd.M Kd.string _ _ _ ((rd_T112 l2 x17_1).f1) [.string ((rd_T112 l2 x17_1).f1)] from rfl) (Reps.none _ _)))
             intro v431 w21 ho22 hb hg_ hnew_
             clear hg_ hnew_
             (first | rw [← Ny430.out] at ho22 | (simp only [Int.reduceToNat] at ho22; rw [← Ny430.out] at ho22))
             have n_ := Cy.a6 (Kd.R_below (Cz.r HO_8.out) hb) (Kd.R_elder' (Cz.r HO_9.out) (Kd.R_base ho22) hb) (Kd.R_below (Cz.r HO426.out) hb) (Kd.R_lower (Kd.R_new' ho22 (Kd.R_lt (Cz.r HO_9.out))) (below_size (Cz.w HB.out))) (blk_below (g := gb422) (o := .cells #[.bool true, .string ((rd_T112 l2 x17_1).f1)] 112 (0, 0)) (Cz.b BK422.out) hb) (below_step (Cz.w HB.out) hb)
             clear HO_8 HO_9 HO426 BK422 HB
             obtain ⟨HO_8, HO_9, HO426, HO432, BK422, HB⟩ := n_
             clear hb ho22
             obtain ⟨Ao24, co24, eo24⟩ := Kd.R_slice HO426.out
             (first | subst eo24 | (injection eo24 with f1_ f2_ f3_; have f4_ := f1_.symm; have f5_ := f3_.symm; clear f1_ f2_ f3_; subst f4_; subst f5_))
             refine hK.out _ _ ⟨(blk_cell BK422.out 0).trans rfl, (blk_cell BK422.out 1).trans rfl⟩ (fun hHeld => ?_)
             clear hK K
             refine norm_ (a' := ?_) ?_ ?_
             rotate_left
             ·show Act.put _ (some 37) _ = _
              simp only [Act.put, List.setIfInBounds_toArray, List.set_cons_zero, List.set_cons_succ, i64_w, i32_w]
              rfl
             refine one_ (i := 3) (N := some 33) #[true, true, true, true, true, true, true, true, false, false, false] rfl rfl (one_of HT_.out (by kernel_rfl)) (by decide) (fun K hK => ?_)
             refine Kd.R_append_rows_step (Kd.int .i64) (w0 := w) w.heap.size (by rfl) (.tmp 30) (.tmp 32) 22 2 (.int .i64 0) 8 rfl Try.underlying22 info2 rfl (by decide) (by omega) (.slice Ao15 x8_1.length co15) x8_1 y424 _ _ _ (fun k_ => some k_ ≠ (.slice Ao24 y424.length co24 : Value).ownBlock) (fun _ => False) rfl rfl ?aO ?aR (fun _ _ h => h) (fun _ h => h.elim) ?aF ?aB ?aS ?aL ?_
             (case aR => exact Cy.cd (Kd.R_reads' HO426.out).2.2)
             (case aB => exact (Cz.w HB.out))
             (case aF => exact (fun k_ hk => Kd.fresh' (Kd.R_lt (Cz.r HO426.out)) k_ hk))
             (case aO => exact (by (with_reducible repeat (first | apply Kd.R_alloc | apply Kd.R_drewN | apply Kd.R_drew)); exact Kd.R_mono HO_8.out (fun _ hk => hk.2)))
             (case aS => exact (below_size (Cz.w HB.out)))
             (case aL => have := LMc11.out; omega)
             intro v428 w23 ho hb hg hat
             rw [← Ny427.out] at ho
             have n_ := Cy.a6 (Kd.R_over' (Cz.r HO_9.out) (Kd.R_typed (Cz.r HO_8.out)) (by decide) hg) (blk_grown (g := gb422) (o := .cells #[.bool true, .string ((rd_T112 l2 x17_1).f1)] 112 (0, 0)) (Cz.b BK422.out) hg (Kd.R_ne HO_8.out BK422.out (by decide))) (Kd.R_after (ok := (fun _ => True)) (Cz.r HO426.out) hg hat) (Kd.R_over' (Cz.r HO432.out) (Kd.R_typed (Cz.r HO_8.out)) (by decide) hg) hb ho
             clear HO_9 BK422 HO426 HO432 HB HO_8
             obtain ⟨HO_9, BK422, HO426, HO432, HB, HO429⟩ := n_
             clear ho hb hg hat
             refine hK.out _ _ ⟨(blk_cell BK422.out 0).trans rfl, (blk_cell BK422.out 1).trans rfl⟩ (fun hHeld => ?_)
             clear hK K
             refine norm_ (a' := ?_) ?_ ?_
             rotate_left
             ·show Act.put _ (some 33) _ = _
              simp only [Act.put, List.setIfInBounds_toArray, List.set_cons_zero, List.set_cons_succ, i64_w, i32_w]
              rfl
             exact norm_ (by simp only [putAll, Act.put, List.setIfInBounds_toArray, List.set_cons_zero, List.set_cons_succ]) (hCont (.slice Ao24 y424.length co24, v428, v431) _ ⟨hHeld, (by (with_reducible repeat (first | apply Kd.R_alloc | apply Kd.R_drewN | apply Kd.R_drew)); exact Kd.R_mono HO426.out (fun _ hk => hk.2)), (Cz.r HO429.out), (by (with_reducible repeat (first | apply Kd.R_alloc | apply Kd.R_drewN | apply Kd.R_drew)); exact Kd.R_mono HO432.out (fun _ hk => hk.2)), (by (with_reducible repeat (first | apply Kd.R_alloc | apply Kd.R_drewN | apply Kd.R_drew)); exact Kd.R_mono HO_9.out (fun _ hk => hk.2)), (Cz.b BK422.out), (Cz.w HB.out)⟩)
           ·skip
            refine Kd.R_lit_step Kd.string _ 9 ?hg (N := 37) ?hd (xs := ([(rd_T112 l2 x17_1).f1] : List ByteArray)) (inner := [.string ((rd_T112 l2 x17_1).f1)]) (ok := fun _ => True) (okp := fun _ => True) ?hr ?hp (fun _ hk => hk) trivial (Below.refl _ _) (Nat.le_refl _) (by simp) ?_; (case hd => rfl); (case hg => rfl); (case hr => first | (go_simp; done) | (go_simp; rfl)); (case hp => exact (Reps.one (show Kd.M Kd.string _ _ _ ((rd_T112 l2 x17_1).f1) [.string ((rd_T112 l2 x17_1).f1)] from rfl) (Reps.none _ _)))
            intro v431 w19 ho20 hb hg_ hnew_
            clear hg_ hnew_
            (first | rw [← Ny430.out] at ho20 | (simp only [Int.reduceToNat] at ho20; rw [← Ny430.out] at ho20))
            have n_ := Cy.a5 (Kd.R_below (Cz.r HO_8.out) hb) (Kd.R_elder' (Cz.r HO_9.out) (Kd.R_base ho20) hb) (Kd.R_lower (Kd.R_new' ho20 (Kd.R_lt (Cz.r HO_9.out))) (below_size (Cz.w HB.out))) (blk_below (g := gb422) (o := .cells #[.bool true, .string ((rd_T112 l2 x17_1).f1)] 112 (0, 0)) (Cz.b BK422.out) hb) (below_step (Cz.w HB.out) hb)
            clear HO_8 HO_9 BK422 HB
            obtain ⟨HO_8, HO_9, HO432, BK422, HB⟩ := n_
            clear hb ho20
            refine hK.out _ _ ⟨(blk_cell BK422.out 0).trans rfl, (blk_cell BK422.out 1).trans rfl⟩ (fun hHeld => ?_)
            clear hK K
            refine norm_ (a' := ?_) ?_ ?_
            rotate_left
            ·show Act.put _ (some 37) _ = _
             simp only [Act.put, List.setIfInBounds_toArray, List.set_cons_zero, List.set_cons_succ, i64_w, i32_w]
             rfl
            refine one_ (i := 2) (N := some 32) #[true, true, true, false, true, true, true, true, false, false, false] rfl rfl (one_of HT_.out (by kernel_rfl)) (by decide) (fun K hK => ?_)
            refine Kd.R_lit_step (Kd.int .i64) _ 2 ?hg (N := 32) ?hd (xs := ([x17_1] : List Int)) (inner := [.int .i64 x17_1]) (ok := fun _ => True) (okp := fun _ => True) ?hr ?hp (fun _ hk => hk) trivial (Below.refl _ _) (Nat.le_refl _) (by simp) ?_; (case hd => rfl); (case hg => rfl); (case hr => first | (go_simp; done) | (go_simp; rfl)); (case hp => exact (Reps.one (show Kd.M (Kd.int .i64) _ _ _ x17_1 [.int .i64 x17_1] from rfl) (Reps.none _ _)))
            intro v425 w21 ho22 hb hg_ hnew_
            clear hg_ hnew_
            (first | rw [← Ny424.out] at ho22 | (simp only [Int.reduceToNat] at ho22; rw [← Ny424.out] at ho22))
            have n_ := Cy.a6 (Kd.R_elder' (Cz.r HO_8.out) (Kd.R_base ho22) hb) (Kd.R_below (Cz.r HO_9.out) hb) (Kd.R_below (Cz.r HO432.out) hb) (Kd.R_lower (Kd.R_new' ho22 (Kd.R_lt (Cz.r HO_8.out))) (below_size (Cz.w HB.out))) (blk_below (g := gb422) (o := .cells #[.bool true, .string ((rd_T112 l2 x17_1).f1)] 112 (0, 0)) (Cz.b BK422.out) hb) (below_step (Cz.w HB.out) hb)
            clear HO_8 HO_9 HO432 BK422 HB
            obtain ⟨HO_8, HO_9, HO432, HO426, BK422, HB⟩ := n_
            clear hb ho22
            obtain ⟨Ao24, co24, eo24⟩ := Kd.R_slice HO426.out
            (first | subst eo24 | (injection eo24 with f1_ f2_ f3_; have f4_ := f1_.symm; have f5_ := f3_.symm; clear f1_ f2_ f3_; subst f4_; subst f5_))
            refine hK.out _ _ ⟨(blk_cell BK422.out 0).trans rfl, (blk_cell BK422.out 1).trans rfl⟩ (fun hHeld => ?_)
            clear hK K
            refine norm_ (a' := ?_) ?_ ?_
            rotate_left
            ·show Act.put _ (some 32) _ = _
             simp only [Act.put, List.setIfInBounds_toArray, List.set_cons_zero, List.set_cons_succ, i64_w, i32_w]
             rfl
            refine one_ (i := 3) (N := some 33) #[true, true, true, true, true, true, true, true, false, false, false] rfl rfl (one_of HT_.out (by kernel_rfl)) (by decide) (fun K hK => ?_)
            refine Kd.R_append_rows_step (Kd.int .i64) (w0 := w) w.heap.size (by rfl) (.tmp 30) (.tmp 32) 22 2 (.int .i64 0) 8 rfl Try.underlying22 info2 rfl (by decide) (by omega) (.slice Ao15 x8_1.length co15) x8_1 y424 _ _ _ (fun k_ => some k_ ≠ (.slice Ao24 y424.length co24 : Value).ownBlock) (fun _ => False) rfl rfl ?aO ?aR (fun _ _ h => h) (fun _ h => h.elim) ?aF ?aB ?aS ?aL ?_
            (case aR => exact Cy.cd (Kd.R_reads' HO426.out).2.2)
            (case aB => exact (Cz.w HB.out))
            (case aF => exact (fun k_ hk => Kd.fresh' (Kd.R_lt (Cz.r HO426.out)) k_ hk))
            (case aO => exact (by (with_reducible repeat (first | apply Kd.R_alloc | apply Kd.R_drewN | apply Kd.R_drew)); exact Kd.R_mono HO_8.out (fun _ hk => hk.2)))
            (case aS => exact (below_size (Cz.w HB.out)))
            (case aL => have := LMc11.out; omega)
            intro v428 w23 ho hb hg hat
            rw [← Ny427.out] at ho
            have n_ := Cy.a6 (Kd.R_over' (Cz.r HO_9.out) (Kd.R_typed (Cz.r HO_8.out)) (by decide) hg) (blk_grown (g := gb422) (o := .cells #[.bool true, .string ((rd_T112 l2 x17_1).f1)] 112 (0, 0)) (Cz.b BK422.out) hg (Kd.R_ne HO_8.out BK422.out (by decide))) (Kd.R_over' (Cz.r HO432.out) (Kd.R_typed (Cz.r HO_8.out)) (by decide) hg) (Kd.R_after (ok := (fun _ => True)) (Cz.r HO426.out) hg hat) hb ho
            clear HO_9 BK422 HO432 HO426 HB HO_8
            obtain ⟨HO_9, BK422, HO432, HO426, HB, HO429⟩ := n_
            clear ho hb hg hat
            refine hK.out _ _ ⟨(blk_cell BK422.out 0).trans rfl, (blk_cell BK422.out 1).trans rfl⟩ (fun hHeld => ?_)
            clear hK K
            refine norm_ (a' := ?_) ?_ ?_
            rotate_left
            ·show Act.put _ (some 33) _ = _
             simp only [Act.put, List.setIfInBounds_toArray, List.set_cons_zero, List.set_cons_succ, i64_w, i32_w]
             rfl
            exact norm_ (by simp only [putAll, Act.put, List.setIfInBounds_toArray, List.set_cons_zero, List.set_cons_succ]) (hCont (.slice Ao24 y424.length co24, v428, v431) _ ⟨hHeld, (by (with_reducible repeat (first | apply Kd.R_alloc | apply Kd.R_drewN | apply Kd.R_drew)); exact Kd.R_mono HO426.out (fun _ hk => hk.2)), (Cz.r HO429.out), (by (with_reducible repeat (first | apply Kd.R_alloc | apply Kd.R_drewN | apply Kd.R_drew)); exact Kd.R_mono HO432.out (fun _ hk => hk.2)), (by (with_reducible repeat (first | apply Kd.R_alloc | apply Kd.R_drewN | apply Kd.R_drew)); exact Kd.R_mono HO_9.out (fun _ hk => hk.2)), (Cz.b BK422.out), (Cz.w HB.out)⟩)
          rintro ⟨v425, v428, v431⟩ w25 ⟨hS_, h0_, h1_, h2_, h3_, h4_, h5_⟩
          have n0_ : Aside0 (Kd.R (Kd.int .i64) 2 w25 w.heap.size (fun k_ => some k_ ≠ (v428 : Value).ownBlock) v425 y424) := ⟨h0_⟩
          have n1_ : Aside0 (Kd.R (Kd.int .i64) 2 w25 w.heap.size (fun k_ => some k_ ≠ (v425 : Value).ownBlock) v428 y427) := ⟨h1_⟩
          have n2_ : Aside0 (Kd.R Kd.string 9 w25 w.heap.size (fun k_ => some k_ ≠ (.slice Ao16 x9_1.length co16 : Value).ownBlock) v431 y430) := ⟨h2_⟩
          have n3_ : Aside0 (Kd.R Kd.string 9 w25 w.heap.size (fun k_ => some k_ ≠ (v431 : Value).ownBlock) (.slice Ao16 x9_1.length co16) x9_1) := ⟨h3_⟩
          have n4_ : Aside0 (w25.heap[gb422]? = some (.cells #[.bool true, .string ((rd_T112 l2 x17_1).f1)] 112 (0, 0))) := ⟨h4_⟩
          have n5_ : Aside0 (Below w.heap.size w w25) := ⟨h5_⟩
          clear HO_8 HO_9 BK422 HB
          clear h0_ h1_ h2_ h3_ h4_ h5_
          have HO426 := n0_
          have HO429 := n1_
          have HO432 := n2_
          have HO_9 := n3_
          have BK422 := n4_
          have HB := n5_
          clear n0_ n1_ n2_ n3_ n4_ n5_
          have hHeld : w25.cell? ⟨gb422, 0, none⟩ = some (.bool true) ∧ w25.cell? ⟨gb422, 1, none⟩ = some (.string ((rd_T112 l2 x17_1).f1)) := hS_
          obtain ⟨Ao27, co27, eo27⟩ := Kd.R_slice HO432.out
          (first | subst eo27 | (injection eo27 with f1_ f2_ f3_; have f4_ := f1_.symm; have f5_ := f3_.symm; clear f1_ f2_ f3_; subst f4_; subst f5_))
          refine norm_ (a' := ?_) ?_ ?_
          rotate_left
          ·simp only [putAll, Act.put, List.setIfInBounds_toArray, List.set_cons_zero, List.set_cons_succ]
           rfl
          refine one_ (i := 8) (N := some 38) #[true, true, true, true, true, true, true, true, true, false, false] rfl rfl (one_of HT_.out (by kernel_rfl)) (by decide) (fun K hK => ?_)
          refine Kd.R_append_rows_step Kd.string (w0 := w) w.heap.size (by rfl) (.tmp 34) (.tmp 37) 52 9 (.string ⟨#[]⟩) 16 rfl Try.underlying52 info9 rfl (by decide) (by omega) (.slice Ao16 x9_1.length co16) x9_1 y430 _ _ _ (fun k_ => some k_ ≠ (.slice Ao27 y430.length co27 : Value).ownBlock) (fun _ => False) rfl rfl ?aO ?aR (fun _ _ h => h) (fun _ h => h.elim) ?aF ?aB ?aS ?aL ?_
          (case aR => exact Cy.cd (Kd.R_reads' HO432.out).2.2)
          (case aB => exact (Cz.w HB.out))
          (case aF => exact (fun k_ hk => Kd.fresh' (Kd.R_lt (Cz.r HO432.out)) k_ hk))
          (case aO => exact (Cz.r HO_9.out))
          (case aS => exact (below_size (Cz.w HB.out)))
          (case aL => have := LMc12.out; omega)
          intro v434 w26 ho hb hg hat
          rw [← Ny433.out] at ho
          have n_ := Cy.a6 (blk_grown (g := gb422) (o := .cells #[.bool true, .string ((rd_T112 l2 x17_1).f1)] 112 (0, 0)) (Cz.b BK422.out) hg (Kd.R_ne HO_9.out BK422.out (by decide))) (Kd.R_over' (Cz.r HO426.out) (Kd.R_typed (Cz.r HO_9.out)) (by decide) hg) (Kd.R_over' (Cz.r HO429.out) (Kd.R_typed (Cz.r HO_9.out)) (by decide) hg) (Kd.R_after (ok := (fun _ => True)) (by (with_reducible repeat (first | apply Kd.R_alloc | apply Kd.R_drewN | apply Kd.R_drew)); exact Kd.R_mono HO432.out (fun _ hk => ⟨trivial, hk⟩)) hg hat) hb ho
          clear BK422 HO426 HO429 HO432 HB HO_9
          obtain ⟨BK422, HO426, HO429, HO432, HB, HO435⟩ := n_
          clear ho hb hg hat
          refine hK.out _ _ ⟨(blk_cell BK422.out 0).trans rfl, (blk_cell BK422.out 1).trans rfl⟩ (fun hHeld => ?_)
          clear hK K
          refine norm_ (a' := ?_) ?_ ?_
          rotate_left
          ·show Act.put _ (some 38) _ = _
           simp only [Act.put, List.setIfInBounds_toArray, List.set_cons_zero, List.set_cons_succ, i64_w, i32_w]
           rfl
          refine Cy.pu 9 8 HT_ ?_
          refine Cy.pu 10 9 HT_ ?_
          refine done_ (done_of HT_.out (by kernel_rfl)) ?_
          try go_wp2
          go_roundg k1
          case measure => have := HK1.out; omega
          case rel => exact ⟨(y427), (y433), (wrap64 (x17_1 + 1)), (by first | rfl | (simp; done) | (simp [*]; done)), H', ⟨by have := HK1.out; omega⟩, ⟨by (with_reducible repeat (first | apply Kd.R_alloc | apply Kd.R_drewN | apply Kd.R_drew)); exact Kd.R_mono HO429.out (fun _ hk => trivial)⟩, ⟨by (with_reducible repeat (first | apply Kd.R_alloc | apply Kd.R_drewN | apply Kd.R_drew)); exact Kd.R_mono HO435.out (fun _ hk => trivial)⟩, ⟨Cz.w HB.out⟩⟩
         ·rw [if_neg c12] at H
          exact absurd H (by simp)
        ·rw [if_neg c11] at H
         exact absurd H (by simp)
       ·rw [if_neg c10] at H
        have c10b0 : decide (t423 < a0) = false := decide_eq_false c10
        clear c10
        have H' := Aside0.mk H
        clear H
        have p421 : 0 ≤ (x17_1 : Int) := of_decide_eq_true (by first | (with_reducible assumption) | assumption)
        have q421 : x17_1 < (l2.length : Int) := of_decide_eq_true (by first | (with_reducible assumption) | assumption)
        obtain ⟨ad421, e421, hx421_0, hx421_1⟩ := at_T112 HR2.out x17_1 p421 q421
        (try rw [← Nbq7.out] at hx421_0)
        cases e421
        replace hx421_0 := (HB.out.cell (World.block_lt_of_cell? w _ hx421_0)).trans hx421_0
        replace hx421_1 := (HB.out.cell (World.block_lt_of_cell? w _ hx421_1)).trans hx421_1
        replace p421 := eq_true p421
        replace q421 := eq_true q421
        go_wp2_with (first | ((with_reducible refine gate_dst (N := 11) rfl ?_); refine box_event ?hg (N := 11) ?hd (cs := #[.bool false, .string (⟨#[]⟩ : ByteArray)]) (t := 112) ?hr ?_; (case hd => rfl); (case hg => rfl); (case hr => first | (go_simp; done) | (go_simp; rfl)); intro gb422 hg w28 hbox hb; have n_ := Cy.a6 (Kd.R_below (Cz.r HO_8.out) hb) (Kd.R_below (Cz.r HO_9.out) hb) (below_step (Cz.w HB.out) hb) hbox (Cy.gw hg HB.out) (Cy.gw hg HB.out); clear HO_8 HO_9 HB; obtain ⟨HO_8, HO_9, HB, BK422, GW422, GE422⟩ := n_; clear hb hbox hg; obtain ⟨hcz29_0, hcz29_1, hfz29_0, hfz29_1⟩ := Cy.z2 BK422.out; obtain ⟨Ao30, co30, eo30⟩ := Kd.R_slice HO_8.out; subst eo30) | (go_at_call 67; (with_reducible refine (impl_size_int64_67.calls _ _ x8_1 t423 _ ?side1 ?side2 A9.out).mono ?_); (case side1 => refine (Kd.R_reads' (e := 2) (base := w.heap.size) (ok := fun k_ => True) (n := x8_1.length) (c := co30) ?_).2.2; exact (by (with_reducible repeat (first | apply Kd.R_alloc | apply Kd.R_drewN | apply Kd.R_drew)); exact (Kd.R_mono (Kd.R_far (p := ⟨gb422, 1, none⟩) (Kd.R_far (p := ⟨gb422, 0, none⟩) (Kd.R_types HO_8.out BK422.out (by decide)) (fun _ hk => hk.2) (.bool true)) (fun _ hk => hk.2) (.string ((rd_T112 l2 x17_1).f1))) (fun _ h_ => h_.1)))); (case side2 => exact (Kd.R_reads' HO_8.out).2.1); rintro e w' ⟨rfl, ⟨nd, rfl⟩⟩))
        go_roundg k1
        case measure => have := HK1.out; omega
        case rel => exact ⟨(x8_1), (x9_1), (wrap64 (x17_1 + 1)), (by first | rfl | (simp; done) | (simp [*]; done)), H', ⟨by have := HK1.out; omega⟩, ⟨by (with_reducible repeat (first | apply Kd.R_alloc | apply Kd.R_drewN | apply Kd.R_drew)); exact Kd.R_mono (Kd.R_far (p := ⟨gb422, 1, none⟩) (Kd.R_far (p := ⟨gb422, 0, none⟩) (Kd.R_types HO_8.out BK422.out (by decide)) (fun _ hk => hk.2) (.bool true)) (fun _ hk => hk.2) (.string ((rd_T112 l2 x17_1).f1))) (fun _ hk => trivial)⟩, ⟨by (with_reducible repeat (first | apply Kd.R_alloc | apply Kd.R_drewN | apply Kd.R_drew)); exact Kd.R_mono (Kd.R_far (p := ⟨gb422, 1, none⟩) (Kd.R_far (p := ⟨gb422, 0, none⟩) (Kd.R_types HO_9.out BK422.out (by decide)) (fun _ hk => hk.2) (.bool true)) (fun _ hk => hk.2) (.string ((rd_T112 l2 x17_1).f1))) (fun _ hk => trivial)⟩, ⟨Cz.w HB.out⟩⟩
      ·replace c8 := Bool.eq_false_iff.mpr c8
       subst c8
       have H1 : (impl_remade.l0 k1 a0 a1 x8_1 x9_1 l2 (l2.length : Int) (wrap64 (x17_1 + 1))) = some (r1, r2) := by rw [if_neg (show ¬ (false = true) by decide)] at H; exact H
       clear H
       have H := H1
       clear H1
       have H' := Aside0.mk H
       clear H
       have p421 : 0 ≤ (x17_1 : Int) := of_decide_eq_true (by first | (with_reducible assumption) | assumption)
       have q421 : x17_1 < (l2.length : Int) := of_decide_eq_true (by first | (with_reducible assumption) | assumption)
       obtain ⟨ad421, e421, hx421_0, hx421_1⟩ := at_T112 HR2.out x17_1 p421 q421
       (try rw [← Nbq7.out] at hx421_0)
       cases e421
       replace hx421_0 := (HB.out.cell (World.block_lt_of_cell? w _ hx421_0)).trans hx421_0
       replace hx421_1 := (HB.out.cell (World.block_lt_of_cell? w _ hx421_1)).trans hx421_1
       replace p421 := eq_true p421
       replace q421 := eq_true q421
       go_wp2_with (first | ((with_reducible refine gate_dst (N := 11) rfl ?_); refine box_event ?hg (N := 11) ?hd (cs := #[.bool false, .string (⟨#[]⟩ : ByteArray)]) (t := 112) ?hr ?_; (case hd => rfl); (case hg => rfl); (case hr => first | (go_simp; done) | (go_simp; rfl)); intro gb422 hg w31 hbox hb; have n_ := Cy.a6 (Kd.R_below (Cz.r HO_8.out) hb) (Kd.R_below (Cz.r HO_9.out) hb) (below_step (Cz.w HB.out) hb) hbox (Cy.gw hg HB.out) (Cy.gw hg HB.out); clear HO_8 HO_9 HB; obtain ⟨HO_8, HO_9, HB, BK422, GW422, GE422⟩ := n_; clear hb hbox hg; obtain ⟨hcz32_0, hcz32_1, hfz32_0, hfz32_1⟩ := Cy.z2 BK422.out))
       go_roundg k1
       case measure => have := HK1.out; omega
       case rel => exact ⟨(x8_1), (x9_1), (wrap64 (x17_1 + 1)), (by first | rfl | (simp; done) | (simp [*]; done)), H', ⟨by have := HK1.out; omega⟩, ⟨by (with_reducible repeat (first | apply Kd.R_alloc | apply Kd.R_drewN | apply Kd.R_drew)); exact Kd.R_mono (Kd.R_far (p := ⟨gb422, 1, none⟩) (Kd.R_far (p := ⟨gb422, 0, none⟩) (Kd.R_types HO_8.out BK422.out (by decide)) (fun _ hk => hk.2) (.bool false)) (fun _ hk => hk.2) (.string ((rd_T112 l2 x17_1).f1))) (fun _ hk => trivial)⟩, ⟨by (with_reducible repeat (first | apply Kd.R_alloc | apply Kd.R_drewN | apply Kd.R_drew)); exact Kd.R_mono (Kd.R_far (p := ⟨gb422, 1, none⟩) (Kd.R_far (p := ⟨gb422, 0, none⟩) (Kd.R_types HO_9.out BK422.out (by decide)) (fun _ hk => hk.2) (.bool false)) (fun _ hk => hk.2) (.string ((rd_T112 l2 x17_1).f1))) (fun _ hk => trivial)⟩, ⟨Cz.w HB.out⟩⟩
     ·rw [if_neg c6] at H
      exact absurd H (by simp)
    ·rw [if_neg c5] at H
     exact absurd H (by simp)
   ·rw [if_neg c4] at H
    have c4b0 : decide (x17_1 < (l2.length : Int)) = false := decide_eq_false c4
    clear c4
    replace H := Option.bind_eq_some_iff.mp H
    obtain ⟨t436, A330, H⟩ := H
    replace H : (if t436 < a0 then (some (([] : List ByteArray), false)) else ((impl_cauchy.f k1 a0 a1).bind fun bt437 => ((impl_Matrix_pick.f k1 bt437.1 bt437.2.1 bt437.2.2 x8_1).bind fun bt443 => ((impl_Matrix_inverse.f bt443.1 bt443.2.1 bt443.2.2).bind fun bt448 => ((impl_combined.f k1 bt448.1 bt448.2.1 bt448.2.2.1 x9_1).bind fun t455 => ((impl_combined.f k1 bt437.1 bt437.2.1 bt437.2.2 t455).bind fun t458 => (some (t458, true)))))))) = some (r1, r2) := H
    have A33 := Aside0.mk A330
    clear A330
    by_cases c34 : t436 < a0
    ·rw [if_pos c34] at H
     have c34b0 : decide (t436 < a0) = true := decide_eq_true c34
     clear c34
     simp only [Option.some.injEq, Prod.mk.injEq] at H
     obtain ⟨rfl, rfl⟩ := H
     obtain ⟨Ao35, co35, eo35⟩ := Kd.R_slice HO_8.out
     subst eo35
     go_wp2_with (first | ((with_reducible refine gate_callee (f := 67) rfl ?_); refine goesL_ (some 41) rfl rfl Try.func67 (by kernel_rfl) rfl #[.slice Ao35 x8_1.length co35] rfl Cy.ls ?_; (with_reducible refine (impl_size_int64_67.calls _ _ x8_1 t436 _ ?side1 ?side2 A33.out).mono ?_); (case side1 => exact Cy.cd (Kd.R_reads' HO_8.out).2.2); (case side2 => exact (Kd.R_reads' HO_8.out).2.1); rintro e w' ⟨rfl, ⟨nd, rfl⟩⟩; refine ⟨_, rfl, ?_⟩))
     go_ret2
     exact ⟨_, by first | rfl | (simp [errW_none, errW_some] <;> rfl) | (simp [*, errW_none, errW_some] <;> rfl), by first | exact Kd.R_nil _ _ _ _ _ | exact Kd.N_nil _ _ _ _ _ | exact Kd.V_nil _ _ _ _ _ | exact Kd.Q_nil _ _ _ _ _ | exact Kd.S_nil _ _ _ _ _, Cz.w HB.out⟩
    ·rw [if_neg c34] at H
     have c34b0 : decide (t436 < a0) = false := decide_eq_false c34
     clear c34
     replace H := Option.bind_eq_some_iff.mp H
     obtain ⟨⟨t437, t438, t439⟩, A360, H⟩ := H
     replace H : ((impl_Matrix_pick.f k1 t437 t438 t439 x8_1).bind fun bt443 => ((impl_Matrix_inverse.f bt443.1 bt443.2.1 bt443.2.2).bind fun bt448 => ((impl_combined.f k1 bt448.1 bt448.2.1 bt448.2.2.1 x9_1).bind fun t455 => ((impl_combined.f k1 t437 t438 t439 t455).bind fun t458 => (some (t458, true)))))) = some (r1, r2) := H
     have A36 := Aside0.mk A360
     clear A360
     replace H := Option.bind_eq_some_iff.mp H
     obtain ⟨⟨t443, t444, t445⟩, A370, H⟩ := H
     replace H : ((impl_Matrix_inverse.f t443 t444 t445).bind fun bt448 => ((impl_combined.f k1 bt448.1 bt448.2.1 bt448.2.2.1 x9_1).bind fun t455 => ((impl_combined.f k1 t437 t438 t439 t455).bind fun t458 => (some (t458, true))))) = some (r1, r2) := H
     have A37 := Aside0.mk A370
     clear A370
     replace H := Option.bind_eq_some_iff.mp H
     obtain ⟨⟨t448, t449, t450, t453⟩, A380, H⟩ := H
     replace H : ((impl_combined.f k1 t448 t449 t450 x9_1).bind fun t455 => ((impl_combined.f k1 t437 t438 t439 t455).bind fun t458 => (some (t458, true)))) = some (r1, r2) := H
     have A38 := Aside0.mk A380
     clear A380
     replace H := Option.bind_eq_some_iff.mp H
     obtain ⟨t455, A390, H⟩ := H
     replace H : ((impl_combined.f k1 t437 t438 t439 t455).bind fun t458 => (some (t458, true))) = some (r1, r2) := H
     have A39 := Aside0.mk A390
     clear A390
     replace H := Option.bind_eq_some_iff.mp H
     obtain ⟨t458, A400, H⟩ := H
     replace H : (some (t458, true)) = some (r1, r2) := H
     have A40 := Aside0.mk A400
     clear A400
     simp only [Option.some.injEq, Prod.mk.injEq] at H
     obtain ⟨rfl, rfl⟩ := H
     obtain ⟨Ao41, co41, eo41⟩ := Kd.R_slice HO_8.out
     subst eo41
     try go_wp2_with (first | ((with_reducible refine gate_callee (f := 67) rfl ?_); refine goesL_ (some 41) rfl rfl Try.func67 (by kernel_rfl) rfl #[.slice Ao41 x8_1.length co41] rfl Cy.ls ?_; (with_reducible refine (impl_size_int64_67.calls _ _ x8_1 t436 _ ?side1 ?side2 A33.out).mono ?_); (case side1 => exact Cy.cd (Kd.R_reads' HO_8.out).2.2); (case side2 => exact (Kd.R_reads' HO_8.out).2.1); rintro e w' ⟨rfl, ⟨nd, rfl⟩⟩; refine ⟨_, rfl, ?_⟩; (try (rw [drewN_self wr]; generalize hq_ : World.drewN wr _ = wr; have n0_ : Aside0 (Kd.R (Kd.int .i64) 2 wr w.heap.size (fun _ => True) (.slice Ao41 x8_1.length co41) x8_1) := ⟨by rw [← hq_]; exact (Cz.r HO_8.out)⟩; have n1_ : Aside0 (Kd.R Kd.string 9 wr w.heap.size (fun _ => True) u9 x9_1) := ⟨by rw [← hq_]; exact (Cz.r HO_9.out)⟩; have n2_ : Aside0 (Below w.heap.size w wr) := ⟨by rw [← hq_]; exact (Cz.w HB.out)⟩; clear HO_8 HO_9 HB hq_; have HO_8 := n0_; have HO_9 := n1_; have HB := n2_; clear n0_ n1_ n2_))) | ((with_reducible refine gate_callee (f := 75) rfl ?_); refine goesL_ (some 46) rfl rfl Try.func75 (by kernel_rfl) rfl #[.int .i64 a0, .int .i64 a1] rfl Cy.ls ?_; (with_reducible refine (impl_cauchy.calls k1 a0 a1 t437 t438 t439 _ A36.out).mono ?_); rintro e w42 ⟨v440, rfl, ho0, hb⟩; refine ⟨_, rfl, ?_⟩; have n_ := Cy.a4 (Kd.R_elder' (Cz.r HO_8.out) (Kd.R_base ho0) hb) (Kd.R_below (Cz.r HO_9.out) hb) (Kd.R_lower (Kd.R_new' ho0 (Kd.R_lt (Cz.r HO_8.out))) (below_size (Cz.w HB.out))) (below_step (Cz.w HB.out) hb); clear HO_8 HO_9 HB; obtain ⟨HO_8, HO_9, HO441, HB⟩ := n_; (try clear hb); (try clear hb2); (try clear hk); (try clear hi); (try clear ho0)) | ((with_reducible refine gate_dst (N := 12) rfl ?_); refine box_event ?hg (N := 12) ?hd (cs := #[.int .i64 0, .int .i64 0, .slice none 0 0]) (t := 27) ?hr ?_; (case hd => rfl); (case hg => rfl); (case hr => first | (go_simp; done) | (go_simp; rfl)); intro gb442 hg w43 hbox hb; have n_ := Cy.a7 (Kd.R_below (Cz.r HO_8.out) hb) (Kd.R_below (Cz.r HO_9.out) hb) (Kd.R_below (Cz.r HO441.out) hb) (below_step (Cz.w HB.out) hb) hbox (Cy.gw hg HB.out) (Cy.gw hg HB.out); clear HO_8 HO_9 HO441 HB; obtain ⟨HO_8, HO_9, HO441, HB, BK442, GW442, GE442⟩ := n_; clear hb hbox hg; obtain ⟨hcz44_0, hcz44_1, hcz44_2, hfz44_0, hfz44_1, hfz44_2⟩ := Cy.z3 BK442.out; obtain ⟨Ao45, co45, eo45⟩ := Kd.R_slice HO441.out; subst eo45) | ((with_reducible refine gate_store (t := 27) (p := 12) rfl ?_); refine store_event (t := 27) (p := 12) (v := ?vo_w46) (w1 := (((w43.setCell ⟨gb442, 0, none⟩ (.int .i64 t437)).setCell ⟨gb442, 1, none⟩ (.int .i64 t438)).setCell ⟨gb442, 2, none⟩ (.slice Ao45 t439.length co45))) ?hg ?ho ?hn ?hr ?_; (case ho => rfl); (case hg => rfl); (case hn => rfl); (case hr => first | (go_simp; done) | (go_simp; rfl)); intro w46 hw; have n0_ : Aside0 (Kd.R (Kd.int .i64) 2 w46 w.heap.size (fun k_ => some k_ ≠ (.slice Ao45 t439.length co45 : Value).ownBlock) (.slice Ao41 x8_1.length co41) x8_1) := ⟨(by rw [hw]; exact (by (with_reducible repeat (first | apply Kd.R_alloc | apply Kd.R_drewN | apply Kd.R_drew)); exact Kd.R_mono (Kd.R_far (p := ⟨gb442, 2, none⟩) (Kd.R_far (p := ⟨gb442, 1, none⟩) (Kd.R_far (p := ⟨gb442, 0, none⟩) (Kd.R_types HO_8.out BK442.out (by decide)) (fun _ hk => hk.2) (.int .i64 t437)) (fun _ hk => hk.2) (.int .i64 t438)) (fun _ hk => hk.2) (.slice Ao45 t439.length co45)) (fun _ hk => hk.1.2)))⟩; have n1_ : Aside0 (Kd.R Kd.string 9 w46 w.heap.size (fun _ => True) u9 x9_1) := ⟨(by rw [hw]; exact (by (with_reducible repeat (first | apply Kd.R_alloc | apply Kd.R_drewN | apply Kd.R_drew)); exact Kd.R_mono (Kd.R_far (p := ⟨gb442, 2, none⟩) (Kd.R_far (p := ⟨gb442, 1, none⟩) (Kd.R_far (p := ⟨gb442, 0, none⟩) (Kd.R_types HO_9.out BK442.out (by decide)) (fun _ hk => hk.2) (.int .i64 t437)) (fun _ hk => hk.2) (.int .i64 t438)) (fun _ hk => hk.2) (.slice Ao45 t439.length co45)) (fun _ hk => trivial)))⟩; have n2_ : Aside0 (Kd.R (Kd.int .i64) 2 w46 w.heap.size (fun k_ => some k_ ≠ (.slice Ao41 x8_1.length co41 : Value).ownBlock) (.slice Ao45 t439.length co45) t439) := ⟨(by rw [hw]; exact (by (with_reducible repeat (first | apply Kd.R_alloc | apply Kd.R_drewN | apply Kd.R_drew)); exact Kd.R_mono (Kd.R_far (p := ⟨gb442, 2, none⟩) (Kd.R_far (p := ⟨gb442, 1, none⟩) (Kd.R_far (p := ⟨gb442, 0, none⟩) (Kd.R_types HO441.out BK442.out (by decide)) (fun _ hk => hk.2) (.int .i64 t437)) (fun _ hk => hk.2) (.int .i64 t438)) (fun _ hk => hk.2) (.slice Ao45 t439.length co45)) (fun _ hk => hk.1.2)))⟩; have n3_ : Aside0 (w46.heap[gb442]? = some (.cells #[.int .i64 t437, .int .i64 t438, .slice Ao45 t439.length co45] 27 (0, 0))) := ⟨(by rw [hw]; exact (Cz.p3 BK442.out))⟩; have n4_ : Aside0 (Below w.heap.size w w46) := ⟨(by rw [hw]; exact (Cz.w HB.out))⟩; clear hw; clear HO_8 HO_9 HO441 BK442 HB; have HO_8 := n0_; have HO_9 := n1_; have HO441 := n2_; have BK442 := n3_; have HB := n4_; clear n0_ n1_ n2_ n3_ n4_; obtain ⟨hcz47_0, hcz47_1, hcz47_2, hfz47_0, hfz47_1, hfz47_2⟩ := Cy.z3 BK442.out) | ((with_reducible refine gate_callee (f := 81) rfl ?_); refine goesL_ (some 50) rfl rfl Try.func81 (by kernel_rfl) rfl #[.agg #[.int .i64 t437, .int .i64 t438, .slice Ao45 t439.length co45], .slice Ao41 x8_1.length co41] rfl Cy.ls ?_; (with_reducible refine (impl_Matrix_pick.calls k1 t437 t438 (fun k_ => some k_ = (.slice Ao45 t439.length co45 : Value).ownBlock) _ _ t439 _ _ x8_1 t443 t444 t445 _ ?side1 ?side2 ?side3 A37.out).mono ?_); (case side1 => exact Kd.R_V (Kd.R_tight rfl (Kd.R_types (Kd.R_apart' (HO441.out) (Kd.R_typed HO_9.out) (by decide)) BK442.out (by decide)))); (case side2 => exact Cy.cd (Kd.R_reads' HO_8.out).2.2); (case side3 => exact (Kd.R_reads' HO_8.out).2.1); rintro e w48 ⟨v446, rfl, ho0, hb⟩; refine ⟨_, rfl, ?_⟩; have n_ := Cy.a6 (Kd.R_elder' (Cz.r HO_8.out) (Kd.R_base ho0) hb) (Kd.R_below (Cz.r HO_9.out) hb) (Kd.R_elder' (Cz.r HO441.out) (Kd.R_base ho0) hb) (Kd.R_lower (Kd.R_new' (Kd.R_new' (Kd.R_mono (ok' := fun k_ => True) ho0 (fun _ hk_ => trivial)) (Kd.R_lt (Cz.r HO_8.out))) (Kd.R_lt (Cz.r HO441.out))) (below_size (Cz.w HB.out))) (blk_below (g := gb442) (o := .cells #[.int .i64 t437, .int .i64 t438, .slice Ao45 t439.length co45] 27 (0, 0)) (Cz.b BK442.out) hb) (below_step (Cz.w HB.out) hb); clear HO_8 HO_9 HO441 BK442 HB; obtain ⟨HO_8, HO_9, HO441, HO447, BK442, HB⟩ := n_; (try clear hb); (try clear hb2); (try clear hk); (try clear hi); (try clear ho0); obtain ⟨Ao49, co49, eo49⟩ := Kd.R_slice HO447.out; subst eo49) | ((with_reducible refine gate_callee (f := 83) rfl ?_); refine goesL_ (some 51) rfl rfl Try.func83 (by kernel_rfl) rfl #[.agg #[.int .i64 t443, .int .i64 t444, .slice Ao49 t445.length co49]] rfl Cy.ls ?_; (with_reducible refine (impl_Matrix_inverse.calls t443 t444 _ _ t445 t448 t449 t450 t453 _ ?side1 ?side2 A38.out).mono ?_); (case side1 => exact Cy.cd (Kd.R_reads' HO447.out).2.2); (case side2 => exact (Kd.R_reads' HO447.out).2.1); rintro e w50 ⟨v451, rfl, ho0, hb⟩; refine ⟨_, rfl, ?_⟩; have n_ := Cy.a7 (Kd.R_elder' (Cz.r HO_8.out) (Kd.R_base ho0) hb) (Kd.R_below (Cz.r HO_9.out) hb) (Kd.R_elder' (Cz.r HO441.out) (Kd.R_base ho0) hb) (Kd.R_elder' (Cz.r HO447.out) (Kd.R_base ho0) hb) (Kd.R_lower (Kd.R_new' (Kd.R_new' (Kd.R_new' ho0 (Kd.R_lt (Cz.r HO_8.out))) (Kd.R_lt (Cz.r HO441.out))) (Kd.R_lt (Cz.r HO447.out))) (below_size (Cz.w HB.out))) (blk_below (g := gb442) (o := .cells #[.int .i64 t437, .int .i64 t438, .slice Ao45 t439.length co45] 27 (0, 0)) (Cz.b BK442.out) hb) (below_step (Cz.w HB.out) hb); clear HO_8 HO_9 HO441 HO447 BK442 HB; obtain ⟨HO_8, HO_9, HO441, HO447, HO452, BK442, HB⟩ := n_; (try clear hb); (try clear hb2); (try clear hk); (try clear hi); (try clear ho0)) | ((with_reducible refine gate_dst (N := 13) rfl ?_); refine box_event ?hg (N := 13) ?hd (cs := #[.int .i64 0, .int .i64 0, .slice none 0 0]) (t := 27) ?hr ?_; (case hd => rfl); (case hg => rfl); (case hr => first | (go_simp; done) | (go_simp; rfl)); intro gb454 hg w51 hbox hb; have n_ := Cy.a12 (Kd.R_below (Cz.r HO_8.out) hb) (Kd.R_below (Cz.r HO_9.out) hb) (Kd.R_below (Cz.r HO441.out) hb) (Kd.R_below (Cz.r HO447.out) hb) (Kd.R_below (Cz.r HO452.out) hb) (blk_below (g := gb442) (o := .cells #[.int .i64 t437, .int .i64 t438, .slice Ao45 t439.length co45] 27 (0, 0)) (Cz.b BK442.out) hb) (below_step (Cz.w HB.out) hb) hbox (Cy.gw hg HB.out) (Cy.gw hg HB.out) (by rw [hg]; exact Nat.ne_of_lt (blk_lt (g := gb442) (o := .cells #[.int .i64 t437, .int .i64 t438, .slice Ao45 t439.length co45] 27 (0, 0)) (Cz.b BK442.out)) : gb442 ≠ gb454) (by rw [hg]; exact Nat.ne_of_gt (blk_lt (g := gb442) (o := .cells #[.int .i64 t437, .int .i64 t438, .slice Ao45 t439.length co45] 27 (0, 0)) (Cz.b BK442.out)) : gb454 ≠ gb442); clear HO_8 HO_9 HO441 HO447 HO452 BK442 HB; obtain ⟨HO_8, HO_9, HO441, HO447, HO452, BK442, HB, BK454, GW454, GE454, NB442_454, NB454_442⟩ := n_; clear hb hbox hg; have hnb52 := NB454_442.out; have hnc52 := NB442_454.out; obtain ⟨hcz53_0, hcz53_1, hcz53_2, hfz53_0, hfz53_1, hfz53_2⟩ := Cy.z3 BK454.out; obtain ⟨Ao54, co54, eo54⟩ := Kd.R_slice HO452.out; subst eo54))
     have n0_ : Aside0 (Kd.R (Kd.int .i64) 2 (((w51.setCell ⟨gb454, 0, none⟩ (.int .i64 t448)).setCell ⟨gb454, 1, none⟩ (.int .i64 t449)).setCell ⟨gb454, 2, none⟩ (.slice Ao54 t450.length co54)) w.heap.size (fun k_ => some k_ ≠ (.slice Ao45 t439.length co45 : Value).ownBlock ∧ some k_ ≠ (.slice Ao49 t445.length co49 : Value).ownBlock ∧ some k_ ≠ (.slice Ao54 t450.length co54 : Value).ownBlock) (.slice Ao41 x8_1.length co41) x8_1) := ⟨by (with_reducible repeat (first | apply Kd.R_alloc | apply Kd.R_drewN | apply Kd.R_drew)); exact Kd.R_mono (Kd.R_far (p := ⟨gb454, 2, none⟩) (Kd.R_far (p := ⟨gb454, 1, none⟩) (Kd.R_far (p := ⟨gb454, 0, none⟩) (Kd.R_types HO_8.out BK454.out (by decide)) (fun _ hk => hk.2) (.int .i64 t448)) (fun _ hk => hk.2) (.int .i64 t449)) (fun _ hk => hk.2) (.slice Ao54 t450.length co54)) (fun _ hk => ⟨hk.1.1.1, ⟨hk.1.1.2, hk.1.2⟩⟩)⟩
     have n1_ : Aside0 (Kd.R Kd.string 9 (((w51.setCell ⟨gb454, 0, none⟩ (.int .i64 t448)).setCell ⟨gb454, 1, none⟩ (.int .i64 t449)).setCell ⟨gb454, 2, none⟩ (.slice Ao54 t450.length co54)) w.heap.size (fun _ => True) u9 x9_1) := ⟨by (with_reducible repeat (first | apply Kd.R_alloc | apply Kd.R_drewN | apply Kd.R_drew)); exact Kd.R_mono (Kd.R_far (p := ⟨gb454, 2, none⟩) (Kd.R_far (p := ⟨gb454, 1, none⟩) (Kd.R_far (p := ⟨gb454, 0, none⟩) (Kd.R_types HO_9.out BK454.out (by decide)) (fun _ hk => hk.2) (.int .i64 t448)) (fun _ hk => hk.2) (.int .i64 t449)) (fun _ hk => hk.2) (.slice Ao54 t450.length co54)) (fun _ hk => trivial)⟩
     have n2_ : Aside0 (Kd.R (Kd.int .i64) 2 (((w51.setCell ⟨gb454, 0, none⟩ (.int .i64 t448)).setCell ⟨gb454, 1, none⟩ (.int .i64 t449)).setCell ⟨gb454, 2, none⟩ (.slice Ao54 t450.length co54)) w.heap.size (fun k_ => some k_ ≠ (.slice Ao41 x8_1.length co41 : Value).ownBlock ∧ some k_ ≠ (.slice Ao49 t445.length co49 : Value).ownBlock ∧ some k_ ≠ (.slice Ao54 t450.length co54 : Value).ownBlock) (.slice Ao45 t439.length co45) t439) := ⟨by (with_reducible repeat (first | apply Kd.R_alloc | apply Kd.R_drewN | apply Kd.R_drew)); exact Kd.R_mono (Kd.R_far (p := ⟨gb454, 2, none⟩) (Kd.R_far (p := ⟨gb454, 1, none⟩) (Kd.R_far (p := ⟨gb454, 0, none⟩) (Kd.R_types HO441.out BK454.out (by decide)) (fun _ hk => hk.2) (.int .i64 t448)) (fun _ hk => hk.2) (.int .i64 t449)) (fun _ hk => hk.2) (.slice Ao54 t450.length co54)) (fun _ hk => ⟨hk.1.1.1, ⟨hk.1.1.2, hk.1.2⟩⟩)⟩
     have n3_ : Aside0 (Kd.R (Kd.int .i64) 2 (((w51.setCell ⟨gb454, 0, none⟩ (.int .i64 t448)).setCell ⟨gb454, 1, none⟩ (.int .i64 t449)).setCell ⟨gb454, 2, none⟩ (.slice Ao54 t450.length co54)) w.heap.size (fun k_ => some k_ ≠ (.slice Ao41 x8_1.length co41 : Value).ownBlock ∧ some k_ ≠ (.slice Ao45 t439.length co45 : Value).ownBlock ∧ some k_ ≠ (.slice Ao54 t450.length co54 : Value).ownBlock) (.slice Ao49 t445.length co49) t445) := ⟨by (with_reducible repeat (first | apply Kd.R_alloc | apply Kd.R_drewN | apply Kd.R_drew)); exact Kd.R_mono (Kd.R_far (p := ⟨gb454, 2, none⟩) (Kd.R_far (p := ⟨gb454, 1, none⟩) (Kd.R_far (p := ⟨gb454, 0, none⟩) (Kd.R_types HO447.out BK454.out (by decide)) (fun _ hk => hk.2) (.int .i64 t448)) (fun _ hk => hk.2) (.int .i64 t449)) (fun _ hk => hk.2) (.slice Ao54 t450.length co54)) (fun _ hk => ⟨hk.1.1.1.2, ⟨hk.1.1.2, hk.1.2⟩⟩)⟩
     have n4_ : Aside0 (Kd.R (Kd.int .i64) 2 (((w51.setCell ⟨gb454, 0, none⟩ (.int .i64 t448)).setCell ⟨gb454, 1, none⟩ (.int .i64 t449)).setCell ⟨gb454, 2, none⟩ (.slice Ao54 t450.length co54)) w.heap.size (fun k_ => some k_ ≠ (.slice Ao41 x8_1.length co41 : Value).ownBlock ∧ some k_ ≠ (.slice Ao45 t439.length co45 : Value).ownBlock ∧ some k_ ≠ (.slice Ao49 t445.length co49 : Value).ownBlock) (.slice Ao54 t450.length co54) t450) := ⟨by (with_reducible repeat (first | apply Kd.R_alloc | apply Kd.R_drewN | apply Kd.R_drew)); exact Kd.R_mono (Kd.R_far (p := ⟨gb454, 2, none⟩) (Kd.R_far (p := ⟨gb454, 1, none⟩) (Kd.R_far (p := ⟨gb454, 0, none⟩) (Kd.R_types HO452.out BK454.out (by decide)) (fun _ hk => hk.2) (.int .i64 t448)) (fun _ hk => hk.2) (.int .i64 t449)) (fun _ hk => hk.2) (.slice Ao54 t450.length co54)) (fun _ hk => ⟨hk.1.1.1.2, ⟨hk.1.1.2, hk.1.2⟩⟩)⟩
     have n5_ : Aside0 ((((w51.setCell ⟨gb454, 0, none⟩ (.int .i64 t448)).setCell ⟨gb454, 1, none⟩ (.int .i64 t449)).setCell ⟨gb454, 2, none⟩ (.slice Ao54 t450.length co54)).heap[gb442]? = some (.cells #[.int .i64 t437, .int .i64 t438, .slice Ao45 t439.length co45] 27 (0, 0))) := ⟨Cz.f BK442.out NB442_454.out⟩
     have n6_ : Aside0 ((((w51.setCell ⟨gb454, 0, none⟩ (.int .i64 t448)).setCell ⟨gb454, 1, none⟩ (.int .i64 t449)).setCell ⟨gb454, 2, none⟩ (.slice Ao54 t450.length co54)).heap[gb454]? = some (.cells #[.int .i64 t448, .int .i64 t449, .slice Ao54 t450.length co54] 27 (0, 0))) := ⟨Cz.p3 BK454.out⟩
     have n7_ : Aside0 (Below w.heap.size w (((w51.setCell ⟨gb454, 0, none⟩ (.int .i64 t448)).setCell ⟨gb454, 1, none⟩ (.int .i64 t449)).setCell ⟨gb454, 2, none⟩ (.slice Ao54 t450.length co54))) := ⟨Cz.w HB.out⟩
     (try clear HO_8)
     (try clear HO_9)
     (try clear HO441)
     (try clear HO447)
     (try clear HO452)
     (try clear BK442)
     (try clear BK454)
     (try clear HB)
     generalize (((w51.setCell ⟨gb454, 0, none⟩ (.int .i64 t448)).setCell ⟨gb454, 1, none⟩ (.int .i64 t449)).setCell ⟨gb454, 2, none⟩ (.slice Ao54 t450.length co54)) = w55 at n0_ n1_ n2_ n3_ n4_ n5_ n6_ n7_ ⊢
     have HO_8 := n0_
     have HO_9 := n1_
     have HO441 := n2_
     have HO447 := n3_
     have HO452 := n4_
     have BK442 := n5_
     have BK454 := n6_
     have HB := n7_
     clear n0_ n1_ n2_ n3_ n4_ n5_ n6_ n7_
     have n_ := Cy.a8 (Kd.R_drew HO_8.out) (Kd.R_drew HO_9.out) (Kd.R_drew HO441.out) (Kd.R_drew HO447.out) (Kd.R_drew HO452.out) (blk_drew BK442.out) (blk_drew BK454.out) (below_drew1 HB.out)
     clear HO_8 HO_9 HO441 HO447 HO452 BK442 BK454 HB
     obtain ⟨HO_8, HO_9, HO441, HO447, HO452, BK442, BK454, HB⟩ := n_
     obtain ⟨Ao57, co57, eo57⟩ := Kd.R_slice HO_9.out
     (first | subst eo57 | (injection eo57 with f1_ f2_ f3_; have f4_ := f1_.symm; have f5_ := f3_.symm; clear f1_ f2_ f3_; subst f4_; subst f5_))
     refine start_ (n := 7) (S := fun w' => w'.cell? ⟨gb442, 0, none⟩ = some (.int .i64 t437) ∧ w'.cell? ⟨gb442, 1, none⟩ = some (.int .i64 t438) ∧ w'.cell? ⟨gb442, 2, none⟩ = some (.slice Ao45 t439.length co45) ∧ w'.cell? ⟨gb454, 0, none⟩ = some (.int .i64 t448) ∧ w'.cell? ⟨gb454, 1, none⟩ = some (.int .i64 t449) ∧ w'.cell? ⟨gb454, 2, none⟩ = some (.slice Ao54 t450.length co54)) (ds := []) #[false, false, false, false, false, false, false] (by kernel_rfl) rfl rfl ⟨(blk_cell BK442.out 0).trans rfl, (blk_cell BK442.out 1).trans rfl, (blk_cell BK442.out 2).trans rfl, (blk_cell BK454.out 0).trans rfl, (blk_cell BK454.out 1).trans rfl, (blk_cell BK454.out 2).trans rfl⟩ (fun hHeld => ?_)
     generalize w55.drew = w56 at HO_8 HO_9 HO441 HO447 HO452 BK442 BK454 HB hHeld ⊢
     refine pure_ (i := 2) (N := some 56) (v := ?_) (a' := ?_) #[false, false, true, false, false, false, false] rfl rfl (by kernel_rfl) (fun _ _ _ h => h) (Or.inl ⟨by rfl, ?_⟩) ?_ ?_
     rotate_left
     ·intro w'
      go_simp
      with_reducible rfl
     rotate_left
     ·simp only [Act.put, List.setIfInBounds_toArray, List.set_cons_zero, List.set_cons_succ, i64_w, i32_w]
      rfl
     refine take_ (i := 0) (N := some 54) (v := ?_) (a' := ?_) #[true, false, true, false, false, false, false] rfl rfl (by kernel_rfl) (fun _ _ _ h => h) (Or.inl ⟨by rfl, ?_⟩) hHeld ?_ ?_
     rotate_left
     ·rintro w' ⟨s0, s1, s2, s3, s4, s5⟩
      go_simp
      with_reducible rfl
     rotate_left
     ·simp only [Act.put, List.setIfInBounds_toArray, List.set_cons_zero, List.set_cons_succ, i64_w, i32_w]
      rfl
     refine take_ (i := 1) (N := some 55) (v := ?_) (a' := ?_) #[true, true, true, false, false, false, false] rfl rfl (by kernel_rfl) (fun _ _ _ h => h) (Or.inl ⟨by rfl, ?_⟩) hHeld ?_ ?_
     rotate_left
     ·rintro w' ⟨s0, s1, s2, s3, s4, s5⟩
      go_simp
      with_reducible rfl
     rotate_left
     ·simp only [Act.put, List.setIfInBounds_toArray, List.set_cons_zero, List.set_cons_succ, i64_w, i32_w]
      rfl
     refine one_ (i := 3) (N := some 57) #[true, true, true, true, false, false, false] rfl rfl (by kernel_rfl) (by decide) (fun K hK => ?_)
     refine goes_ Try.func96 (by kernel_rfl) rfl #[.agg #[.int .i64 t448, .int .i64 t449, .slice Ao54 t450.length co54], .slice Ao57 x9_1.length co57] (by rfl) rfl rfl Cy.ls ?_
     with_reducible refine (impl_combined.calls k1 t448 t449 _ _ t450 _ _ x9_1 t455 _ ?side1 ?side2 ?side3 ?side4 A39.out).mono ?_
     (case side1 => exact Cy.cd (Kd.R_reads' HO452.out).2.2)
     (case side2 => exact (Kd.R_reads' HO452.out).2.1)
     (case side3 => exact Cy.cd (Kd.R_reads' HO_9.out).2.2)
     (case side4 => exact (Kd.R_reads' HO_9.out).2.1)
     rintro e w58 ⟨v456, rfl, ho0, hb⟩
     refine ⟨_, rfl, ?_⟩
     have n_ := Cy.a9 (Kd.R_below (Cz.r HO_8.out) hb) (Kd.R_elder' (Cz.r HO_9.out) (Kd.R_base ho0) hb) (Kd.R_below (Cz.r HO441.out) hb) (Kd.R_below (Cz.r HO447.out) hb) (Kd.R_below (Cz.r HO452.out) hb) (Kd.R_lower (Kd.R_new' ho0 (Kd.R_lt (Cz.r HO_9.out))) (below_size (Cz.w HB.out))) (blk_below (g := gb442) (o := .cells #[.int .i64 t437, .int .i64 t438, .slice Ao45 t439.length co45] 27 (0, 0)) (Cz.b BK442.out) hb) (blk_below (g := gb454) (o := .cells #[.int .i64 t448, .int .i64 t449, .slice Ao54 t450.length co54] 27 (0, 0)) (Cz.b BK454.out) hb) (below_step (Cz.w HB.out) hb)
     clear HO_8 HO_9 HO441 HO447 HO452 BK442 BK454 HB
     obtain ⟨HO_8, HO_9, HO441, HO447, HO452, HO457, BK442, BK454, HB⟩ := n_
     (try clear hb)
     (try clear hb2)
     (try clear hk)
     (try clear hi)
     (try clear ho0)
     obtain ⟨Ao59, co59, eo59⟩ := Kd.R_slice HO457.out
     (first | subst eo59 | (injection eo59 with f1_ f2_ f3_; have f4_ := f1_.symm; have f5_ := f3_.symm; clear f1_ f2_ f3_; subst f4_; subst f5_))
     refine hK.out _ _ ⟨(blk_cell BK442.out 0).trans rfl, (blk_cell BK442.out 1).trans rfl, (blk_cell BK442.out 2).trans rfl, (blk_cell BK454.out 0).trans rfl, (blk_cell BK454.out 1).trans rfl, (blk_cell BK454.out 2).trans rfl⟩ (fun hHeld => ?_)
     clear hK K
     refine norm_ (a' := ?_) ?_ ?_
     rotate_left
     ·show Act.put _ (some 57) _ = _
      simp only [Act.put, List.setIfInBounds_toArray, List.set_cons_zero, List.set_cons_succ, i64_w, i32_w]
      rfl
     refine one_ (i := 4) (N := some 58) #[true, true, true, true, true, false, false] rfl rfl (by kernel_rfl) (by decide) (fun K hK => ?_)
     refine goes_ Try.func96 (by kernel_rfl) rfl #[.agg #[.int .i64 t437, .int .i64 t438, .slice Ao45 t439.length co45], .slice Ao59 t455.length co59] (by rfl) rfl rfl Cy.ls ?_
     with_reducible refine (impl_combined.calls k1 t437 t438 _ _ t439 _ _ t455 t458 _ ?side1 ?side2 ?side3 ?side4 A40.out).mono ?_
     (case side1 => exact Cy.cd (Kd.R_reads' HO441.out).2.2)
     (case side2 => exact (Kd.R_reads' HO441.out).2.1)
     (case side3 => exact Cy.cd (Kd.R_reads' HO457.out).2.2)
     (case side4 => exact (Kd.R_reads' HO457.out).2.1)
     rintro e w60 ⟨v459, rfl, ho0, hb⟩
     refine ⟨_, rfl, ?_⟩
     have n_ := Cy.a10 (Kd.R_below (Cz.r HO_8.out) hb) (Kd.R_elder' (Cz.r HO_9.out) (Kd.R_base ho0) hb) (Kd.R_below (Cz.r HO441.out) hb) (Kd.R_below (Cz.r HO447.out) hb) (Kd.R_below (Cz.r HO452.out) hb) (Kd.R_elder' (Cz.r HO457.out) (Kd.R_base ho0) hb) (Kd.R_lower (Kd.R_new' (Kd.R_new' ho0 (Kd.R_lt (Cz.r HO_9.out))) (Kd.R_lt (Cz.r HO457.out))) (below_size (Cz.w HB.out))) (blk_below (g := gb442) (o := .cells #[.int .i64 t437, .int .i64 t438, .slice Ao45 t439.length co45] 27 (0, 0)) (Cz.b BK442.out) hb) (blk_below (g := gb454) (o := .cells #[.int .i64 t448, .int .i64 t449, .slice Ao54 t450.length co54] 27 (0, 0)) (Cz.b BK454.out) hb) (below_step (Cz.w HB.out) hb)
     clear HO_8 HO_9 HO441 HO447 HO452 HO457 BK442 BK454 HB
     obtain ⟨HO_8, HO_9, HO441, HO447, HO452, HO457, HO460, BK442, BK454, HB⟩ := n_
     (try clear hb)
     (try clear hb2)
     (try clear hk)
     (try clear hi)
     (try clear ho0)
     refine hK.out _ _ ⟨(blk_cell BK442.out 0).trans rfl, (blk_cell BK442.out 1).trans rfl, (blk_cell BK442.out 2).trans rfl, (blk_cell BK454.out 0).trans rfl, (blk_cell BK454.out 1).trans rfl, (blk_cell BK454.out 2).trans rfl⟩ (fun hHeld => ?_)
     clear hK K
     refine norm_ (a' := ?_) ?_ ?_
     rotate_left
     ·show Act.put _ (some 58) _ = _
      simp only [Act.put, List.setIfInBounds_toArray, List.set_cons_zero, List.set_cons_succ, i64_w, i32_w]
      rfl
     refine pure_ (i := 5) (N := some 6) (v := ?_) (a' := ?_) #[true, true, true, true, true, true, false] rfl rfl (by kernel_rfl) (fun _ _ _ h => h) (Or.inl ⟨by rfl, ?_⟩) ?_ ?_
     rotate_left
     ·intro w'
      go_simp
      with_reducible rfl
     rotate_left
     ·simp only [Act.put, List.setIfInBounds_toArray, List.set_cons_zero, List.set_cons_succ, i64_w, i32_w]
      rfl
     refine pure_ (i := 6) (N := some 7) (v := ?_) (a' := ?_) #[true, true, true, true, true, true, true] rfl rfl (by kernel_rfl) (fun _ _ _ h => h) (Or.inl ⟨by rfl, ?_⟩) ?_ ?_
     rotate_left
     ·intro w'
      go_simp
      with_reducible rfl
     rotate_left
     ·simp only [Act.put, List.setIfInBounds_toArray, List.set_cons_zero, List.set_cons_succ, i64_w, i32_w]
      rfl
     refine done_ (by kernel_rfl) ?_
     try go_wp2
     go_ret2
     exact ⟨_, by first | rfl | (simp [errW_none, errW_some] <;> rfl) | (simp [*, errW_none, errW_some] <;> rfl), by (with_reducible repeat (first | apply Kd.R_alloc | apply Kd.R_drewN | apply Kd.R_drew)); exact Kd.R_mono HO460.out (fun _ hk => trivial), Cz.w HB.out⟩
end Go.Proofs.Ytlololbhlnapkaa.XFnExactDecode

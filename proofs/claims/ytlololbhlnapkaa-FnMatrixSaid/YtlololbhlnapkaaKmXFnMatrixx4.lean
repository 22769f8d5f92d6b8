/- Plain functions of what the law reaches, proofs that the calls come to them, and the law's row: written by a program of this session (xprint.py) over the kit's print. No conditions beyond each lemma's own. -/
import Derived.Test.YtlololbhlnapkaaKmCy
import Derived.Test.YtlololbhlnapkaaKmXFnMatrixx0
import Derived.Test.YtlololbhlnapkaaKmXFnMatrixx2
namespace Go.Proofs.Ytlololbhlnapkaa.XFnMatrix
open Go.RowKit Go.Proofs.YtlololbhlnapkaaW.PrintWords Go.Proofs.YtlololbhlnapkaaW.PrintLast Go.Proofs.YtlololbhlnapkaaW.PrintMore
attribute [local go_sem] max2_int min2_int max_two min_two max_three min_three max_four min_four   -- for this text's walks alone
set_option linter.unusedVariables false
set_option linter.unusedSimpArgs false
def impl_unit.f (a0 : Int) (a1 : Int) : Option (List Int) := if 0 ≤ a1 then (if (a1 : Int).toNat ≤ 35184372088832 then ((some (List.replicate (a1 : Int).toNat 0 : List Int)).bind fun y130 => (if 0 ≤ a0 then (if a0 < (y130.length : Int) then (some (y130.set (a0 : Int).toNat 1)) else (none)) else (none))) else (none)) else (none)
set_option maxHeartbeats 8000000 in
set_option maxRecDepth 100000 in
theorem impl_unit.calls (a0 : Int) (a1 : Int) (r : List Int) (w : World) (h : impl_unit.f a0 a1 = some r) :
  Calls Try.prog 121 #[.int .i64 a0, .int .i64 a1] w fun e w' => ∃ v0_ : Value, e = .returned (v0_) ∧ Kd.R (Kd.int .i64) 2 w' w.heap.size (fun _ => True) v0_ r ∧ Below w.heap.size w w' := by
 have HB := Aside0.mk (Below.refl w.heap.size w)
 have H : (if 0 ≤ a1 then (if (a1 : Int).toNat ≤ 35184372088832 then ((some (List.replicate (a1 : Int).toNat 0 : List Int)).bind fun y130 => (if 0 ≤ a0 then (if a0 < (y130.length : Int) then (some (y130.set (a0 : Int).toNat 1)) else (none)) else (none))) else (none)) else (none)) = some r := h
 clear h
 by_cases c3 : 0 ≤ a1
 ·rw [if_pos c3] at H
  have c3b0 := eq_true c3
  have c3b1 : decide (0 ≤ a1) = true := decide_eq_true c3
  clear c3
  by_cases c4 : (a1 : Int).toNat ≤ 35184372088832
  ·rw [if_pos c4] at H
   have c4b0 := eq_true c4
   have c4b1 : decide ((a1 : Int).toNat ≤ 35184372088832) = true := decide_eq_true c4
   clear c4
   obtain ⟨y130, hy130⟩ : ∃ y_ : List Int, y_ = (List.replicate (a1 : Int).toNat 0) := ⟨_, rfl⟩
   replace H : (if 0 ≤ a0 then (if a0 < (y130.length : Int) then (some (y130.set (a0 : Int).toNat 1)) else (none)) else (none)) = some r := by first | (rw [hy130]; with_reducible exact H) | (have H2_ := (Option.bind_some _ _).symm.trans H; rw [hy130]; with_reducible exact H2_) | (have H2_ := (Option.bind_some _ _).symm.trans H; with_reducible exact H2_) | with_reducible exact H | (rw [hy130]; exact H) | exact H
   have Ny130 := Aside0.mk hy130
   clear hy130
   by_cases c5 : 0 ≤ a0
   ·rw [if_pos c5] at H
    have c5b0 : decide (0 ≤ a0) = true := decide_eq_true c5
    clear c5
    by_cases c6 : a0 < (y130.length : Int)
    ·rw [if_pos c6] at H
     have c6b0 : decide (a0 < (y130.length : Int)) = true := decide_eq_true c6
     clear c6
     obtain ⟨y133, hy133⟩ : ∃ y_ : List Int, y_ = (y130.set (a0 : Int).toNat 1) := ⟨_, rfl⟩
     replace H : (some y133) = some r := by first | (rw [hy133]; with_reducible exact H) | (have H2_ := (Option.bind_some _ _).symm.trans H; rw [hy133]; with_reducible exact H2_) | (have H2_ := (Option.bind_some _ _).symm.trans H; with_reducible exact H2_) | with_reducible exact H | (rw [hy133]; exact H) | exact H
     have Ny133 := Aside0.mk hy133
     clear hy133
     obtain rfl := Option.some.inj H
     go_enter Try.func121, Try.ntmps121
     go_wp2_with (first | ((with_reducible refine gate_dst (N := 7) rfl ?_); refine Kd.R_make (Kd.int .i64) _ 2 rfl (N := 7) rfl 22 _ _ rfl a1 rfl rfl Try.underlying22 (.int .i64 0) 8 info2 rfl (by decide) (by omega) 0 (ok := fun _ => True) (okp := fun _ => True) rfl (fun _ hk => hk) trivial (of_decide_eq_true (by first | (with_reducible assumption) | assumption)) (Nat.le_trans (Nat.mul_le_mul_right _ (of_decide_eq_true (by first | (with_reducible assumption) | assumption) : a1.toNat ≤ 35184372088832)) (by omega)) (Below.refl _ _) (Nat.le_refl _) ?_; intro v131 w8 ho9 hb hg_ hnew_; clear hg_ hnew_; (first | rw [← Ny130.out] at ho9 | (simp only [Int.reduceToNat] at ho9; rw [← Ny130.out] at ho9)); have n_ := Cy.a2 (Kd.R_lower ho9 (below_size (Cz.w HB.out))) (below_step (Cz.w HB.out) hb); clear HB; obtain ⟨HO132, HB⟩ := n_; clear hb ho9; have p7 : 0 ≤ (a0 : Int) := of_decide_eq_true (by first | (with_reducible assumption) | assumption); have q7 : (a0 : Int) < ((y130.length : Int) : Int) := of_decide_eq_true (by first | (with_reducible assumption) | assumption); obtain ⟨go7, co7, eo7, gb7, gl7, cl7, HG7⟩ := Kd.R_form HO132.out (by omega); (first | cases eo7 | (injection eo7 with ea_ en_ ec_; (first | subst ea_ | (injection ea_ with ea_; subst ea_)); subst ec_; clear en_)); have GB7 := Aside0.mk gb7; have GG7 := Aside0.mk HG7; clear gb7 gl7 HG7; obtain ⟨hx7_0, hf7_0⟩ := Kd.R_celln 0 HO132.out (a0 : Int) p7 q7; replace p7 := eq_true p7; replace q7 := eq_true q7; obtain ⟨hy10_, hz10_⟩ := Kd.R_celln 0 HO132.out (a0 : Int) (of_decide_eq_true (by first | (with_reducible assumption) | assumption)) (of_decide_eq_true (by first | (with_reducible assumption) | assumption)); have HP10 := Kd.R_putg HO132.out (a0 : Int) 1) | ((with_reducible refine gate_store (t := 2) (p := 10) rfl ?_); refine store_event (t := 2) (p := 10) (v := ?vo_w11) (w1 := (w8.setCell ⟨go7, (a0 : Int).toNat, none⟩ (.int .i64 1))) ?hg ?ho ?hn ?hr ?_; (case ho => rfl); (case hg => rfl); (case hn => rfl); (case hr => first | (go_simp; done) | (go_simp; rfl)); intro w11 hw; have hg : w8.grownBy w11 (some go7) := (by rw [hw]; exact HP10.2); have hp_ : Kd.R (Kd.int .i64) 2 w11 w.heap.size (fun _ => True) (.slice (some ⟨go7, 0, none⟩) y130.length co7) y133 := (by rw [hw, Ny133.out]; exact HP10.1); clear HP10; have n_ := Cy.a2 hp_ (by rw [hw]; exact below_set (HB.out) GB7.out : Below w.heap.size w w11); clear HO132 HB; obtain ⟨HO132, HB⟩ := n_; clear hg hw hp_))
     go_ret
     exact ⟨_, by first | rfl | (simp [errW_none, errW_some] <;> rfl) | (simp [*, errW_none, errW_some] <;> rfl), Cz.r HO132.out, Cz.w HB.out⟩
    ·rw [if_neg c6] at H
     exact absurd H (by simp)
   ·rw [if_neg c5] at H
    exact absurd H (by simp)
  ·rw [if_neg c4] at H
   exact absurd H (by simp)
 ·rw [if_neg c3] at H
  exact absurd H (by simp)
def impl_size_int64_67.f (l0 : List Int) : Option (Int) := some (l0.length : Int)
set_option maxHeartbeats 8000000 in
set_option maxRecDepth 100000 in
theorem impl_size_int64_67.calls (A0 : Option Addr) (c0 : Nat) (l0 : List Int) (r : Int) (w : World) (hr0 : Kd.C (Kd.int .i64) w A0 l0.length l0) (hc0 : l0.length ≤ c0) (h : impl_size_int64_67.f l0 = some r) :
  Calls Try.prog 67 #[.slice A0 l0.length c0] w fun e w' => e = .returned (.int .i64 r) ∧ Drawn0 w w' := by
 have HR0 := Aside0.mk hr0
 have HC0 := Aside0.mk hc0
 clear hr0 hc0
 have H : (some (l0.length : Int)) = some r := h
 clear h
 obtain rfl := Option.some.inj H
 go_enter Try.func67, Try.ntmps67
 go_wp2
 go_ret
 exact ⟨by first | rfl | (simp; done) | (simp [*]; done), by repeat (first | exact Drawn0.refl _ | apply Drawn0.step)⟩
def impl_size_int64_144.f (l0 : List (List Int)) : Option (Int) := some (l0.length : Int)
set_option maxHeartbeats 8000000 in
set_option maxRecDepth 100000 in
theorem impl_size_int64_144.calls (A0 : Option Addr) (c0 : Nat) (l0 : List (List Int)) (r : Int) (w : World) (hr0 : Kd.C (Kd.slice 2 (Kd.int .i64)) w A0 l0.length l0) (hc0 : l0.length ≤ c0) (h : impl_size_int64_144.f l0 = some r) :
  Calls Try.prog 144 #[.slice A0 l0.length c0] w fun e w' => e = .returned (.int .i64 r) ∧ Drawn0 w w' := by
 have HR0 := Aside0.mk hr0
 have HC0 := Aside0.mk hc0
 clear hr0 hc0
 have H : (some (l0.length : Int)) = some r := h
 clear h
 obtain rfl := Option.some.inj H
 go_enter Try.func144, Try.ntmps144
 go_wp2
 go_ret
 exact ⟨by first | rfl | (simp; done) | (simp [*]; done), by repeat (first | exact Drawn0.refl _ | apply Drawn0.step)⟩
def impl_matrixOf.f (k : Nat) (l0 : List (List Int)) : Option (Int × Int × List Int) := (impl_size_int64_144.f l0).bind fun t135 => (if 0 < (l0.length : Int) then ((impl_size_int64_67.f (rd_L1 l0 0)).bind fun t137 => ((slices_Concat_int64_int64.f k l0).bind fun t138 => (some (t135, t137, t138)))) else (none))
def impl_matrixOf.T1 : Bool × List (List Nat × List Nat) := (true, [([], []), ([0], [0]), ([], []), ([2], [2]), ([3], [3]), ([4, 1], [4]), ([], []), ([6, 5], [6]), ([1, 5, 7], [1, 5, 7]), ([8, 7, 0, 1, 2, 3, 4, 5, 6, 7, 8], [8])])
def impl_matrixOf.B1 : List Nat := [0, 1, 0, 4, 12, 31, 0, 127, 255, 511]
theorem impl_matrixOf.tab1 : rtab .any (opsOf Try.f123 1) = impl_matrixOf.T1 := by kernel_rfl
theorem impl_matrixOf.bits1 : waitsOk impl_matrixOf.T1.2 impl_matrixOf.B1 = true := by kernel_rfl
set_option maxHeartbeats 8000000 in
set_option maxRecDepth 100000 in
theorem impl_matrixOf.calls (k : Nat) (A0 : Option Addr) (c0 : Nat) (l0 : List (List Int)) (r1 : Int) (r2 : Int) (r3 : List Int) (w : World) (hr0 : Kd.C (Kd.slice 2 (Kd.int .i64)) w A0 l0.length l0) (hc0 : l0.length ≤ c0) (h : impl_matrixOf.f k l0 = some (r1, r2, r3)) :
  Calls Try.prog 123 #[.slice A0 l0.length c0] w fun e w' => ∃ v2_ : Value, e = .returned (.agg #[.int .i64 r1, .int .i64 r2, v2_]) ∧ Kd.R (Kd.int .i64) 2 w' w.heap.size (fun _ => True) v2_ r3 ∧ Below w.heap.size w w' := by
 have hu27 := Try.underlying27
 have HR0 := Aside0.mk hr0
 have HC0 := Aside0.mk hc0
 clear hr0 hc0
 have HB := Aside0.mk (Below.refl w.heap.size w)
 have H : ((impl_size_int64_144.f l0).bind fun t135 => (if 0 < (l0.length : Int) then ((impl_size_int64_67.f (rd_L1 l0 0)).bind fun t137 => ((slices_Concat_int64_int64.f k l0).bind fun t138 => (some (t135, t137, t138)))) else (none))) = some (r1, r2, r3) := h
 clear h
 replace H := Option.bind_eq_some_iff.mp H
 obtain ⟨t135, A20, H⟩ := H
 replace H : (if 0 < (l0.length : Int) then ((impl_size_int64_67.f (rd_L1 l0 0)).bind fun t137 => ((slices_Concat_int64_int64.f k l0).bind fun t138 => (some (t135, t137, t138)))) else (none)) = some (r1, r2, r3) := H
 have A2 := Aside0.mk A20
 clear A20
 by_cases c3 : 0 < (l0.length : Int)
 ·rw [if_pos c3] at H
  have c3b0 : decide (0 < (l0.length : Int)) = true := decide_eq_true c3
  have c3b1 : decide (0 < l0.length) = true := decide_eq_true (by omega)
  clear c3
  replace H := Option.bind_eq_some_iff.mp H
  obtain ⟨t137, A40, H⟩ := H
  replace H : ((slices_Concat_int64_int64.f k l0).bind fun t138 => (some (t135, t137, t138))) = some (r1, r2, r3) := H
  have A4 := Aside0.mk A40
  clear A40
  replace H := Option.bind_eq_some_iff.mp H
  obtain ⟨t138, A50, H⟩ := H
  replace H : (some (t135, t137, t138)) = some (r1, r2, r3) := H
  have A5 := Aside0.mk A50
  clear A50
  simp only [Option.some.injEq, Prod.mk.injEq] at H
  obtain ⟨rfl, rfl, rfl⟩ := H
  go_enter Try.func123, Try.ntmps123
  try go_wp2_with (first | ((with_reducible refine gate_dst (N := 2) rfl ?_); refine box_event ?hg (N := 2) ?hd (cs := #[.int .i64 0, .int .i64 0, .slice none 0 0]) (t := 27) ?hr ?_; (case hd => rfl); (case hg => rfl); (case hr => first | (go_simp; done) | (go_simp; rfl)); intro gb134 hg w6 hbox hb; have n_ := Cy.a4 (below_step (Cz.w HB.out) hb) hbox (Cy.gw hg HB.out) (Cy.gw hg HB.out); clear HB; obtain ⟨HB, BK134, GW134, GE134⟩ := n_; clear hb hbox hg))
  have n_ := Cy.a2 (blk_drew BK134.out) (below_drew1 HB.out)
  clear BK134 HB
  obtain ⟨BK134, HB⟩ := n_
  have p136 : 0 ≤ (0 : Int) := (by omega)
  have q136 : 0 < (l0.length : Int) := of_decide_eq_true (by first | (with_reducible assumption) | assumption)
  obtain ⟨ad136, A136_0, c136_0, e136, hx136_0, hl136_0, hi136_0⟩ := at_L1 HR0.out 0 p136 q136
  have hw136_0 := hx136_0
  (try rw [show ((0 : Int)).toNat = 0 from rfl] at hw136_0)
  (try rw [show 0 * 1 = 0 from rfl] at hw136_0)
  (try rw [Addr.add_zero'] at hw136_0)
  cases e136
  have qi136 : (0 < l0.length) = True := eq_true (by omega)
  (try rw [show ((0 : Int)).toNat = 0 from rfl] at hx136_0)
  (try rw [Addr.add_zero'] at hx136_0)
  replace hx136_0 := (HB.out.cell (World.block_lt_of_cell? w _ hx136_0)).trans hx136_0
  have HR136_0 := Aside0.mk hi136_0
  have HC136_0 := Aside0.mk hl136_0
  clear hi136_0 hl136_0
  replace p136 := eq_true p136
  replace q136 := eq_true q136
  refine start_ (n := 10) (S := fun w' => w'.cell? ad136 = some (.slice A136_0 (rd_L1 l0 0).length c136_0)) (ds := []) #[false, false, false, false, false, false, false, false, false, false] (by kernel_rfl) rfl rfl (((HB.out.cell (World.block_lt_of_cell? w _ hw136_0)).trans hw136_0)) (fun hHeld => ?_); refine with_tabW impl_matrixOf.tab1 impl_matrixOf.bits1 (fun HT_ HW_ => ?_)
  generalize w6.drew = w7 at BK134 HB HR136_0 hx136_0 hHeld ⊢
  refine Cy.pu 0 3 HT_ ?_
  refine Cy.pu 2 5 HT_ ?_
  refine Cy.pu 3 6 HT_ ?_
  refine Cy.pu 6 9 HT_ ?_
  refine Cy.tk 4 7 HT_ HW_ hHeld ?_
  refine one_ (i := 1) (N := some 4) #[true, true, true, true, true, false, true, false, false, false] rfl rfl (one_of HT_.out (by kernel_rfl)) (by decide) (fun K hK => ?_)
  refine goes_ Try.func144 (by kernel_rfl) rfl #[.slice (some ad136) l0.length c0] (by rfl) rfl rfl Cy.ls ?_
  with_reducible refine (impl_size_int64_144.calls _ _ l0 t135 _ ?side1 ?side2 A2.out).mono ?_
  (case side1 => exact Cz.c HR0.out HB.out)
  (case side2 => exact HC0.out)
  rintro e w' ⟨rfl, ⟨nd, rfl⟩⟩
  refine ⟨_, rfl, ?_⟩
  refine hK.out _ _ (((HB.out.cell (World.block_lt_of_cell? w _ hw136_0)).trans hw136_0)) (fun hHeld => ?_)
  clear hK K
  refine norm_ (a' := ?_) ?_ ?_
  rotate_left
  ·show Act.put _ (some 4) _ = _
   simp only [Act.put, List.setIfInBounds_toArray, List.set_cons_zero, List.set_cons_succ, i64_w, i32_w]
   rfl
  refine one_ (i := 5) (N := some 8) #[true, true, true, true, true, true, true, false, false, false] rfl rfl (one_of HT_.out (by kernel_rfl)) (by decide) (fun K hK => ?_)
  refine goes_ Try.func67 (by kernel_rfl) rfl #[.slice A136_0 (rd_L1 l0 0).length c136_0] (by rfl) rfl rfl Cy.ls ?_
  with_reducible refine (impl_size_int64_67.calls _ _ (rd_L1 l0 0) t137 _ ?side1 ?side2 A4.out).mono ?_
  (case side1 => repeat (first | exact (Kd.C_below HR136_0.out (Cz.w HB.out)) | (with_reducible refine Kd.C_alloc ?_ _) | (with_reducible refine Kd.C_drewN ?_ _) | (with_reducible refine Kd.C_drew ?_)))
  (case side2 => exact HC136_0.out)
  rintro e w' ⟨rfl, ⟨nd, rfl⟩⟩
  refine ⟨_, rfl, ?_⟩
  refine hK.out _ _ (((HB.out.cell (World.block_lt_of_cell? w _ hw136_0)).trans hw136_0)) (fun hHeld => ?_)
  clear hK K
  refine norm_ (a' := ?_) ?_ ?_
  rotate_left
  ·show Act.put _ (some 8) _ = _
   simp only [Act.put, List.setIfInBounds_toArray, List.set_cons_zero, List.set_cons_succ, i64_w, i32_w]
   rfl
  refine one_ (i := 7) (N := some 10) #[true, true, true, true, true, true, true, true, false, false] rfl rfl (one_of HT_.out (by kernel_rfl)) (by decide) (fun K hK => ?_)
  refine goes_ Try.func127 (by kernel_rfl) rfl #[.slice (some ad136) l0.length c0] (by rfl) rfl rfl Cy.ls ?_
  with_reducible refine (slices_Concat_int64_int64.calls k _ _ l0 t138 _ ?side1 ?side2 A5.out).mono ?_
  (case side1 => repeat (first | exact (Kd.C_below HR0.out (Cz.w HB.out)) | (with_reducible refine Kd.C_alloc ?_ _) | (with_reducible refine Kd.C_drewN ?_ _) | (with_reducible refine Kd.C_drew ?_)))
  (case side2 => exact HC0.out)
  rintro e w8 ⟨v139, rfl, ho0, hb⟩
  refine ⟨_, rfl, ?_⟩
  have n_ := Cy.a3 (Kd.R_lower ho0 (below_size (Cz.w HB.out))) (blk_below (g := gb134) (o := .cells #[.int .i64 0, .int .i64 0, .slice none 0 0] 27 (0, 0)) (Cz.b BK134.out) hb) (below_step (Cz.w HB.out) hb)
  clear BK134 HB
  obtain ⟨HO140, BK134, HB⟩ := n_
  (try clear hb)
  (try clear hb2)
  (try clear hk)
  (try clear hi)
  (try clear ho0)
  obtain ⟨Ao9, co9, eo9⟩ := Kd.R_slice HO140.out
  (first | subst eo9 | (injection eo9 with f1_ f2_ f3_; have f4_ := f1_.symm; have f5_ := f3_.symm; clear f1_ f2_ f3_; subst f4_; subst f5_))
  refine hK.out _ _ (((HB.out.cell (World.block_lt_of_cell? w _ hw136_0)).trans hw136_0)) (fun hHeld => ?_)
  clear hK K
  refine norm_ (a' := ?_) ?_ ?_
  rotate_left
  ·show Act.put _ (some 10) _ = _
   simp only [Act.put, List.setIfInBounds_toArray, List.set_cons_zero, List.set_cons_succ, i64_w, i32_w]
   rfl
  refine Cy.pu 8 11 HT_ ?_
  refine one_ (i := 9) (N := none) #[true, true, true, true, true, true, true, true, true, true] rfl rfl (one_of HT_.out (by kernel_rfl)) (by decide) (fun K hK => ?_)
  have hs10 : w8.cell? ⟨gb134, 0, none⟩ = some (.int .i64 0) := (blk_cell BK134.out 0).trans rfl
  have hfs10 := blk_frozen BK134.out 0
  have hs11 : w8.cell? ⟨gb134, 1, none⟩ = some (.int .i64 0) := (blk_cell BK134.out 1).trans rfl
  have hfs11 := blk_frozen BK134.out 1
  have hs12 : w8.cell? ⟨gb134, 2, none⟩ = some (.slice none 0 0) := (blk_cell BK134.out 2).trans rfl
  have hfs12 := blk_frozen BK134.out 2
  refine skip_ (w1 := ?_) (by rfl) rfl ?_ ?_
  rotate_left
  ·go_simp
   rfl
  refine hK.out _ _ (((cell_far (p := ⟨gb134, _, none⟩) (by first | exact Nat.ne_of_lt (Nat.lt_of_lt_of_le (by have := World.block_lt_of_cell? _ _ hw136_0; first | rwa [add_block] at this | exact this) GW134.out) | (rw [add_block]; exact Nat.ne_of_lt (Nat.lt_of_lt_of_le (by have := World.block_lt_of_cell? _ _ hw136_0; first | rwa [add_block] at this | exact this) GW134.out)) | (show (Addr.add _ _).block ≠ _; rw [add_block]; exact Nat.ne_of_lt (Nat.lt_of_lt_of_le (by have := World.block_lt_of_cell? _ _ hw136_0; first | rwa [add_block] at this | exact this) GW134.out)) | (dsimp only; exact Nat.ne_of_lt (Nat.lt_of_lt_of_le (by have := World.block_lt_of_cell? _ _ hw136_0; first | rwa [add_block] at this | exact this) GW134.out))) _).trans (((cell_far (p := ⟨gb134, _, none⟩) (by first | exact Nat.ne_of_lt (Nat.lt_of_lt_of_le (by have := World.block_lt_of_cell? _ _ hw136_0; first | rwa [add_block] at this | exact this) GW134.out) | (rw [add_block]; exact Nat.ne_of_lt (Nat.lt_of_lt_of_le (by have := World.block_lt_of_cell? _ _ hw136_0; first | rwa [add_block] at this | exact this) GW134.out)) | (show (Addr.add _ _).block ≠ _; rw [add_block]; exact Nat.ne_of_lt (Nat.lt_of_lt_of_le (by have := World.block_lt_of_cell? _ _ hw136_0; first | rwa [add_block] at this | exact this) GW134.out)) | (dsimp only; exact Nat.ne_of_lt (Nat.lt_of_lt_of_le (by have := World.block_lt_of_cell? _ _ hw136_0; first | rwa [add_block] at this | exact this) GW134.out))) _).trans (((cell_far (p := ⟨gb134, _, none⟩) (by first | exact Nat.ne_of_lt (Nat.lt_of_lt_of_le (by have := World.block_lt_of_cell? _ _ hw136_0; first | rwa [add_block] at this | exact this) GW134.out) | (rw [add_block]; exact Nat.ne_of_lt (Nat.lt_of_lt_of_le (by have := World.block_lt_of_cell? _ _ hw136_0; first | rwa [add_block] at this | exact this) GW134.out)) | (show (Addr.add _ _).block ≠ _; rw [add_block]; exact Nat.ne_of_lt (Nat.lt_of_lt_of_le (by have := World.block_lt_of_cell? _ _ hw136_0; first | rwa [add_block] at this | exact this) GW134.out)) | (dsimp only; exact Nat.ne_of_lt (Nat.lt_of_lt_of_le (by have := World.block_lt_of_cell? _ _ hw136_0; first | rwa [add_block] at this | exact this) GW134.out))) _).trans (hHeld))))))) (fun hHeld => ?_)
  clear hK K
  refine done_ (done_of HT_.out (by kernel_rfl)) ?_
  try go_wp2
  refine bodyPost_ret (results_cell_row rfl _ _ gb134 27 #[.int .i64 t135, .int .i64 t137, .slice Ao9 t138.length co9] (0, 0) _ rfl (Cz.p3 BK134.out) Try.underlying27 rfl (by kernel_rfl)) rfl ?_
  exact ⟨_, by first | rfl | (simp [errW_none, errW_some] <;> rfl) | (simp [*, errW_none, errW_some] <;> rfl), by (with_reducible repeat (first | apply Kd.R_alloc | apply Kd.R_drewN | apply Kd.R_drew)); exact Kd.R_mono (Kd.R_far (p := ⟨gb134, 2, none⟩) (Kd.R_far (p := ⟨gb134, 1, none⟩) (Kd.R_far (p := ⟨gb134, 0, none⟩) (Kd.R_types HO140.out BK134.out (by decide)) (fun _ hk => hk.2) (.int .i64 t135)) (fun _ hk => hk.2) (.int .i64 t137)) (fun _ hk => hk.2) (.slice Ao9 t138.length co9)) (fun _ hk => trivial), Cz.w HB.out⟩
 ·rw [if_neg c3] at H
  exact absurd H (by simp)
end Go.Proofs.Ytlololbhlnapkaa.XFnMatrix

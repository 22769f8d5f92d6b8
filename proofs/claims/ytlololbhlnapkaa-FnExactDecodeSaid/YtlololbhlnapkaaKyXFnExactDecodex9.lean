/- Plain functions of what the law reaches, proofs that the calls come to them, and the law's row: written by a program of this session (xprint.py) over the kit's print. No conditions beyond each lemma's own. -/
import Derived.Test.YtlololbhlnapkaaKyCy
import Derived.Test.YtlololbhlnapkaaKyXFnExactDecodex0
import Derived.Test.YtlololbhlnapkaaKyXFnExactDecodex1
import Derived.Test.YtlololbhlnapkaaKyXFnExactDecodex2
import Derived.Test.YtlololbhlnapkaaKyXFnExactDecodex4
import Derived.Test.YtlololbhlnapkaaKyXFnExactDecodex7
import Derived.Test.YtlololbhlnapkaaKyXFnExactDecodex8
namespace Go.Proofs.Ytlololbhlnapkaa.XFnExactDecode
open Go.RowKit Go.Proofs.YtlololbhlnapkaaW.PrintWords Go.Proofs.YtlololbhlnapkaaW.PrintLast Go.Proofs.YtlololbhlnapkaaW.PrintMore
attribute [local go_sem] max2_int min2_int max_two min_two max_three min_three max_four min_four   -- for this text's walks alone
set_option linter.unusedVariables false
set_option linter.unusedSimpArgs false
mutual
def spec_l04Data.l0 : Nat → Int → Int → List (S112) → List Int → List ByteArray → Int → Option (List ByteArray × Bool)
  | 0, _, _, _, _, _, _ => none
  | k + 1, x0, x1, x2, x8, x9, x10 => if x10 < (wrap64 (x0 + x1)) then (spec_l04Data.j1 k x0 x1 x2 x8 x9 x10 (decide ((x8.length : Int) < x0))) else (spec_l04Data.j1 k x0 x1 x2 x8 x9 x10 false)
def spec_l04Data.j1 : Nat → Int → Int → List (S112) → List Int → List ByteArray → Int → Bool → Option (List ByteArray × Bool)
  | 0, _, _, _, _, _, _, _ => none
  | k + 1, x0, x1, x2, x8, x9, x10, x24 => if x24 = true then (if 0 ≤ x10 then (if x10 < (x2.length : Int) then (if (rd_T112 x2 x10).f0 = true then (if x8.length < 17592186044416 then (if x9.length < 8796093022208 then (spec_l04Data.l0 k x0 x1 x2 (x8 ++ [x10]) (x9 ++ [(rd_T112 x2 x10).f1]) (wrap64 (x10 + 1))) else (none)) else (none)) else (spec_l04Data.l0 k x0 x1 x2 x8 x9 (wrap64 (x10 + 1)))) else (none)) else (none)) else (if (x8.length : Int) < x0 then (some ((([] : List ByteArray)), false)) else ((spec_Cauchy.f k x0 x1).bind fun bt282 => ((spec_MatrixPick.f k bt282.1 bt282.2.1 bt282.2.2.1 x8).bind fun bt288 => ((spec_MatrixInv.f k bt288.1 bt288.2.1 bt288.2.2.1).bind fun bt294 => ((spec_l04Times.f k bt294.1 bt294.2.1 bt294.2.2.1 x9).bind fun t301 => (some (t301, true)))))))
end
def spec_l04Data.f (k : Nat) (a0 : Int) (a1 : Int) (l2 : List (S112)) : Option (List ByteArray × Bool) := spec_l04Data.l0 k a0 a1 l2 (([] : List Int)) (([] : List ByteArray)) 0
set_option maxHeartbeats 8000000 in
set_option maxRecDepth 100000 in
theorem spec_l04Data.calls (k : Nat) (a0 : Int) (a1 : Int) (A2 : Option Addr) (c2 : Nat) (l2 : List (S112)) (r1 : List ByteArray) (r2 : Bool) (w : World) (hr2 : Kd.C k112 w A2 l2.length l2) (hc2 : l2.length ≤ c2) (h : spec_l04Data.f k a0 a1 l2 = some (r1, r2)) :
  Calls Try.prog 106 #[.int .i64 a0, .int .i64 a1, .slice A2 l2.length c2] w fun e w' => ∃ v0_ : Value, e = .returned (.tuple #[v0_, .bool r2]) ∧ Kd.R Kd.string 9 w' w.heap.size (fun _ => True) v0_ r1 ∧ Below w.heap.size w w' := by
 have hu35 := Try.underlying35
 have hu27 := Try.underlying27
 have HR2 := Aside0.mk hr2
 have HC2 := Aside0.mk hc2
 clear hr2 hc2
 have HB := Aside0.mk (Below.refl w.heap.size w)
 have H : (spec_l04Data.l0 k a0 a1 l2 (([] : List Int)) (([] : List ByteArray)) 0) = some (r1, r2) := h
 clear h
 obtain ⟨y265, hy265⟩ : ∃ y_ : List Int, y_ = (([] : List Int)) := ⟨_, rfl⟩
 replace H : (spec_l04Data.l0 k a0 a1 l2 y265 (([] : List ByteArray)) 0) = some (r1, r2) := by first | (rw [hy265]; with_reducible exact H) | (have H2_ := (Option.bind_some _ _).symm.trans H; rw [hy265]; with_reducible exact H2_) | (have H2_ := (Option.bind_some _ _).symm.trans H; with_reducible exact H2_) | with_reducible exact H | (rw [hy265]; exact H) | exact H
 have Ny265 := Aside0.mk hy265
 clear hy265
 obtain ⟨y268, hy268⟩ : ∃ y_ : List ByteArray, y_ = (([] : List ByteArray)) := ⟨_, rfl⟩
 replace H : (spec_l04Data.l0 k a0 a1 l2 y265 y268 0) = some (r1, r2) := by first | (rw [hy268]; with_reducible exact H) | (have H2_ := (Option.bind_some _ _).symm.trans H; rw [hy268]; with_reducible exact H2_) | (have H2_ := (Option.bind_some _ _).symm.trans H; with_reducible exact H2_) | with_reducible exact H | (rw [hy268]; exact H) | exact H
 have Ny268 := Aside0.mk hy268
 clear hy268
 have H' := Aside0.mk H
 clear H
 go_enter Try.func106, Try.ntmps106
 go_wp2_with (first | ((with_reducible refine gate_dst (N := 12) rfl ?_); (try (refine gate_guard (by rfl) ?_; dsimp only)); refine Kd.R_lit (Kd.int .i64) _ 2 ?hg (N := 12) ?hd (xs := ([] : List Int)) (inner := []) (ok := fun _ => True) (okp := fun _ => True) ?hr ?hp (fun _ hk => hk) trivial (Below.refl _ _) (Nat.le_refl _) (by simp) ?_; (case hd => rfl); (case hg => rfl); (case hr => first | (go_simp; done) | (go_simp; rfl)); (case hp => exact (Reps.none _ _)); intro v266 w4 ho5 hb hg_ hnew_; clear hg_ hnew_; (first | rw [← Ny265.out] at ho5 | (simp only [Int.reduceToNat] at ho5; rw [← Ny265.out] at ho5)); have n_ := Cy.a2 (Kd.R_lower ho5 (below_size (Cz.w HB.out))) (below_step (Cz.w HB.out) hb); clear HB; obtain ⟨HO267, HB⟩ := n_; clear hb ho5) | ((with_reducible refine gate_dst (N := 13) rfl ?_); (try (refine gate_guard (by rfl) ?_; dsimp only)); refine Kd.R_lit Kd.string _ 9 ?hg (N := 13) ?hd (xs := ([] : List ByteArray)) (inner := []) (ok := fun _ => True) (okp := fun _ => True) ?hr ?hp (fun _ hk => hk) trivial (Below.refl _ _) (Nat.le_refl _) (by simp) ?_; (case hd => rfl); (case hg => rfl); (case hr => first | (go_simp; done) | (go_simp; rfl)); (case hp => exact (Reps.none _ _)); intro v269 w6 ho7 hb hg_ hnew_; clear hg_ hnew_; (first | rw [← Ny268.out] at ho7 | (simp only [Int.reduceToNat] at ho7; rw [← Ny268.out] at ho7)); have n_ := Cy.a3 (Kd.R_below (Cz.r HO267.out) hb) (Kd.R_lower ho7 (below_size (Cz.w HB.out))) (below_step (Cz.w HB.out) hb); clear HO267 HB; obtain ⟨HO267, HO270, HB⟩ := n_; clear hb ho7))
 go_loopg [8, 9, 10] k (fun kq v8 v9 v10 w' => ∃ (x8_1 : List Int) (x9_1 : List ByteArray) (x10_1 : Int), v10 = .int .i64 x10_1 ∧ Aside0 (spec_l04Data.l0 kq a0 a1 l2 x8_1 x9_1 x10_1 = some (r1, r2)) ∧ Aside0 (kq ≤ k) ∧ Aside0 (Kd.R (Kd.int .i64) 2 w' w.heap.size (fun _ => True) v8 x8_1) ∧ Aside0 (Kd.R Kd.string 9 w' w.heap.size (fun _ => True) v9 x9_1) ∧ Aside0 (Below w.heap.size w w'))
 case atStart => exact ⟨(y265), (y268), (0), (by first | rfl | (simp; done) | (simp [*]; done)), H', ⟨Nat.le_refl _⟩, ⟨Cz.r HO267.out⟩, ⟨Cz.r HO270.out⟩, ⟨Cz.w HB.out⟩⟩
 case round =>
  clear H'
  try clear c1
  try clear c2
  try clear p2
  obtain ⟨x8_1, x9_1, x10_1, rfl, HA, HK1, HO_8, HO_9, HB⟩ := hrel
  cases gk with
  | zero => exact absurd HA.out (by simp [spec_l04Data.l0])
  | succ k1 =>
   have H := HA.out
   clear HA
   simp only [spec_l04Data.l0] at H
   have HC8 := Aside0.mk H
   clear H
   go_upto_region 4 with (fail)
   go_cut [24] (fun v24 wc => ∃ (kq : Nat) (x24_7 : Bool), v24 = .bool x24_7 ∧ Aside0 (spec_l04Data.j1 kq a0 a1 l2 x8_1 x9_1 x10_1 x24_7 = some (r1, r2)) ∧ Aside0 (kq ≤ k1) ∧ Aside0 (Kd.R (Kd.int .i64) 2 wc w.heap.size (fun _ => True) u8 x8_1) ∧ Aside0 (Kd.R Kd.string 9 wc w.heap.size (fun _ => True) u9 x9_1) ∧ Aside0 (Below w.heap.size w wc))
   case first =>
    have H := HC8.out
    clear HC8
    by_cases c9 : x10_1 < (wrap64 (a0 + a1))
    ·rw [if_pos c9] at H
     have c9b0 : decide (x10_1 < (wrap64 (a0 + a1))) = true := decide_eq_true c9
     clear c9
     (first | rw [c9b0] | (simp only [i64_w, i32_w]; rw [c9b0]) | skip)
     have H' := Aside0.mk H
     clear H
     obtain ⟨Ao10, co10, eo10⟩ := Kd.R_slice HO_8.out
     subst eo10
     go_wp2
     go_meet
     case rel => exact ⟨_, (decide ((x8_1.length : Int) < a0)), (by first | rfl | (simp; done) | (simp [*]; done)), H', ⟨by have := HK1.out; first | omega | exact Nat.le_refl _⟩, ⟨Cz.r HO_8.out⟩, ⟨Cz.r HO_9.out⟩, ⟨Cz.w HB.out⟩⟩
    ·rw [if_neg c9] at H
     have c9b0 : decide (x10_1 < (wrap64 (a0 + a1))) = false := decide_eq_false c9
     clear c9
     (first | rw [c9b0] | (simp only [i64_w, i32_w]; rw [c9b0]) | skip)
     have H' := Aside0.mk H
     clear H
     go_wp2
     go_meet
     case rel => exact ⟨_, (false), (by first | rfl | (simp; done) | (simp [*]; done)), H', ⟨by have := HK1.out; first | omega | exact Nat.le_refl _⟩, ⟨Cz.r HO_8.out⟩, ⟨Cz.r HO_9.out⟩, ⟨Cz.w HB.out⟩⟩
   case rest =>
    clear HC8
    try clear c1
    try clear c2
    try clear p2
    try clear p6
    try clear c9
    try clear c9b0
    try clear c10
    try clear p2
    obtain ⟨kq, x24_7, rfl, HA, HJ7, HO_8, HO_9, HB⟩ := hcut
    cases kq with
    | zero => exact absurd HA.out (by simp [spec_l04Data.j1])
    | succ kj7 =>
     have H := HA.out
     clear HA
     simp only [spec_l04Data.j1] at H
     by_cases c11 : x24_7 = true
     ·subst c11
      have H1 : (if 0 ≤ x10_1 then (if x10_1 < (l2.length : Int) then (if (rd_T112 l2 x10_1).f0 = true then (if x8_1.length < 17592186044416 then (if x9_1.length < 8796093022208 then (spec_l04Data.l0 kj7 a0 a1 l2 (x8_1 ++ [x10_1]) (x9_1 ++ [(rd_T112 l2 x10_1).f1]) (wrap64 (x10_1 + 1))) else (none)) else (none)) else (spec_l04Data.l0 kj7 a0 a1 l2 x8_1 x9_1 (wrap64 (x10_1 + 1)))) else (none)) else (none)) = some (r1, r2) := by rw [if_pos rfl] at H; exact H
      clear H
      have H := H1
      clear H1
      by_cases c12 : 0 ≤ x10_1
      ·rw [if_pos c12] at H
       have c12b0 : decide (0 ≤ x10_1) = true := decide_eq_true c12
       clear c12
       by_cases c13 : x10_1 < (l2.length : Int)
       ·rw [if_pos c13] at H
        have c13b0 : decide (x10_1 < (l2.length : Int)) = true := decide_eq_true c13
        clear c13
        obtain ⟨bq14, hbq14⟩ : ∃ b_ : Bool, b_ = ((rd_T112 l2 x10_1).f0) := ⟨_, rfl⟩
        replace H : (if bq14 = true then (if x8_1.length < 17592186044416 then (if x9_1.length < 8796093022208 then (spec_l04Data.l0 kj7 a0 a1 l2 (x8_1 ++ [x10_1]) (x9_1 ++ [(rd_T112 l2 x10_1).f1]) (wrap64 (x10_1 + 1))) else (none)) else (none)) else (spec_l04Data.l0 kj7 a0 a1 l2 x8_1 x9_1 (wrap64 (x10_1 + 1)))) = some (r1, r2) := by rw [← hbq14] at H; exact H
        have Nbq14 := Aside0.mk hbq14
        clear hbq14
        by_cases c15 : bq14 = true
        ·subst c15
         have H1 : (if x8_1.length < 17592186044416 then (if x9_1.length < 8796093022208 then (spec_l04Data.l0 kj7 a0 a1 l2 (x8_1 ++ [x10_1]) (x9_1 ++ [(rd_T112 l2 x10_1).f1]) (wrap64 (x10_1 + 1))) else (none)) else (none)) = some (r1, r2) := by rw [if_pos rfl] at H; exact H
         clear H
         have H := H1
         clear H1
         by_cases c16 : x8_1.length < 17592186044416
         ·rw [if_pos c16] at H
          have LMc16 := Aside0.mk c16
          clear c16
          obtain ⟨y272, hy272⟩ : ∃ y_ : List Int, y_ = (x8_1 ++ [x10_1]) := ⟨_, rfl⟩
          replace H : (if x9_1.length < 8796093022208 then (spec_l04Data.l0 kj7 a0 a1 l2 y272 (x9_1 ++ [(rd_T112 l2 x10_1).f1]) (wrap64 (x10_1 + 1))) else (none)) = some (r1, r2) := by first | (rw [hy272]; with_reducible exact H) | (have H2_ := (Option.bind_some _ _).symm.trans H; rw [hy272]; with_reducible exact H2_) | (have H2_ := (Option.bind_some _ _).symm.trans H; with_reducible exact H2_) | with_reducible exact H | (rw [hy272]; exact H) | exact H
          have Ny272 := Aside0.mk hy272
          clear hy272
          by_cases c17 : x9_1.length < 8796093022208
          ·rw [if_pos c17] at H
           have LMc17 := Aside0.mk c17
           clear c17
           obtain ⟨y276, hy276⟩ : ∃ y_ : List ByteArray, y_ = (x9_1 ++ [(rd_T112 l2 x10_1).f1]) := ⟨_, rfl⟩
           replace H : (spec_l04Data.l0 kj7 a0 a1 l2 y272 y276 (wrap64 (x10_1 + 1))) = some (r1, r2) := by first | (rw [hy276]; with_reducible exact H) | (have H2_ := (Option.bind_some _ _).symm.trans H; rw [hy276]; with_reducible exact H2_) | (have H2_ := (Option.bind_some _ _).symm.trans H; with_reducible exact H2_) | with_reducible exact H | (rw [hy276]; exact H) | exact H
           have Ny276 := Aside0.mk hy276
           clear hy276
           have H' := Aside0.mk H
           clear H
           have p271 : 0 ≤ (x10_1 : Int) := of_decide_eq_true (by first | (with_reducible assumption) | assumption)
           have q271 : x10_1 < (l2.length : Int) := of_decide_eq_true (by first | (with_reducible assumption) | assumption)
           obtain ⟨ad271, e271, hx271_0, hx271_1⟩ := at_T112 HR2.out x10_1 p271 q271
           (try rw [← Nbq14.out] at hx271_0)
           cases e271
           replace hx271_0 := (HB.out.cell (World.block_lt_of_cell? w _ hx271_0)).trans hx271_0
           replace hx271_1 := (HB.out.cell (World.block_lt_of_cell? w _ hx271_1)).trans hx271_1
           replace p271 := eq_true p271
           replace q271 := eq_true q271
           go_wp2_with (first | ((with_reducible refine gate_builtin (b := .append) (xs := #[.tmp 32, .tmp 34]) rfl ?_); (try (refine gate_guard (by rfl) ?_; dsimp only)); at_builtin; refine Kd.R_append (Kd.int .i64) (w0 := w) w.heap.size rfl (.tmp 32) (.tmp 34) 22 2 (.int .i64 0) 8 rfl Try.underlying22 info2 rfl (by decide) (by omega) u8 x8_1 x10_1 [.int .i64 x10_1] (fun _ => True) (fun _ => False) rfl rfl ?aP (fun _ hk => hk.elim) ?aF ?aO ?aB ?aS ?aL ?_; (case aP => exact rfl); (case aB => exact (Cz.w HB.out)); (case aF => exact (fun _ _ => trivial)); (case aO => exact (Cz.r HO_8.out)); (case aS => exact (below_size (Cz.w HB.out))); (case aL => have := LMc16.out; omega); intro v273 w18 ho hb hg hat; rw [← Ny272.out] at ho; have n_ := Cy.a3 (Kd.R_over' (Cz.r HO_9.out) (Kd.R_typed (Cz.r HO_8.out)) (by decide) hg) hb ho; clear HO_9 HB HO_8; obtain ⟨HO_9, HB, HO274⟩ := n_; clear ho hb hg hat; have p275 : 0 ≤ (x10_1 : Int) := of_decide_eq_true (by first | (with_reducible assumption) | assumption); have q275 : x10_1 < (l2.length : Int) := of_decide_eq_true (by first | (with_reducible assumption) | assumption); obtain ⟨ad275, e275, hx275_0, hx275_1⟩ := at_T112 HR2.out x10_1 p275 q275; (try rw [← Nbq14.out] at hx275_0); obtain rfl : ad271 = ad275 := (by injection e275); replace hx275_0 := (HB.out.cell (World.block_lt_of_cell? w _ hx275_0)).trans hx275_0; replace hx275_1 := (HB.out.cell (World.block_lt_of_cell? w _ hx275_1)).trans hx275_1; replace p275 := eq_true p275; replace q275 := eq_true q275) | ((with_reducible refine gate_builtin (b := .append) (xs := #[.tmp 36, .tmp 42]) rfl ?_); (try (refine gate_guard (by rfl) ?_; dsimp only)); at_builtin; refine Kd.R_append Kd.string (w0 := w) w.heap.size rfl (.tmp 36) (.tmp 42) 52 9 (.string ⟨#[]⟩) 16 rfl Try.underlying52 info9 rfl (by decide) (by omega) u9 x9_1 ((rd_T112 l2 x10_1).f1) [.string ((rd_T112 l2 x10_1).f1)] (fun _ => True) (fun _ => False) rfl rfl ?aP (fun _ hk => hk.elim) ?aF ?aO ?aB ?aS ?aL ?_; (case aP => exact rfl); (case aB => exact (Cz.w HB.out)); (case aF => exact (fun _ _ => trivial)); (case aO => exact (Cz.r HO_9.out)); (case aS => exact (below_size (Cz.w HB.out))); (case aL => have := LMc17.out; omega); intro v277 w19 ho hb hg hat; rw [← Ny276.out] at ho; have n_ := Cy.a3 (Kd.R_over' (Cz.r HO274.out) (Kd.R_typed (Cz.r HO_9.out)) (by decide) hg) hb ho; clear HO274 HB HO_9; obtain ⟨HO274, HB, HO278⟩ := n_; clear ho hb hg hat))
           go_roundg kj7
           case measure => have := HK1.out; have := HJ7.out; omega
           case rel => exact ⟨(y272), (y276), (wrap64 (x10_1 + 1)), (by first | rfl | (simp; done) | (simp [*]; done)), H', ⟨by have := HK1.out; have := HJ7.out; omega⟩, ⟨Cz.r HO274.out⟩, ⟨Cz.r HO278.out⟩, ⟨Cz.w HB.out⟩⟩
          ·rw [if_neg c17] at H
           exact absurd H (by simp)
         ·rw [if_neg c16] at H
          exact absurd H (by simp)
        ·replace c15 := Bool.eq_false_iff.mpr c15
         subst c15
         have H1 : (spec_l04Data.l0 kj7 a0 a1 l2 x8_1 x9_1 (wrap64 (x10_1 + 1))) = some (r1, r2) := by rw [if_neg (show ¬ (false = true) by decide)] at H; exact H
         clear H
         have H := H1
         clear H1
         have H' := Aside0.mk H
         clear H
         have p271 : 0 ≤ (x10_1 : Int) := of_decide_eq_true (by first | (with_reducible assumption) | assumption)
         have q271 : x10_1 < (l2.length : Int) := of_decide_eq_true (by first | (with_reducible assumption) | assumption)
         obtain ⟨ad271, e271, hx271_0, hx271_1⟩ := at_T112 HR2.out x10_1 p271 q271
         (try rw [← Nbq14.out] at hx271_0)
         cases e271
         replace hx271_0 := (HB.out.cell (World.block_lt_of_cell? w _ hx271_0)).trans hx271_0
         replace hx271_1 := (HB.out.cell (World.block_lt_of_cell? w _ hx271_1)).trans hx271_1
         replace p271 := eq_true p271
         replace q271 := eq_true q271
         go_wp2
         go_roundg kj7
         case measure => have := HK1.out; have := HJ7.out; omega
         case rel => exact ⟨(x8_1), (x9_1), (wrap64 (x10_1 + 1)), (by first | rfl | (simp; done) | (simp [*]; done)), H', ⟨by have := HK1.out; have := HJ7.out; omega⟩, ⟨Cz.r HO_8.out⟩, ⟨Cz.r HO_9.out⟩, ⟨Cz.w HB.out⟩⟩
       ·rw [if_neg c13] at H
        exact absurd H (by simp)
      ·rw [if_neg c12] at H
       exact absurd H (by simp)
     ·replace c11 := Bool.eq_false_iff.mpr c11
      subst c11
      have H1 : (if (x8_1.length : Int) < a0 then (some ((([] : List ByteArray)), false)) else ((spec_Cauchy.f kj7 a0 a1).bind fun bt282 => ((spec_MatrixPick.f kj7 bt282.1 bt282.2.1 bt282.2.2.1 x8_1).bind fun bt288 => ((spec_MatrixInv.f kj7 bt288.1 bt288.2.1 bt288.2.2.1).bind fun bt294 => ((spec_l04Times.f kj7 bt294.1 bt294.2.1 bt294.2.2.1 x9_1).bind fun t301 => (some (t301, true))))))) = some (r1, r2) := by rw [if_neg (show ¬ (false = true) by decide)] at H; exact H
      clear H
      have H := H1
      clear H1
      by_cases c20 : (x8_1.length : Int) < a0
      ·rw [if_pos c20] at H
       have c20b0 : decide ((x8_1.length : Int) < a0) = true := decide_eq_true c20
       clear c20
       obtain ⟨y279, hy279⟩ : ∃ y_ : List ByteArray, y_ = (([] : List ByteArray)) := ⟨_, rfl⟩
       replace H : (some (y279, false)) = some (r1, r2) := by first | (rw [hy279]; with_reducible exact H) | (have H2_ := (Option.bind_some _ _).symm.trans H; rw [hy279]; with_reducible exact H2_) | (have H2_ := (Option.bind_some _ _).symm.trans H; with_reducible exact H2_) | with_reducible exact H | (rw [hy279]; exact H) | exact H
       have Ny279 := Aside0.mk hy279
       clear hy279
       simp only [Option.some.injEq, Prod.mk.injEq] at H
       obtain ⟨rfl, rfl⟩ := H
       obtain ⟨Ao21, co21, eo21⟩ := Kd.R_slice HO_8.out
       subst eo21
       go_wp2_with (first | ((with_reducible refine gate_dst (N := 48) rfl ?_); (try (refine gate_guard (by rfl) ?_; dsimp only)); refine Kd.R_lit Kd.string _ 9 ?hg (N := 48) ?hd (xs := ([] : List ByteArray)) (inner := []) (ok := fun _ => True) (okp := fun _ => True) ?hr ?hp (fun _ hk => hk) trivial (Below.refl _ _) (Nat.le_refl _) (by simp) ?_; (case hd => rfl); (case hg => rfl); (case hr => first | (go_simp; done) | (go_simp; rfl)); (case hp => exact (Reps.none _ _)); intro v280 w22 ho23 hb hg_ hnew_; clear hg_ hnew_; (first | rw [← Ny279.out] at ho23 | (simp only [Int.reduceToNat] at ho23; rw [← Ny279.out] at ho23)); have n_ := Cy.a4 (Kd.R_below (Cz.r HO_8.out) hb) (Kd.R_elder' (Cz.r HO_9.out) (Kd.R_base ho23) hb) (Kd.R_lower (Kd.R_new' ho23 (Kd.R_lt (Cz.r HO_9.out))) (below_size (Cz.w HB.out))) (below_step (Cz.w HB.out) hb); clear HO_8 HO_9 HB; obtain ⟨HO_8, HO_9, HO281, HB⟩ := n_; clear hb ho23))
       go_ret2
       exact ⟨_, by first | rfl | (simp [errW_none, errW_some] <;> rfl) | (simp [*, errW_none, errW_some] <;> rfl), by (with_reducible repeat (first | apply Kd.R_alloc | apply Kd.R_drewN | apply Kd.R_drew)); exact Kd.R_mono HO281.out (fun _ hk => trivial), Cz.w HB.out⟩
      ·rw [if_neg c20] at H
       have c20b0 : decide ((x8_1.length : Int) < a0) = false := decide_eq_false c20
       clear c20
       replace H := Option.bind_eq_some_iff.mp H
       obtain ⟨⟨t282, t283, t284, t287⟩, A240, H⟩ := H
       replace H : ((spec_MatrixPick.f kj7 t282 t283 t284 x8_1).bind fun bt288 => ((spec_MatrixInv.f kj7 bt288.1 bt288.2.1 bt288.2.2.1).bind fun bt294 => ((spec_l04Times.f kj7 bt294.1 bt294.2.1 bt294.2.2.1 x9_1).bind fun t301 => (some (t301, true))))) = some (r1, r2) := H
       have A24 := Aside0.mk A240
       clear A240
       replace H := Option.bind_eq_some_iff.mp H
       obtain ⟨⟨t288, t289, t290, t293⟩, A250, H⟩ := H
       replace H : ((spec_MatrixInv.f kj7 t288 t289 t290).bind fun bt294 => ((spec_l04Times.f kj7 bt294.1 bt294.2.1 bt294.2.2.1 x9_1).bind fun t301 => (some (t301, true)))) = some (r1, r2) := H
       have A25 := Aside0.mk A250
       clear A250
       replace H := Option.bind_eq_some_iff.mp H
       obtain ⟨⟨t294, t295, t296, t299⟩, A260, H⟩ := H
       replace H : ((spec_l04Times.f kj7 t294 t295 t296 x9_1).bind fun t301 => (some (t301, true))) = some (r1, r2) := H
       have A26 := Aside0.mk A260
       clear A260
       replace H := Option.bind_eq_some_iff.mp H
       obtain ⟨t301, A270, H⟩ := H
       replace H : (some (t301, true)) = some (r1, r2) := H
       have A27 := Aside0.mk A270
       clear A270
       simp only [Option.some.injEq, Prod.mk.injEq] at H
       obtain ⟨rfl, rfl⟩ := H
       obtain ⟨Ao28, co28, eo28⟩ := Kd.R_slice HO_8.out
       subst eo28
       go_wp2_with (first | ((with_reducible refine gate_callee (f := 25) rfl ?_); refine goesL_ (some 51) rfl rfl Try.func25 (by kernel_rfl) rfl #[.int .i64 a0, .int .i64 a1] rfl Cy.ls ?_; (with_reducible refine (spec_Cauchy.calls kj7 a0 a1 t282 t283 t284 t287 _ A24.out).mono ?_); rintro e w29 ⟨v285, rfl, ho0, hb⟩; have hf0_v285 : ∀ w : World, (Instr.field 35 (.agg #[.int .i64 t282, .int .i64 t283, v285, .int .i64 t287]) 0).run Try.prog w = .ok (.agg #[.int .i64 t282, .int .i64 t283, v285]) w := (fun _ => by kernel_rfl); refine ⟨_, rfl, ?_⟩; have n_ := Cy.a4 (Kd.R_elder' (Cz.r HO_8.out) (Kd.R_base ho0) hb) (Kd.R_below (Cz.r HO_9.out) hb) (Kd.R_lower (Kd.R_new' ho0 (Kd.R_lt (Cz.r HO_8.out))) (below_size (Cz.w HB.out))) (below_step (Cz.w HB.out) hb); clear HO_8 HO_9 HB; obtain ⟨HO_8, HO_9, HO286, HB⟩ := n_; (try clear hb); (try clear hb2); (try clear hk); (try clear hi); (try clear ho0); obtain ⟨Ao30, co30, eo30⟩ := Kd.R_slice HO286.out; subst eo30) | ((with_reducible refine gate_callee (f := 36) rfl ?_); refine goesL_ (some 54) rfl rfl Try.func36 (by kernel_rfl) rfl #[.agg #[.int .i64 t282, .int .i64 t283, .slice Ao30 t284.length co30], .slice Ao28 x8_1.length co28] rfl Cy.ls ?_; (with_reducible refine (spec_MatrixPick.calls kj7 t282 t283 _ _ t284 _ _ x8_1 t288 t289 t290 t293 _ ?side1 ?side2 ?side3 ?side4 A25.out).mono ?_); (case side1 => exact Cy.cd (Kd.R_reads' HO286.out).2.2); (case side2 => exact (Kd.R_reads' HO286.out).2.1); (case side3 => exact Cy.cd (Kd.R_reads' HO_8.out).2.2); (case side4 => exact (Kd.R_reads' HO_8.out).2.1); rintro e w31 ⟨v291, rfl, ho0, hb⟩; have hf0_v291 : ∀ w : World, (Instr.field 35 (.agg #[.int .i64 t288, .int .i64 t289, v291, .int .i64 t293]) 0).run Try.prog w = .ok (.agg #[.int .i64 t288, .int .i64 t289, v291]) w := (fun _ => by kernel_rfl); refine ⟨_, rfl, ?_⟩; have n_ := Cy.a5 (Kd.R_elder' (Cz.r HO_8.out) (Kd.R_base ho0) hb) (Kd.R_below (Cz.r HO_9.out) hb) (Kd.R_elder' (Cz.r HO286.out) (Kd.R_base ho0) hb) (Kd.R_lower (Kd.R_new' (Kd.R_new' ho0 (Kd.R_lt (Cz.r HO_8.out))) (Kd.R_lt (Cz.r HO286.out))) (below_size (Cz.w HB.out))) (below_step (Cz.w HB.out) hb); clear HO_8 HO_9 HO286 HB; obtain ⟨HO_8, HO_9, HO286, HO292, HB⟩ := n_; (try clear hb); (try clear hb2); (try clear hk); (try clear hi); (try clear ho0); obtain ⟨Ao32, co32, eo32⟩ := Kd.R_slice HO292.out; subst eo32) | ((with_reducible refine gate_callee (f := 49) rfl ?_); refine goesL_ (some 56) rfl rfl Try.func49 (by kernel_rfl) rfl #[.agg #[.int .i64 t288, .int .i64 t289, .slice Ao32 t290.length co32]] rfl Cy.ls ?_; (with_reducible refine (spec_MatrixInv.calls kj7 t288 t289 _ _ t290 t294 t295 t296 t299 _ ?side1 ?side2 A26.out).mono ?_); (case side1 => exact Cy.cd (Kd.R_reads' HO292.out).2.2); (case side2 => exact (Kd.R_reads' HO292.out).2.1); rintro e w33 ⟨v297, rfl, ho0, hb⟩; have hf0_v297 : ∀ w : World, (Instr.field 35 (.agg #[.int .i64 t294, .int .i64 t295, v297, .int .i64 t299]) 0).run Try.prog w = .ok (.agg #[.int .i64 t294, .int .i64 t295, v297]) w := (fun _ => by kernel_rfl); refine ⟨_, rfl, ?_⟩; have n_ := Cy.a6 (Kd.R_elder' (Cz.r HO_8.out) (Kd.R_base ho0) hb) (Kd.R_below (Cz.r HO_9.out) hb) (Kd.R_elder' (Cz.r HO286.out) (Kd.R_base ho0) hb) (Kd.R_elder' (Cz.r HO292.out) (Kd.R_base ho0) hb) (Kd.R_lower (Kd.R_new' (Kd.R_new' (Kd.R_new' ho0 (Kd.R_lt (Cz.r HO_8.out))) (Kd.R_lt (Cz.r HO286.out))) (Kd.R_lt (Cz.r HO292.out))) (below_size (Cz.w HB.out))) (below_step (Cz.w HB.out) hb); clear HO_8 HO_9 HO286 HO292 HB; obtain ⟨HO_8, HO_9, HO286, HO292, HO298, HB⟩ := n_; (try clear hb); (try clear hb2); (try clear hk); (try clear hi); (try clear ho0)) | ((with_reducible refine gate_dst (N := 11) rfl ?_); (try (refine gate_guard (by rfl) ?_; dsimp only)); refine box_event ?hg (N := 11) ?hd (cs := #[.int .i64 0, .int .i64 0, .slice none 0 0, .int .i64 0]) (t := 35) ?hr ?_; (case hd => rfl); (case hg => rfl); (case hr => first | (go_simp; done) | (go_simp; rfl)); intro gb300 hg w34 hbox hb; have n_ := Cy.a9 (Kd.R_below (Cz.r HO_8.out) hb) (Kd.R_below (Cz.r HO_9.out) hb) (Kd.R_below (Cz.r HO286.out) hb) (Kd.R_below (Cz.r HO292.out) hb) (Kd.R_below (Cz.r HO298.out) hb) (below_step (Cz.w HB.out) hb) hbox (Cy.gw hg HB.out) (Cy.gw hg HB.out); clear HO_8 HO_9 HO286 HO292 HO298 HB; obtain ⟨HO_8, HO_9, HO286, HO292, HO298, HB, BK300, GW300, GE300⟩ := n_; clear hb hbox hg; obtain ⟨hcz35_0, hcz35_1, hcz35_2, hcz35_3, hfz35_0, hfz35_1, hfz35_2, hfz35_3⟩ := Cy.z4 BK300.out; obtain ⟨Ao36, co36, eo36⟩ := Kd.R_slice HO298.out; subst eo36; obtain ⟨Ao37, co37, eo37⟩ := Kd.R_slice HO_9.out; subst eo37) | ((with_reducible refine gate_callee (f := 89) rfl ?_); refine goesL_ (some 60) rfl rfl Try.func89 (by kernel_rfl) rfl #[.agg #[.int .i64 t294, .int .i64 t295, .slice Ao36 t296.length co36], .slice Ao37 x9_1.length co37] rfl Cy.ls ?_; (with_reducible refine (spec_l04Times.calls kj7 t294 t295 _ _ t296 _ _ x9_1 t301 _ ?side1 ?side2 ?side3 ?side4 A27.out).mono ?_); (case side1 => refine (Kd.R_reads' (e := 2) (base := w.heap.size) (ok := fun k_ => (((True ∧ some k_ ≠ (.slice Ao28 x8_1.length co28 : Value).ownBlock) ∧ some k_ ≠ (.slice Ao30 t284.length co30 : Value).ownBlock) ∧ some k_ ≠ (.slice Ao32 t290.length co32 : Value).ownBlock)) (n := t296.length) (c := co36) ?_).2.2; exact (Cz.q4 HO298.out BK300.out)); (case side2 => exact (Kd.R_reads' HO298.out).2.1); (case side3 => refine (Kd.R_reads' (e := 9) (base := w.heap.size) (ok := fun k_ => True) (n := x9_1.length) (c := co37) ?_).2.2; exact (Cz.q4 HO_9.out BK300.out)); (case side4 => exact (Kd.R_reads' HO_9.out).2.1); rintro e w38 ⟨v302, rfl, ho0, hb⟩; refine ⟨_, rfl, ?_⟩; have n_ := Cy.a8 (Kd.R_below (Cz.q4 HO_8.out BK300.out) hb) (Kd.R_elder' (Cz.q4 HO_9.out BK300.out) (Kd.R_base ho0) hb) (Kd.R_below (Cz.q4 HO286.out BK300.out) hb) (Kd.R_below (Cz.q4 HO292.out BK300.out) hb) (Kd.R_below (Cz.q4 HO298.out BK300.out) hb) (Kd.R_lower (Kd.R_new' ho0 (Kd.R_lt (Cz.q4 HO_9.out BK300.out))) (below_size (Cz.w HB.out))) (blk_below (g := gb300) (o := .cells #[.int .i64 t294, .int .i64 t295, .slice Ao36 t296.length co36, .int .i64 t299] 35 (0, 0)) (Cz.p4 BK300.out) hb) (below_step (Cz.w HB.out) hb); clear HO_8 HO_9 HO286 HO292 HO298 BK300 HB; obtain ⟨HO_8, HO_9, HO286, HO292, HO298, HO303, BK300, HB⟩ := n_; (try clear hb); (try clear hb2); (try clear hk); (try clear hi); (try clear ho0)))
       go_ret2
       exact ⟨_, by first | rfl | (simp [errW_none, errW_some] <;> rfl) | (simp [*, errW_none, errW_some] <;> rfl), by (with_reducible repeat (first | apply Kd.R_alloc | apply Kd.R_drewN | apply Kd.R_drew)); exact Kd.R_mono HO303.out (fun _ hk => trivial), Cz.w HB.out⟩
mutual
def spec_Decode.j0 : Nat → Int → Int → Int → List (S112) → Bool → Option (ByteArray × Int)
 | 0, _, _, _, _, _ => none
 | k + 1, x0, x1, x2, x3, x34 => if x34 = true then (some ((⟨#[]⟩ : ByteArray), 1)) else (spec_Decode.l0 k x0 x1 x2 x3 0)
def spec_Decode.l0 : Nat → Int → Int → Int → List (S112) → Int → Option (ByteArray × Int)
 | 0, _, _, _, _, _ => none
 | k + 1, x0, x1, x2, x3, x9 => if x9 < (x3.length : Int) then (if 0 ≤ x9 then (if (rd_T112 x3 x9).f0 = true then ((spec_ShardSize.f x0 x2).bind fun t309 => (if (((rd_T112 x3 x9).f1).size : Int) = t309 then (spec_Decode.l0 k x0 x1 x2 x3 (wrap64 (x9 + 1))) else (some ((⟨#[]⟩ : ByteArray), 2)))) else (spec_Decode.l0 k x0 x1 x2 x3 (wrap64 (x9 + 1)))) else (none)) else ((spec_l04Data.f k x0 x1 x3).bind fun bt310 => (if bt310.2 = true then (spec_Decode.l1 k x2 bt310.1 (([] : List Int)) 0) else (some ((⟨#[]⟩ : ByteArray), 10))))
def spec_Decode.l1 : Nat → Int → List ByteArray → List Int → Int → Option (ByteArray × Int)
 | 0, _, _, _, _ => none
 | k + 1, x2, x10, x12, x13 => if x13 < (x10.length : Int) then (if 0 ≤ x13 then (if x12.length + (rdOf ByteArray.empty x10 x13).size < 140737488355328 then (spec_Decode.l1 k x2 x10 (x12 ++ bytesOf (rdOf ByteArray.empty x10 x13)) (wrap64 (x13 + 1))) else (none)) else (none)) else (if 0 ≤ x2 then (if x2 ≤ (x12.length : Int) then (some (strOfNums (x12.take (x2 : Int).toNat), 0)) else (none)) else (none))
end
def spec_Decode.f (k : Nat) (a0 : Int) (a1 : Int) (a2 : Int) (l3 : List (S112)) : Option (ByteArray × Int) := if (l3.length : Int) > 400 then (some ((⟨#[]⟩ : ByteArray), 2)) else ((spec_CodeRight.f a0 a1).bind fun t305 => (if t305 = true then ((spec_l04Size.f a2).bind fun t306 => (if t306 = true then (spec_Decode.j0 k a0 a1 a2 l3 ((l3.length : Int) != (wrap64 (a0 + a1)))) else (spec_Decode.j0 k a0 a1 a2 l3 true))) else (spec_Decode.j0 k a0 a1 a2 l3 true)))
set_option maxHeartbeats 8000000 in
set_option maxRecDepth 100000 in
theorem spec_Decode.calls (k : Nat) (a0 : Int) (a1 : Int) (a2 : Int) (A3 : Option Addr) (c3 : Nat) (l3 : List (S112)) (r1 : ByteArray) (r2 : Int) (w : World) (hr3 : Kd.C k112 w A3 l3.length l3) (hc3 : l3.length ≤ c3) (h : spec_Decode.f k a0 a1 a2 l3 = some (r1, r2)) :
  Calls Try.prog 61 #[.int .i64 a0, .int .i64 a1, .int .i64 a2, .slice A3 l3.length c3] w fun e w' => e = .returned (.agg #[.string r1, .int .i64 r2]) ∧ Below w.heap.size w w' := by
 have hu75 := Try.underlying75
 have HR3 := Aside0.mk hr3
 have HC3 := Aside0.mk hc3
 clear hr3 hc3
 have HB := Aside0.mk (Below.refl w.heap.size w)
 have H : (if (l3.length : Int) > 400 then (some ((⟨#[]⟩ : ByteArray), 2)) else ((spec_CodeRight.f a0 a1).bind fun t305 => (if t305 = true then ((spec_l04Size.f a2).bind fun t306 => (if t306 = true then (spec_Decode.j0 k a0 a1 a2 l3 ((l3.length : Int) != (wrap64 (a0 + a1)))) else (spec_Decode.j0 k a0 a1 a2 l3 true))) else (spec_Decode.j0 k a0 a1 a2 l3 true)))) = some (r1, r2) := h
 clear h
 by_cases c5 : (l3.length : Int) > 400
 ·rw [if_pos c5] at H
  have c5b0 : decide (400 < (l3.length : Int)) = true := decide_eq_true c5
  have c5b1 : decide (400 < l3.length) = true := decide_eq_true (by omega)
  clear c5
  simp only [Option.some.injEq, Prod.mk.injEq] at H
  obtain ⟨rfl, rfl⟩ := H
  go_enter Try.func61, Try.ntmps61
  go_wp2_with (first | ((with_reducible refine gate_dst (N := 8) rfl ?_); (try (refine gate_guard (by rfl) ?_; dsimp only)); refine box_event ?hg (N := 8) ?hd (cs := #[.string (⟨#[]⟩ : ByteArray), .int .i64 0]) (t := 75) ?hr ?_; (case hd => rfl); (case hg => rfl); (case hr => first | (go_simp; done) | (go_simp; rfl)); intro gb304 hg w6 hbox hb; have n_ := Cy.a4 (below_step (Cz.w HB.out) hb) hbox (Cy.gw hg HB.out) (Cy.gw hg HB.out); clear HB; obtain ⟨HB, BK304, GW304, GE304⟩ := n_; clear hb hbox hg; obtain ⟨hcz7_0, hcz7_1, hfz7_0, hfz7_1⟩ := Cy.z2 BK304.out))
  repeat (go_quiet (first | ((with_reducible refine gate_dst (N := 8) rfl ?_); (try (refine gate_guard (by rfl) ?_; dsimp only)); refine box_event ?hg (N := 8) ?hd (cs := #[.string (⟨#[]⟩ : ByteArray), .int .i64 0]) (t := 75) ?hr ?_; (case hd => rfl); (case hg => rfl); (case hr => first | (go_simp; done) | (go_simp; rfl)); intro gb304 hg w6 hbox hb; have n_ := Cy.a4 (below_step (Cz.w HB.out) hb) hbox (Cy.gw hg HB.out) (Cy.gw hg HB.out); clear HB; obtain ⟨HB, BK304, GW304, GE304⟩ := n_; clear hb hbox hg; obtain ⟨hcz7_0, hcz7_1, hfz7_0, hfz7_1⟩ := Cy.z2 BK304.out)); try go_wp2_with (first | ((with_reducible refine gate_dst (N := 8) rfl ?_); (try (refine gate_guard (by rfl) ?_; dsimp only)); refine box_event ?hg (N := 8) ?hd (cs := #[.string (⟨#[]⟩ : ByteArray), .int .i64 0]) (t := 75) ?hr ?_; (case hd => rfl); (case hg => rfl); (case hr => first | (go_simp; done) | (go_simp; rfl)); intro gb304 hg w6 hbox hb; have n_ := Cy.a4 (below_step (Cz.w HB.out) hb) hbox (Cy.gw hg HB.out) (Cy.gw hg HB.out); clear HB; obtain ⟨HB, BK304, GW304, GE304⟩ := n_; clear hb hbox hg; obtain ⟨hcz7_0, hcz7_1, hfz7_0, hfz7_1⟩ := Cy.z2 BK304.out)))
  refine bodyPost_ret (results_cell_row rfl _ _ gb304 75 #[.string (⟨#[]⟩ : ByteArray), .int .i64 2] (0, 0) _ rfl (by (with_reducible repeat (first | refine blk_drewN ?_ _ | refine blk_drew ?_ | refine blk_alloc ?_ _)); refine blk_put (cs := #[.string (⟨#[]⟩ : ByteArray), .int .i64 0]) ?_ 1 _ rfl; (with_reducible repeat (first | refine blk_drewN ?_ _ | refine blk_drew ?_ | refine blk_alloc ?_ _)); refine blk_put (cs := #[.string (⟨#[]⟩ : ByteArray), .int .i64 0]) ?_ 0 _ rfl; (with_reducible repeat (first | refine blk_drewN ?_ _ | refine blk_drew ?_ | refine blk_alloc ?_ _)); exact BK304.out) Try.underlying75 rfl (by kernel_rfl)) rfl ?_
  exact ⟨by first | rfl | (simp [errW_none, errW_some] <;> rfl) | (simp [*, errW_none, errW_some] <;> rfl), Cz.w HB.out⟩
 ·rw [if_neg c5] at H
  have c5b0 : decide (400 < (l3.length : Int)) = false := decide_eq_false c5
  have c5b1 : decide (400 < l3.length) = false := decide_eq_false (by omega)
  clear c5
  have HC8 := Aside0.mk H
  clear H
  go_enter Try.func61, Try.ntmps61
  go_upto_region 3 with (first | ((with_reducible refine gate_dst (N := 8) rfl ?_); (try (refine gate_guard (by rfl) ?_; dsimp only)); refine box_event ?hg (N := 8) ?hd (cs := #[.string (⟨#[]⟩ : ByteArray), .int .i64 0]) (t := 75) ?hr ?_; (case hd => rfl); (case hg => rfl); (case hr => first | (go_simp; done) | (go_simp; rfl)); intro gb304 hg w9 hbox hb; have n_ := Cy.a4 (below_step (Cz.w HB.out) hb) hbox (Cy.gw hg HB.out) (Cy.gw hg HB.out); clear HB; obtain ⟨HB, BK304, GW304, GE304⟩ := n_; clear hb hbox hg))
  repeat (go_quiet (first | ((with_reducible refine gate_dst (N := 8) rfl ?_); (try (refine gate_guard (by rfl) ?_; dsimp only)); refine box_event ?hg (N := 8) ?hd (cs := #[.string (⟨#[]⟩ : ByteArray), .int .i64 0]) (t := 75) ?hr ?_; (case hd => rfl); (case hg => rfl); (case hr => first | (go_simp; done) | (go_simp; rfl)); intro gb304 hg w9 hbox hb; have n_ := Cy.a4 (below_step (Cz.w HB.out) hb) hbox (Cy.gw hg HB.out) (Cy.gw hg HB.out); clear HB; obtain ⟨HB, BK304, GW304, GE304⟩ := n_; clear hb hbox hg)); go_upto_region 3 with (first | ((with_reducible refine gate_dst (N := 8) rfl ?_); (try (refine gate_guard (by rfl) ?_; dsimp only)); refine box_event ?hg (N := 8) ?hd (cs := #[.string (⟨#[]⟩ : ByteArray), .int .i64 0]) (t := 75) ?hr ?_; (case hd => rfl); (case hg => rfl); (case hr => first | (go_simp; done) | (go_simp; rfl)); intro gb304 hg w9 hbox hb; have n_ := Cy.a4 (below_step (Cz.w HB.out) hb) hbox (Cy.gw hg HB.out) (Cy.gw hg HB.out); clear HB; obtain ⟨HB, BK304, GW304, GE304⟩ := n_; clear hb hbox hg)))
  (try simp only [Act.put, List.setIfInBounds_toArray, List.set_cons_zero, List.set_cons_succ])
  go_cut [34] (fun v34 wc => ∃ (kq : Nat) (x34_7 : Bool), v34 = .bool x34_7 ∧ Aside0 (spec_Decode.j0 kq a0 a1 a2 l3 x34_7 = some (r1, r2)) ∧ Aside0 (kq ≤ k) ∧ Aside0 (wc.heap[gb304]? = some (.cells #[.string (⟨#[]⟩ : ByteArray), .int .i64 0] 75 (0, 0))) ∧ Aside0 (Below w.heap.size w wc))
  case first =>
   have H := HC8.out
   clear HC8
   replace H := Option.bind_eq_some_iff.mp H
   obtain ⟨t305, A100, H⟩ := H
   replace H : (if t305 = true then ((spec_l04Size.f a2).bind fun t306 => (if t306 = true then (spec_Decode.j0 k a0 a1 a2 l3 ((l3.length : Int) != (wrap64 (a0 + a1)))) else (spec_Decode.j0 k a0 a1 a2 l3 true))) else (spec_Decode.j0 k a0 a1 a2 l3 true)) = some (r1, r2) := H
   have A10 := Aside0.mk A100
   clear A100
   by_cases c11 : t305 = true
   ·subst c11
    have H1 : ((spec_l04Size.f a2).bind fun t306 => (if t306 = true then (spec_Decode.j0 k a0 a1 a2 l3 ((l3.length : Int) != (wrap64 (a0 + a1)))) else (spec_Decode.j0 k a0 a1 a2 l3 true))) = some (r1, r2) := by rw [if_pos rfl] at H; exact H
    clear H
    have H := H1
    clear H1
    replace H := Option.bind_eq_some_iff.mp H
    obtain ⟨t306, A120, H⟩ := H
    replace H : (if t306 = true then (spec_Decode.j0 k a0 a1 a2 l3 ((l3.length : Int) != (wrap64 (a0 + a1)))) else (spec_Decode.j0 k a0 a1 a2 l3 true)) = some (r1, r2) := H
    have A12 := Aside0.mk A120
    clear A120
    by_cases c13 : t306 = true
    ·subst c13
     have H1 : (spec_Decode.j0 k a0 a1 a2 l3 ((l3.length : Int) != (wrap64 (a0 + a1)))) = some (r1, r2) := by rw [if_pos rfl] at H; exact H
     clear H
     have H := H1
     clear H1
     have H' := Aside0.mk H
     clear H
     go_wp2_with (first | (go_at_call 22; (with_reducible refine (spec_CodeRight.calls a0 a1 true _ A10.out).mono ?_); rintro e w' ⟨rfl, ⟨nd, rfl⟩⟩; (try first | exact ⟨rfl, _, World.drewN_drewN _ _ _⟩ | exact ⟨rfl, _, Eq.trans (World.drewN_drewN _ _ _) (congrArg (World.drewN _) (Nat.add_assoc _ _ _))⟩)) | (go_at_call 117; (with_reducible refine (spec_l04Size.calls a2 true _ A12.out).mono ?_); rintro e w' ⟨rfl, ⟨nd, rfl⟩⟩; (try first | exact ⟨rfl, _, World.drewN_drewN _ _ _⟩ | exact ⟨rfl, _, Eq.trans (World.drewN_drewN _ _ _) (congrArg (World.drewN _) (Nat.add_assoc _ _ _))⟩)))
     repeat (go_quiet (first | (go_at_call 22; (with_reducible refine (spec_CodeRight.calls a0 a1 true _ A10.out).mono ?_); rintro e w' ⟨rfl, ⟨nd, rfl⟩⟩; (try first | exact ⟨rfl, _, World.drewN_drewN _ _ _⟩ | exact ⟨rfl, _, Eq.trans (World.drewN_drewN _ _ _) (congrArg (World.drewN _) (Nat.add_assoc _ _ _))⟩)) | (go_at_call 117; (with_reducible refine (spec_l04Size.calls a2 true _ A12.out).mono ?_); rintro e w' ⟨rfl, ⟨nd, rfl⟩⟩; (try first | exact ⟨rfl, _, World.drewN_drewN _ _ _⟩ | exact ⟨rfl, _, Eq.trans (World.drewN_drewN _ _ _) (congrArg (World.drewN _) (Nat.add_assoc _ _ _))⟩))); try go_wp2_with (first | (go_at_call 22; (with_reducible refine (spec_CodeRight.calls a0 a1 true _ A10.out).mono ?_); rintro e w' ⟨rfl, ⟨nd, rfl⟩⟩; (try first | exact ⟨rfl, _, World.drewN_drewN _ _ _⟩ | exact ⟨rfl, _, Eq.trans (World.drewN_drewN _ _ _) (congrArg (World.drewN _) (Nat.add_assoc _ _ _))⟩)) | (go_at_call 117; (with_reducible refine (spec_l04Size.calls a2 true _ A12.out).mono ?_); rintro e w' ⟨rfl, ⟨nd, rfl⟩⟩; (try first | exact ⟨rfl, _, World.drewN_drewN _ _ _⟩ | exact ⟨rfl, _, Eq.trans (World.drewN_drewN _ _ _) (congrArg (World.drewN _) (Nat.add_assoc _ _ _))⟩))))
     go_meet
     case rel => exact ⟨_, (((l3.length : Int) != (wrap64 (a0 + a1)))), (by first | rfl | (simp; done) | (simp [*]; done)), H', ⟨by first | omega | exact Nat.le_refl _⟩, ⟨Cz.b BK304.out⟩, ⟨Cz.w HB.out⟩⟩
    ·replace c13 := Bool.eq_false_iff.mpr c13
     subst c13
     have H1 : (spec_Decode.j0 k a0 a1 a2 l3 true) = some (r1, r2) := by rw [if_neg (show ¬ (false = true) by decide)] at H; exact H
     clear H
     have H := H1
     clear H1
     have H' := Aside0.mk H
     clear H
     go_wp2_with (first | (go_at_call 22; (with_reducible refine (spec_CodeRight.calls a0 a1 true _ A10.out).mono ?_); rintro e w' ⟨rfl, ⟨nd, rfl⟩⟩; (try first | exact ⟨rfl, _, World.drewN_drewN _ _ _⟩ | exact ⟨rfl, _, Eq.trans (World.drewN_drewN _ _ _) (congrArg (World.drewN _) (Nat.add_assoc _ _ _))⟩)) | (go_at_call 117; (with_reducible refine (spec_l04Size.calls a2 false _ A12.out).mono ?_); rintro e w' ⟨rfl, ⟨nd, rfl⟩⟩; (try first | exact ⟨rfl, _, World.drewN_drewN _ _ _⟩ | exact ⟨rfl, _, Eq.trans (World.drewN_drewN _ _ _) (congrArg (World.drewN _) (Nat.add_assoc _ _ _))⟩)))
     repeat (go_quiet (first | (go_at_call 22; (with_reducible refine (spec_CodeRight.calls a0 a1 true _ A10.out).mono ?_); rintro e w' ⟨rfl, ⟨nd, rfl⟩⟩; (try first | exact ⟨rfl, _, World.drewN_drewN _ _ _⟩ | exact ⟨rfl, _, Eq.trans (World.drewN_drewN _ _ _) (congrArg (World.drewN _) (Nat.add_assoc _ _ _))⟩)) | (go_at_call 117; (with_reducible refine (spec_l04Size.calls a2 false _ A12.out).mono ?_); rintro e w' ⟨rfl, ⟨nd, rfl⟩⟩; (try first | exact ⟨rfl, _, World.drewN_drewN _ _ _⟩ | exact ⟨rfl, _, Eq.trans (World.drewN_drewN _ _ _) (congrArg (World.drewN _) (Nat.add_assoc _ _ _))⟩))); try go_wp2_with (first | (go_at_call 22; (with_reducible refine (spec_CodeRight.calls a0 a1 true _ A10.out).mono ?_); rintro e w' ⟨rfl, ⟨nd, rfl⟩⟩; (try first | exact ⟨rfl, _, World.drewN_drewN _ _ _⟩ | exact ⟨rfl, _, Eq.trans (World.drewN_drewN _ _ _) (congrArg (World.drewN _) (Nat.add_assoc _ _ _))⟩)) | (go_at_call 117; (with_reducible refine (spec_l04Size.calls a2 false _ A12.out).mono ?_); rintro e w' ⟨rfl, ⟨nd, rfl⟩⟩; (try first | exact ⟨rfl, _, World.drewN_drewN _ _ _⟩ | exact ⟨rfl, _, Eq.trans (World.drewN_drewN _ _ _) (congrArg (World.drewN _) (Nat.add_assoc _ _ _))⟩))))
     go_meet
     case rel => exact ⟨_, (true), (by first | rfl | (simp; done) | (simp [*]; done)), H', ⟨by first | omega | exact Nat.le_refl _⟩, ⟨Cz.b BK304.out⟩, ⟨Cz.w HB.out⟩⟩
   ·replace c11 := Bool.eq_false_iff.mpr c11
    subst c11
    have H1 : (spec_Decode.j0 k a0 a1 a2 l3 true) = some (r1, r2) := by rw [if_neg (show ¬ (false = true) by decide)] at H; exact H
    clear H
    have H := H1
    clear H1
    have H' := Aside0.mk H
    clear H
    go_wp2_with (first | (go_at_call 22; (with_reducible refine (spec_CodeRight.calls a0 a1 false _ A10.out).mono ?_); rintro e w' ⟨rfl, ⟨nd, rfl⟩⟩; (try first | exact ⟨rfl, _, World.drewN_drewN _ _ _⟩ | exact ⟨rfl, _, Eq.trans (World.drewN_drewN _ _ _) (congrArg (World.drewN _) (Nat.add_assoc _ _ _))⟩)))
    repeat (go_quiet (first | (go_at_call 22; (with_reducible refine (spec_CodeRight.calls a0 a1 false _ A10.out).mono ?_); rintro e w' ⟨rfl, ⟨nd, rfl⟩⟩; (try first | exact ⟨rfl, _, World.drewN_drewN _ _ _⟩ | exact ⟨rfl, _, Eq.trans (World.drewN_drewN _ _ _) (congrArg (World.drewN _) (Nat.add_assoc _ _ _))⟩))); try go_wp2_with (first | (go_at_call 22; (with_reducible refine (spec_CodeRight.calls a0 a1 false _ A10.out).mono ?_); rintro e w' ⟨rfl, ⟨nd, rfl⟩⟩; (try first | exact ⟨rfl, _, World.drewN_drewN _ _ _⟩ | exact ⟨rfl, _, Eq.trans (World.drewN_drewN _ _ _) (congrArg (World.drewN _) (Nat.add_assoc _ _ _))⟩))))
    go_meet
    case rel => exact ⟨_, (true), (by first | rfl | (simp; done) | (simp [*]; done)), H', ⟨by first | omega | exact Nat.le_refl _⟩, ⟨Cz.b BK304.out⟩, ⟨Cz.w HB.out⟩⟩
  case rest =>
   clear HC8
   try clear c1
   try clear p2
   try clear c3
   try clear c5
   try clear c5b0
   try clear c5b1
   try clear c6
   try clear p6
   try clear c11
   try clear c13
   try clear hcz7_0
   try clear hcz7_1
   try clear hfz7_0
   try clear hfz7_1
   obtain ⟨kq, x34_7, rfl, HA, HJ7, BK304, HB⟩ := hcut
   cases kq with
   | zero => exact absurd HA.out (by simp [spec_Decode.j0])
   | succ kj7 =>
    have H := HA.out
    clear HA
    simp only [spec_Decode.j0] at H
    by_cases c14 : x34_7 = true
    ·subst c14
     have H1 : (some ((⟨#[]⟩ : ByteArray), 1)) = some (r1, r2) := by rw [if_pos rfl] at H; exact H
     clear H
     have H := H1
     clear H1
     simp only [Option.some.injEq, Prod.mk.injEq] at H
     obtain ⟨rfl, rfl⟩ := H
     obtain ⟨hcz15_0, hcz15_1, hfz15_0, hfz15_1⟩ := Cy.z2 BK304.out
     go_wp2
     repeat (go_quiet (fail); try go_wp2)
     refine bodyPost_ret (results_cell_row rfl _ _ gb304 75 #[.string (⟨#[]⟩ : ByteArray), .int .i64 1] (0, 0) _ rfl (by (with_reducible repeat (first | refine blk_drewN ?_ _ | refine blk_drew ?_ | refine blk_alloc ?_ _)); refine blk_put (cs := #[.string (⟨#[]⟩ : ByteArray), .int .i64 0]) ?_ 1 _ rfl; (with_reducible repeat (first | refine blk_drewN ?_ _ | refine blk_drew ?_ | refine blk_alloc ?_ _)); refine blk_put (cs := #[.string (⟨#[]⟩ : ByteArray), .int .i64 0]) ?_ 0 _ rfl; (with_reducible repeat (first | refine blk_drewN ?_ _ | refine blk_drew ?_ | refine blk_alloc ?_ _)); exact BK304.out) Try.underlying75 rfl (by kernel_rfl)) rfl ?_
     exact ⟨by first | rfl | (simp [errW_none, errW_some] <;> rfl) | (simp [*, errW_none, errW_some] <;> rfl), Cz.w HB.out⟩
    ·replace c14 := Bool.eq_false_iff.mpr c14
     subst c14
     have H1 : (spec_Decode.l0 kj7 a0 a1 a2 l3 0) = some (r1, r2) := by rw [if_neg (show ¬ (false = true) by decide)] at H; exact H
     clear H
     have H := H1
     clear H1
     have H' := Aside0.mk H
     clear H
     go_wp2
     repeat (go_quiet (fail); try go_wp2)
     go_loopg [9] kj7 (fun kq v9 w' => ∃ (x9_2 : Int) (x305000_2 : ByteArray) (x305001_2 : Int), v9 = .int .i64 x9_2 ∧ Aside0 (spec_Decode.l0 kq a0 a1 a2 l3 x9_2 = some (r1, r2)) ∧ Aside0 (kq ≤ kj7) ∧ Aside0 (w'.heap[gb304]? = some (.cells #[.string x305000_2, .int .i64 x305001_2] 75 (0, 0))) ∧ Aside0 (Below w.heap.size w w'))
     case atStart => exact ⟨(0), ((⟨#[]⟩ : ByteArray)), (0), (by first | rfl | (simp; done) | (simp [*]; done)), H', ⟨Nat.le_refl _⟩, ⟨Cz.b BK304.out⟩, ⟨Cz.w HB.out⟩⟩
     case round =>
      clear H'
      try clear c1
      try clear p2
      try clear c3
      try clear c5
      try clear c5b0
      try clear c5b1
      try clear c6
      try clear p6
      try clear c11
      try clear c13
      try clear c14
      try clear hcz15_0
      try clear hcz15_1
      try clear hcz7_0
      try clear hcz7_1
      try clear hfz15_0
      try clear hfz15_1
      try clear hfz7_0
      try clear hfz7_1
      try clear p2
      try clear p6
      obtain ⟨x9_2, x305000_2, x305001_2, rfl, HA, HK2, BK304, HB⟩ := hrel
      cases gk with
      | zero => exact absurd HA.out (by simp [spec_Decode.l0])
      | succ k2 =>
       have H := HA.out
       clear HA
       simp only [spec_Decode.l0] at H
       by_cases c16 : x9_2 < (l3.length : Int)
       ·rw [if_pos c16] at H
        have c16b0 : decide (x9_2 < (l3.length : Int)) = true := decide_eq_true c16
        clear c16
        by_cases c17 : 0 ≤ x9_2
        ·rw [if_pos c17] at H
         have c17b0 : decide (0 ≤ x9_2) = true := decide_eq_true c17
         clear c17
         obtain ⟨bq18, hbq18⟩ : ∃ b_ : Bool, b_ = ((rd_T112 l3 x9_2).f0) := ⟨_, rfl⟩
         replace H : (if bq18 = true then ((spec_ShardSize.f a0 a2).bind fun t309 => (if (((rd_T112 l3 x9_2).f1).size : Int) = t309 then (spec_Decode.l0 k2 a0 a1 a2 l3 (wrap64 (x9_2 + 1))) else (some ((⟨#[]⟩ : ByteArray), 2)))) else (spec_Decode.l0 k2 a0 a1 a2 l3 (wrap64 (x9_2 + 1)))) = some (r1, r2) := by rw [← hbq18] at H; exact H
         have Nbq18 := Aside0.mk hbq18
         clear hbq18
         by_cases c19 : bq18 = true
         ·subst c19
          have H1 : ((spec_ShardSize.f a0 a2).bind fun t309 => (if (((rd_T112 l3 x9_2).f1).size : Int) = t309 then (spec_Decode.l0 k2 a0 a1 a2 l3 (wrap64 (x9_2 + 1))) else (some ((⟨#[]⟩ : ByteArray), 2)))) = some (r1, r2) := by rw [if_pos rfl] at H; exact H
          clear H
          have H := H1
          clear H1
          replace H := Option.bind_eq_some_iff.mp H
          obtain ⟨t309, A200, H⟩ := H
          replace H : (if (((rd_T112 l3 x9_2).f1).size : Int) = t309 then (spec_Decode.l0 k2 a0 a1 a2 l3 (wrap64 (x9_2 + 1))) else (some ((⟨#[]⟩ : ByteArray), 2))) = some (r1, r2) := H
          have A20 := Aside0.mk A200
          clear A200
          by_cases c21 : (((rd_T112 l3 x9_2).f1).size : Int) = t309
          ·rw [if_pos c21] at H
           have c21b0 : ((((rd_T112 l3 x9_2).f1).size : Int) == t309) = true := beq_iff_eq.mpr c21
           have c21b1 : ((((rd_T112 l3 x9_2).f1).size : Int) != t309) = false := bne_eq_false_iff_eq.mpr c21
           clear c21
           have H' := Aside0.mk H
           clear H
           have p307 : 0 ≤ (x9_2 : Int) := of_decide_eq_true (by first | (with_reducible assumption) | assumption)
           have q307 : x9_2 < (l3.length : Int) := of_decide_eq_true (by first | (with_reducible assumption) | assumption)
           obtain ⟨ad307, e307, hx307_0, hx307_1⟩ := at_T112 HR3.out x9_2 p307 q307
           (try rw [← Nbq18.out] at hx307_0)
           cases e307
           replace hx307_0 := (HB.out.cell (World.block_lt_of_cell? w _ hx307_0)).trans hx307_0
           replace hx307_1 := (HB.out.cell (World.block_lt_of_cell? w _ hx307_1)).trans hx307_1
           replace p307 := eq_true p307
           replace q307 := eq_true q307
           have p308 : 0 ≤ (x9_2 : Int) := of_decide_eq_true (by first | (with_reducible assumption) | assumption)
           have q308 : x9_2 < (l3.length : Int) := of_decide_eq_true (by first | (with_reducible assumption) | assumption)
           obtain ⟨ad308, e308, hx308_0, hx308_1⟩ := at_T112 HR3.out x9_2 p308 q308
           (try rw [← Nbq18.out] at hx308_0)
           obtain rfl : ad307 = ad308 := (by injection e308)
           replace hx308_0 := (HB.out.cell (World.block_lt_of_cell? w _ hx308_0)).trans hx308_0
           replace hx308_1 := (HB.out.cell (World.block_lt_of_cell? w _ hx308_1)).trans hx308_1
           replace p308 := eq_true p308
           replace q308 := eq_true q308
           go_wp2_with (first | (go_at_call 101; (with_reducible refine (spec_ShardSize.calls a0 a2 t309 _ A20.out).mono ?_); rintro e w' ⟨rfl, ⟨nd, rfl⟩⟩; (try first | exact ⟨rfl, _, World.drewN_drewN _ _ _⟩ | exact ⟨rfl, _, Eq.trans (World.drewN_drewN _ _ _) (congrArg (World.drewN _) (Nat.add_assoc _ _ _))⟩)))
           repeat (go_quiet (first | (go_at_call 101; (with_reducible refine (spec_ShardSize.calls a0 a2 t309 _ A20.out).mono ?_); rintro e w' ⟨rfl, ⟨nd, rfl⟩⟩; (try first | exact ⟨rfl, _, World.drewN_drewN _ _ _⟩ | exact ⟨rfl, _, Eq.trans (World.drewN_drewN _ _ _) (congrArg (World.drewN _) (Nat.add_assoc _ _ _))⟩))); try go_wp2_with (first | (go_at_call 101; (with_reducible refine (spec_ShardSize.calls a0 a2 t309 _ A20.out).mono ?_); rintro e w' ⟨rfl, ⟨nd, rfl⟩⟩; (try first | exact ⟨rfl, _, World.drewN_drewN _ _ _⟩ | exact ⟨rfl, _, Eq.trans (World.drewN_drewN _ _ _) (congrArg (World.drewN _) (Nat.add_assoc _ _ _))⟩))))
           go_roundg k2
           case measure => have := HJ7.out; have := HK2.out; omega
           case rel => exact ⟨(wrap64 (x9_2 + 1)), (x305000_2), (x305001_2), (by first | rfl | (simp; done) | (simp [*]; done)), H', ⟨by have := HJ7.out; have := HK2.out; omega⟩, ⟨Cz.b BK304.out⟩, ⟨Cz.w HB.out⟩⟩
          ·rw [if_neg c21] at H
           have c21b0 : ((((rd_T112 l3 x9_2).f1).size : Int) == t309) = false := beq_eq_false_iff_ne.mpr c21
           have c21b1 : ((((rd_T112 l3 x9_2).f1).size : Int) != t309) = true := bne_iff_ne.mpr c21
           simp only [Option.some.injEq, Prod.mk.injEq] at H
           obtain ⟨rfl, rfl⟩ := H
           have p307 : 0 ≤ (x9_2 : Int) := of_decide_eq_true (by first | (with_reducible assumption) | assumption)
           have q307 : x9_2 < (l3.length : Int) := of_decide_eq_true (by first | (with_reducible assumption) | assumption)
           obtain ⟨ad307, e307, hx307_0, hx307_1⟩ := at_T112 HR3.out x9_2 p307 q307
           (try rw [← Nbq18.out] at hx307_0)
           cases e307
           replace hx307_0 := (HB.out.cell (World.block_lt_of_cell? w _ hx307_0)).trans hx307_0
           replace hx307_1 := (HB.out.cell (World.block_lt_of_cell? w _ hx307_1)).trans hx307_1
           replace p307 := eq_true p307
           replace q307 := eq_true q307
           have p308 : 0 ≤ (x9_2 : Int) := of_decide_eq_true (by first | (with_reducible assumption) | assumption)
           have q308 : x9_2 < (l3.length : Int) := of_decide_eq_true (by first | (with_reducible assumption) | assumption)
           obtain ⟨ad308, e308, hx308_0, hx308_1⟩ := at_T112 HR3.out x9_2 p308 q308
           (try rw [← Nbq18.out] at hx308_0)
           obtain rfl : ad307 = ad308 := (by injection e308)
           replace hx308_0 := (HB.out.cell (World.block_lt_of_cell? w _ hx308_0)).trans hx308_0
           replace hx308_1 := (HB.out.cell (World.block_lt_of_cell? w _ hx308_1)).trans hx308_1
           replace p308 := eq_true p308
           replace q308 := eq_true q308
           go_wp2_with (first | (go_at_call 101; (with_reducible refine (spec_ShardSize.calls a0 a2 t309 _ A20.out).mono ?_); rintro e w' ⟨rfl, ⟨nd, rfl⟩⟩; (try first | exact ⟨rfl, _, World.drewN_drewN _ _ _⟩ | exact ⟨rfl, _, Eq.trans (World.drewN_drewN _ _ _) (congrArg (World.drewN _) (Nat.add_assoc _ _ _))⟩); obtain ⟨hcz22_0, hcz22_1, hfz22_0, hfz22_1⟩ := Cy.z2 BK304.out))
           repeat (go_quiet (first | (go_at_call 101; (with_reducible refine (spec_ShardSize.calls a0 a2 t309 _ A20.out).mono ?_); rintro e w' ⟨rfl, ⟨nd, rfl⟩⟩; (try first | exact ⟨rfl, _, World.drewN_drewN _ _ _⟩ | exact ⟨rfl, _, Eq.trans (World.drewN_drewN _ _ _) (congrArg (World.drewN _) (Nat.add_assoc _ _ _))⟩); obtain ⟨hcz22_0, hcz22_1, hfz22_0, hfz22_1⟩ := Cy.z2 BK304.out)); try go_wp2_with (first | (go_at_call 101; (with_reducible refine (spec_ShardSize.calls a0 a2 t309 _ A20.out).mono ?_); rintro e w' ⟨rfl, ⟨nd, rfl⟩⟩; (try first | exact ⟨rfl, _, World.drewN_drewN _ _ _⟩ | exact ⟨rfl, _, Eq.trans (World.drewN_drewN _ _ _) (congrArg (World.drewN _) (Nat.add_assoc _ _ _))⟩); obtain ⟨hcz22_0, hcz22_1, hfz22_0, hfz22_1⟩ := Cy.z2 BK304.out)))
           refine bodyPost_ret (results_cell_row rfl _ _ gb304 75 #[.string (⟨#[]⟩ : ByteArray), .int .i64 2] (0, 0) _ rfl (by (with_reducible repeat (first | refine blk_drewN ?_ _ | refine blk_drew ?_ | refine blk_alloc ?_ _)); refine blk_put (cs := #[.string (⟨#[]⟩ : ByteArray), .int .i64 x305001_2]) ?_ 1 _ rfl; (with_reducible repeat (first | refine blk_drewN ?_ _ | refine blk_drew ?_ | refine blk_alloc ?_ _)); refine blk_put (cs := #[.string x305000_2, .int .i64 x305001_2]) ?_ 0 _ rfl; (with_reducible repeat (first | refine blk_drewN ?_ _ | refine blk_drew ?_ | refine blk_alloc ?_ _)); exact BK304.out) Try.underlying75 rfl (by kernel_rfl)) rfl ?_
           exact ⟨by first | rfl | (simp [errW_none, errW_some] <;> rfl) | (simp [*, errW_none, errW_some] <;> rfl), Cz.w HB.out⟩
         ·replace c19 := Bool.eq_false_iff.mpr c19
          subst c19
          have H1 : (spec_Decode.l0 k2 a0 a1 a2 l3 (wrap64 (x9_2 + 1))) = some (r1, r2) := by rw [if_neg (show ¬ (false = true) by decide)] at H; exact H
          clear H
          have H := H1
          clear H1
          have H' := Aside0.mk H
          clear H
          have p307 : 0 ≤ (x9_2 : Int) := of_decide_eq_true (by first | (with_reducible assumption) | assumption)
          have q307 : x9_2 < (l3.length : Int) := of_decide_eq_true (by first | (with_reducible assumption) | assumption)
          obtain ⟨ad307, e307, hx307_0, hx307_1⟩ := at_T112 HR3.out x9_2 p307 q307
          (try rw [← Nbq18.out] at hx307_0)
          cases e307
          replace hx307_0 := (HB.out.cell (World.block_lt_of_cell? w _ hx307_0)).trans hx307_0
          replace hx307_1 := (HB.out.cell (World.block_lt_of_cell? w _ hx307_1)).trans hx307_1
          replace p307 := eq_true p307
          replace q307 := eq_true q307
          go_wp2
          repeat (go_quiet (fail); try go_wp2)
          go_roundg k2
          case measure => have := HJ7.out; have := HK2.out; omega
          case rel => exact ⟨(wrap64 (x9_2 + 1)), (x305000_2), (x305001_2), (by first | rfl | (simp; done) | (simp [*]; done)), H', ⟨by have := HJ7.out; have := HK2.out; omega⟩, ⟨Cz.b BK304.out⟩, ⟨Cz.w HB.out⟩⟩
        ·rw [if_neg c17] at H
         exact absurd H (by simp)
       ·rw [if_neg c16] at H
        have c16b0 : decide (x9_2 < (l3.length : Int)) = false := decide_eq_false c16
        clear c16
        replace H := Option.bind_eq_some_iff.mp H
        obtain ⟨⟨t310, t311⟩, A230, H⟩ := H
        replace H : (if t311 = true then (spec_Decode.l1 k2 a2 t310 (([] : List Int)) 0) else (some ((⟨#[]⟩ : ByteArray), 10))) = some (r1, r2) := H
        have A23 := Aside0.mk A230
        clear A230
        by_cases c24 : t311 = true
        ·subst c24
         have H1 : (spec_Decode.l1 k2 a2 t310 (([] : List Int)) 0) = some (r1, r2) := by rw [if_pos rfl] at H; exact H
         clear H
         have H := H1
         clear H1
         obtain ⟨y314, hy314⟩ : ∃ y_ : List Int, y_ = (([] : List Int)) := ⟨_, rfl⟩
         replace H : (spec_Decode.l1 k2 a2 t310 y314 0) = some (r1, r2) := by first | (rw [hy314]; with_reducible exact H) | (have H2_ := (Option.bind_some _ _).symm.trans H; rw [hy314]; with_reducible exact H2_) | (have H2_ := (Option.bind_some _ _).symm.trans H; with_reducible exact H2_) | with_reducible exact H | (rw [hy314]; exact H) | exact H
         have Ny314 := Aside0.mk hy314
         clear hy314
         have H' := Aside0.mk H
         clear H
         go_wp2_with (first | (go_at_call 106; (with_reducible refine (spec_l04Data.calls k2 a0 a1 _ _ l3 t310 true _ ?side1 ?side2 A23.out).mono ?_); (case side1 => exact Cz.c HR3.out HB.out); (case side2 => exact HC3.out); rintro e w25 ⟨v312, rfl, ho0, hb⟩; have n_ := Cy.a3 (Kd.R_lower ho0 (below_size (Cz.w HB.out))) (blk_below (g := gb304) (o := .cells #[.string x305000_2, .int .i64 x305001_2] 75 (0, 0)) (Cz.b BK304.out) hb) (below_step (Cz.w HB.out) hb); clear BK304 HB; obtain ⟨HO313, BK304, HB⟩ := n_; (try clear hb); (try clear hb2); (try clear hk); (try clear hi); (try clear ho0)) | ((with_reducible refine gate_dst (N := 70) rfl ?_); (try (refine gate_guard (by rfl) ?_; dsimp only)); refine Kd.R_lit (Kd.int .u8) _ 5 ?hg (N := 70) ?hd (xs := ([] : List Int)) (inner := []) (ok := fun _ => True) (okp := fun _ => True) ?hr ?hp (fun _ hk => hk) trivial (Below.refl _ _) (Nat.le_refl _) (by simp) ?_; (case hd => rfl); (case hg => rfl); (case hr => first | (go_simp; done) | (go_simp; rfl)); (case hp => exact (Reps.none _ _)); intro v315 w26 ho27 hb hg_ hnew_; clear hg_ hnew_; (first | rw [← Ny314.out] at ho27 | (simp only [Int.reduceToNat] at ho27; rw [← Ny314.out] at ho27)); have n_ := Cy.a4 (Kd.R_below (Cz.r HO313.out) hb) (Kd.R_lower ho27 (below_size (Cz.w HB.out))) (blk_below (g := gb304) (o := .cells #[.string x305000_2, .int .i64 x305001_2] 75 (0, 0)) (Cz.b BK304.out) hb) (below_step (Cz.w HB.out) hb); clear HO313 BK304 HB; obtain ⟨HO313, HO316, BK304, HB⟩ := n_; clear hb ho27))
         repeat (go_quiet (first | (go_at_call 106; (with_reducible refine (spec_l04Data.calls k2 a0 a1 _ _ l3 t310 true _ ?side1 ?side2 A23.out).mono ?_); (case side1 => exact Cz.c HR3.out HB.out); (case side2 => exact HC3.out); rintro e w25 ⟨v312, rfl, ho0, hb⟩; have n_ := Cy.a3 (Kd.R_lower ho0 (below_size (Cz.w HB.out))) (blk_below (g := gb304) (o := .cells #[.string x305000_2, .int .i64 x305001_2] 75 (0, 0)) (Cz.b BK304.out) hb) (below_step (Cz.w HB.out) hb); clear BK304 HB; obtain ⟨HO313, BK304, HB⟩ := n_; (try clear hb); (try clear hb2); (try clear hk); (try clear hi); (try clear ho0)) | ((with_reducible refine gate_dst (N := 70) rfl ?_); (try (refine gate_guard (by rfl) ?_; dsimp only)); refine Kd.R_lit (Kd.int .u8) _ 5 ?hg (N := 70) ?hd (xs := ([] : List Int)) (inner := []) (ok := fun _ => True) (okp := fun _ => True) ?hr ?hp (fun _ hk => hk) trivial (Below.refl _ _) (Nat.le_refl _) (by simp) ?_; (case hd => rfl); (case hg => rfl); (case hr => first | (go_simp; done) | (go_simp; rfl)); (case hp => exact (Reps.none _ _)); intro v315 w26 ho27 hb hg_ hnew_; clear hg_ hnew_; (first | rw [← Ny314.out] at ho27 | (simp only [Int.reduceToNat] at ho27; rw [← Ny314.out] at ho27)); have n_ := Cy.a4 (Kd.R_below (Cz.r HO313.out) hb) (Kd.R_lower ho27 (below_size (Cz.w HB.out))) (blk_below (g := gb304) (o := .cells #[.string x305000_2, .int .i64 x305001_2] 75 (0, 0)) (Cz.b BK304.out) hb) (below_step (Cz.w HB.out) hb); clear HO313 BK304 HB; obtain ⟨HO313, HO316, BK304, HB⟩ := n_; clear hb ho27)); try go_wp2_with (first | (go_at_call 106; (with_reducible refine (spec_l04Data.calls k2 a0 a1 _ _ l3 t310 true _ ?side1 ?side2 A23.out).mono ?_); (case side1 => exact Cz.c HR3.out HB.out); (case side2 => exact HC3.out); rintro e w25 ⟨v312, rfl, ho0, hb⟩; have n_ := Cy.a3 (Kd.R_lower ho0 (below_size (Cz.w HB.out))) (blk_below (g := gb304) (o := .cells #[.string x305000_2, .int .i64 x305001_2] 75 (0, 0)) (Cz.b BK304.out) hb) (below_step (Cz.w HB.out) hb); clear BK304 HB; obtain ⟨HO313, BK304, HB⟩ := n_; (try clear hb); (try clear hb2); (try clear hk); (try clear hi); (try clear ho0)) | ((with_reducible refine gate_dst (N := 70) rfl ?_); (try (refine gate_guard (by rfl) ?_; dsimp only)); refine Kd.R_lit (Kd.int .u8) _ 5 ?hg (N := 70) ?hd (xs := ([] : List Int)) (inner := []) (ok := fun _ => True) (okp := fun _ => True) ?hr ?hp (fun _ hk => hk) trivial (Below.refl _ _) (Nat.le_refl _) (by simp) ?_; (case hd => rfl); (case hg => rfl); (case hr => first | (go_simp; done) | (go_simp; rfl)); (case hp => exact (Reps.none _ _)); intro v315 w26 ho27 hb hg_ hnew_; clear hg_ hnew_; (first | rw [← Ny314.out] at ho27 | (simp only [Int.reduceToNat] at ho27; rw [← Ny314.out] at ho27)); have n_ := Cy.a4 (Kd.R_below (Cz.r HO313.out) hb) (Kd.R_lower ho27 (below_size (Cz.w HB.out))) (blk_below (g := gb304) (o := .cells #[.string x305000_2, .int .i64 x305001_2] 75 (0, 0)) (Cz.b BK304.out) hb) (below_step (Cz.w HB.out) hb); clear HO313 BK304 HB; obtain ⟨HO313, HO316, BK304, HB⟩ := n_; clear hb ho27)))
         go_loopg [12, 13] k2 (fun kq v12 v13 w' => ∃ (x12_3 : List Int) (x13_3 : Int), v13 = .int .i64 x13_3 ∧ Aside0 (spec_Decode.l1 kq a2 t310 x12_3 x13_3 = some (r1, r2)) ∧ Aside0 (kq ≤ k2) ∧ Aside0 (Kd.R Kd.string 9 w' w.heap.size (fun _ => True) v312 t310) ∧ Aside0 (Kd.R (Kd.int .u8) 5 w' w.heap.size (fun _ => True) v12 x12_3) ∧ Aside0 (w'.heap[gb304]? = some (.cells #[.string x305000_2, .int .i64 x305001_2] 75 (0, 0))) ∧ Aside0 (Below w.heap.size w w'))
         case atStart => exact ⟨(y314), (0), (by first | rfl | (simp; done) | (simp [*]; done)), H', ⟨Nat.le_refl _⟩, ⟨Cz.r HO313.out⟩, ⟨Cz.r HO316.out⟩, ⟨Cz.b BK304.out⟩, ⟨Cz.w HB.out⟩⟩
         case round =>
          clear H'
          try clear c1
          try clear q1
          try clear c2
          try clear p2
          try clear c3
          try clear p3
          try clear q3
          try clear hx3
          try clear c5
          try clear c5b0
          try clear c5b1
          try clear c6
          try clear p6
          try clear c11
          try clear c13
          try clear c14
          try clear c16
          try clear c16b0
          try clear c17
          try clear c17b0
          try clear q18
          try clear c19
          try clear c21
          try clear c21b0
          try clear c21b1
          try clear c24
          try clear hcz15_0
          try clear hcz15_1
          try clear hcz22_0
          try clear hcz22_1
          try clear hcz7_0
          try clear hcz7_1
          try clear hfz15_0
          try clear hfz15_1
          try clear hfz22_0
          try clear hfz22_1
          try clear hfz7_0
          try clear hfz7_1
          try clear hx307_0
          try clear hx307_1
          try clear hx308_0
          try clear hx308_1
          try clear p2
          try clear p307
          try clear p308
          try clear p6
          try clear q307
          try clear q308
          obtain ⟨x12_3, x13_3, rfl, HA, HK3, HO_10, HO_12, BK304, HB⟩ := hrel
          cases gk with
          | zero => exact absurd HA.out (by simp [spec_Decode.l1])
          | succ k3 =>
           have H := HA.out
           clear HA
           simp only [spec_Decode.l1] at H
           by_cases c28 : x13_3 < (t310.length : Int)
           ·rw [if_pos c28] at H
            have c28b0 : decide (x13_3 < (t310.length : Int)) = true := decide_eq_true c28
            clear c28
            by_cases c29 : 0 ≤ x13_3
            ·rw [if_pos c29] at H
             have c29b0 : decide (0 ≤ x13_3) = true := decide_eq_true c29
             clear c29
             by_cases c30 : x12_3.length + (rdOf ByteArray.empty t310 x13_3).size < 140737488355328
             ·rw [if_pos c30] at H
              have LMc30 := Aside0.mk c30
              clear c30
              obtain ⟨y318, hy318⟩ : ∃ y_ : List Int, y_ = (x12_3 ++ bytesOf (rdOf ByteArray.empty t310 x13_3)) := ⟨_, rfl⟩
              replace H : (spec_Decode.l1 k3 a2 t310 y318 (wrap64 (x13_3 + 1))) = some (r1, r2) := by first | (rw [hy318]; with_reducible exact H) | (have H2_ := (Option.bind_some _ _).symm.trans H; rw [hy318]; with_reducible exact H2_) | (have H2_ := (Option.bind_some _ _).symm.trans H; with_reducible exact H2_) | with_reducible exact H | (rw [hy318]; exact H) | exact H
              have Ny318 := Aside0.mk hy318
              clear hy318
              have H' := Aside0.mk H
              clear H
              obtain ⟨Ao31, co31, eo31⟩ := Kd.R_slice HO_10.out
              subst eo31
              have p317 : 0 ≤ (x13_3 : Int) := of_decide_eq_true (by first | (with_reducible assumption) | assumption)
              have q317 : x13_3 < (t310.length : Int) := of_decide_eq_true (by first | (with_reducible assumption) | assumption)
              obtain ⟨ad317, e317, hx317_0⟩ := Kd.at_string (Kd.R_reads' HO_10.out).2.2 x13_3 p317 q317
              cases e317
              replace p317 := eq_true p317
              replace q317 := eq_true q317
              go_wp2_with (first | (at_builtin; refine print_append_str (w0 := w) w.heap.size rfl (.tmp 77) _ 31 9 5 rfl Try.underlying31 Try.underlying9 info5 u12 x12_3 (rdOf ByteArray.empty t310 x13_3) rfl rfl ?aO ?aB ?aS ?aL ?_; (case aB => exact (Cz.w HB.out)); (case aO => exact (Kd.own_of_R (Cz.r HO_12.out))); (case aS => exact (below_size (Cz.w HB.out))); (case aL => have := LMc30.out; omega); intro v319 w32 ho0 hb hg; have ho := Kd.R_of_own (h1 := fun _ => rfl) (ok := fun _ => True) ho0 (fun _ _ => trivial); clear ho0; have hat := True.intro; rw [← Ny318.out] at ho; change Kd.R (Kd.int .u8) 5 w32 w.heap.size (fun _ => True) v319 y318 at ho; have n_ := Cy.a4 (Kd.R_over' (Cz.r HO_10.out) (Kd.R_typed (Cz.r HO_12.out)) (by decide) hg) (blk_grown (g := gb304) (o := .cells #[.string x305000_2, .int .i64 x305001_2] 75 (0, 0)) (Cz.b BK304.out) hg (Kd.R_ne HO_12.out BK304.out (by decide))) hb ho; clear HO_10 BK304 HB HO_12; obtain ⟨HO_10, BK304, HB, HO320⟩ := n_; clear ho hb hg hat))
              repeat (go_quiet (first | (at_builtin; refine print_append_str (w0 := w) w.heap.size rfl (.tmp 77) _ 31 9 5 rfl Try.underlying31 Try.underlying9 info5 u12 x12_3 (rdOf ByteArray.empty t310 x13_3) rfl rfl ?aO ?aB ?aS ?aL ?_; (case aB => exact (Cz.w HB.out)); (case aO => exact (Kd.own_of_R (Cz.r HO_12.out))); (case aS => exact (below_size (Cz.w HB.out))); (case aL => have := LMc30.out; omega); intro v319 w32 ho0 hb hg; have ho := Kd.R_of_own (h1 := fun _ => rfl) (ok := fun _ => True) ho0 (fun _ _ => trivial); clear ho0; have hat := True.intro; rw [← Ny318.out] at ho; change Kd.R (Kd.int .u8) 5 w32 w.heap.size (fun _ => True) v319 y318 at ho; have n_ := Cy.a4 (Kd.R_over' (Cz.r HO_10.out) (Kd.R_typed (Cz.r HO_12.out)) (by decide) hg) (blk_grown (g := gb304) (o := .cells #[.string x305000_2, .int .i64 x305001_2] 75 (0, 0)) (Cz.b BK304.out) hg (Kd.R_ne HO_12.out BK304.out (by decide))) hb ho; clear HO_10 BK304 HB HO_12; obtain ⟨HO_10, BK304, HB, HO320⟩ := n_; clear ho hb hg hat)); try go_wp2_with (first | (at_builtin; refine print_append_str (w0 := w) w.heap.size rfl (.tmp 77) _ 31 9 5 rfl Try.underlying31 Try.underlying9 info5 u12 x12_3 (rdOf ByteArray.empty t310 x13_3) rfl rfl ?aO ?aB ?aS ?aL ?_; (case aB => exact (Cz.w HB.out)); (case aO => exact (Kd.own_of_R (Cz.r HO_12.out))); (case aS => exact (below_size (Cz.w HB.out))); (case aL => have := LMc30.out; omega); intro v319 w32 ho0 hb hg; have ho := Kd.R_of_own (h1 := fun _ => rfl) (ok := fun _ => True) ho0 (fun _ _ => trivial); clear ho0; have hat := True.intro; rw [← Ny318.out] at ho; change Kd.R (Kd.int .u8) 5 w32 w.heap.size (fun _ => True) v319 y318 at ho; have n_ := Cy.a4 (Kd.R_over' (Cz.r HO_10.out) (Kd.R_typed (Cz.r HO_12.out)) (by decide) hg) (blk_grown (g := gb304) (o := .cells #[.string x305000_2, .int .i64 x305001_2] 75 (0, 0)) (Cz.b BK304.out) hg (Kd.R_ne HO_12.out BK304.out (by decide))) hb ho; clear HO_10 BK304 HB HO_12; obtain ⟨HO_10, BK304, HB, HO320⟩ := n_; clear ho hb hg hat)))
              go_roundg k3
              case measure => have := HJ7.out; have := HK2.out; have := HK3.out; omega
              case rel => exact ⟨(y318), (wrap64 (x13_3 + 1)), (by first | rfl | (simp; done) | (simp [*]; done)), H', ⟨by have := HJ7.out; have := HK2.out; have := HK3.out; omega⟩, ⟨Cz.r HO_10.out⟩, ⟨Cz.r HO320.out⟩, ⟨Cz.b BK304.out⟩, ⟨Cz.w HB.out⟩⟩
             ·rw [if_neg c30] at H
              exact absurd H (by simp)
            ·rw [if_neg c29] at H
             exact absurd H (by simp)
           ·rw [if_neg c28] at H
            have c28b0 : decide (x13_3 < (t310.length : Int)) = false := decide_eq_false c28
            clear c28
            by_cases c33 : 0 ≤ a2
            ·rw [if_pos c33] at H
             have c33b0 := eq_true c33
             have c33b1 : decide (0 ≤ a2) = true := decide_eq_true c33
             clear c33
             by_cases c34 : a2 ≤ (x12_3.length : Int)
             ·rw [if_pos c34] at H
              have c34b0 := eq_true c34
              have c34b1 : decide (a2 ≤ (x12_3.length : Int)) = true := decide_eq_true c34
              clear c34
              obtain ⟨y321, hy321⟩ : ∃ y_ : List Int, y_ = (x12_3.take (a2 : Int).toNat) := ⟨_, rfl⟩
              replace H : (some (strOfNums y321, 0)) = some (r1, r2) := by first | (rw [hy321]; with_reducible exact H) | (have H2_ := (Option.bind_some _ _).symm.trans H; rw [hy321]; with_reducible exact H2_) | (have H2_ := (Option.bind_some _ _).symm.trans H; with_reducible exact H2_) | with_reducible exact H | (rw [hy321]; exact H) | exact H
              have Ny321 := Aside0.mk hy321
              clear hy321
              simp only [Option.some.injEq, Prod.mk.injEq] at H
              obtain ⟨rfl, rfl⟩ := H
              obtain ⟨Ao35, co35, eo35⟩ := Kd.R_slice HO_10.out
              subst eo35
              obtain ⟨Ao37, co37, eo37⟩ := Kd.R_slice HO_12.out
              subst eo37
              have q36 : (a2 : Int) ≤ ((x12_3.length : Int) : Int) := of_decide_eq_true (by first | (with_reducible assumption) | assumption)
              obtain ⟨i036, hi036, _, hsz36, _⟩ := info_parts info5
              have hroom36 : x12_3.length ≤ co37 := (Kd.R_reads' HO_12.out).2.1
              have hC36 : Kd.C (Kd.int .u8) _ Ao37 x12_3.length x12_3 := (Kd.R_reads' HO_12.out).2.2
              have hcut36 := cut_to (P := Try.prog) 31 5 .i64 Try.underlying31 hi036 Ao37 x12_3.length co37 a2 (of_decide_eq_true (by first | (with_reducible assumption) | assumption)) q36 hroom36
              have hr36 := Kd.C_take (m := (a2 : Int).toNat) hC36 (by omega)
              have hy36 : y321.length = (a2 : Int).toNat := (by rw [Ny321.out, List.length_take]; omega)
              rw [← Ny321.out] at hr36
              rw [← hy36] at hcut36
              have HR324 := Aside0.mk hr36
              have HC324 := Aside0.mk (show y321.length ≤ co37 from by omega)
              clear hr36 hC36 hroom36 hi036 hsz36
              have KY36 := Aside0.mk hy36
              clear hy36
              have KL36 := Aside0.mk (show (a2 : Int).toNat ≤ x12_3.length from by omega)
              replace q36 := eq_true q36
              have hcv38 := Kd.C_string (P := Try.prog) (A := Ao37) (c := co37) Try.underlying31 Try.underlying5 Try.underlying9 (by repeat (first | (with_reducible exact HR324.out) | (with_reducible refine Kd.C_alloc ?_ _) | (with_reducible refine Kd.C_drewN ?_ _) | (with_reducible refine Kd.C_drew ?_) | exact HR324.out))
              obtain ⟨hcz39_0, hcz39_1, hfz39_0, hfz39_1⟩ := Cy.z2 BK304.out
              go_wp2
              repeat (go_quiet (fail); try go_wp2)
              refine bodyPost_ret (results_cell_row rfl _ _ gb304 75 #[.string (strOfNums y321), .int .i64 0] (0, 0) _ rfl (by (with_reducible repeat (first | refine blk_drewN ?_ _ | refine blk_drew ?_ | refine blk_alloc ?_ _)); refine blk_put (cs := #[.string (strOfNums y321), .int .i64 x305001_2]) ?_ 1 _ rfl; (with_reducible repeat (first | refine blk_drewN ?_ _ | refine blk_drew ?_ | refine blk_alloc ?_ _)); refine blk_put (cs := #[.string x305000_2, .int .i64 x305001_2]) ?_ 0 _ rfl; (with_reducible repeat (first | refine blk_drewN ?_ _ | refine blk_drew ?_ | refine blk_alloc ?_ _)); exact BK304.out) Try.underlying75 rfl (by kernel_rfl)) rfl ?_
              exact ⟨by first | rfl | (simp [errW_none, errW_some] <;> rfl) | (simp [*, errW_none, errW_some] <;> rfl), Cz.w HB.out⟩
             ·rw [if_neg c34] at H
              exact absurd H (by simp)
            ·rw [if_neg c33] at H
             exact absurd H (by simp)
        ·replace c24 := Bool.eq_false_iff.mpr c24
         subst c24
         have H1 : (some ((⟨#[]⟩ : ByteArray), 10)) = some (r1, r2) := by rw [if_neg (show ¬ (false = true) by decide)] at H; exact H
         clear H
         have H := H1
         clear H1
         simp only [Option.some.injEq, Prod.mk.injEq] at H
         obtain ⟨rfl, rfl⟩ := H
         go_wp2_with (first | (go_at_call 106; (with_reducible refine (spec_l04Data.calls k2 a0 a1 _ _ l3 t310 false _ ?side1 ?side2 A23.out).mono ?_); (case side1 => exact Cz.c HR3.out HB.out); (case side2 => exact HC3.out); rintro e w40 ⟨v312, rfl, ho0, hb⟩; have n_ := Cy.a3 (Kd.R_lower ho0 (below_size (Cz.w HB.out))) (blk_below (g := gb304) (o := .cells #[.string x305000_2, .int .i64 x305001_2] 75 (0, 0)) (Cz.b BK304.out) hb) (below_step (Cz.w HB.out) hb); clear BK304 HB; obtain ⟨HO313, BK304, HB⟩ := n_; (try clear hb); (try clear hb2); (try clear hk); (try clear hi); (try clear ho0); obtain ⟨hcz41_0, hcz41_1, hfz41_0, hfz41_1⟩ := Cy.z2 BK304.out))
         repeat (go_quiet (first | (go_at_call 106; (with_reducible refine (spec_l04Data.calls k2 a0 a1 _ _ l3 t310 false _ ?side1 ?side2 A23.out).mono ?_); (case side1 => exact Cz.c HR3.out HB.out); (case side2 => exact HC3.out); rintro e w40 ⟨v312, rfl, ho0, hb⟩; have n_ := Cy.a3 (Kd.R_lower ho0 (below_size (Cz.w HB.out))) (blk_below (g := gb304) (o := .cells #[.string x305000_2, .int .i64 x305001_2] 75 (0, 0)) (Cz.b BK304.out) hb) (below_step (Cz.w HB.out) hb); clear BK304 HB; obtain ⟨HO313, BK304, HB⟩ := n_; (try clear hb); (try clear hb2); (try clear hk); (try clear hi); (try clear ho0); obtain ⟨hcz41_0, hcz41_1, hfz41_0, hfz41_1⟩ := Cy.z2 BK304.out)); try go_wp2_with (first | (go_at_call 106; (with_reducible refine (spec_l04Data.calls k2 a0 a1 _ _ l3 t310 false _ ?side1 ?side2 A23.out).mono ?_); (case side1 => exact Cz.c HR3.out HB.out); (case side2 => exact HC3.out); rintro e w40 ⟨v312, rfl, ho0, hb⟩; have n_ := Cy.a3 (Kd.R_lower ho0 (below_size (Cz.w HB.out))) (blk_below (g := gb304) (o := .cells #[.string x305000_2, .int .i64 x305001_2] 75 (0, 0)) (Cz.b BK304.out) hb) (below_step (Cz.w HB.out) hb); clear BK304 HB; obtain ⟨HO313, BK304, HB⟩ := n_; (try clear hb); (try clear hb2); (try clear hk); (try clear hi); (try clear ho0); obtain ⟨hcz41_0, hcz41_1, hfz41_0, hfz41_1⟩ := Cy.z2 BK304.out)))
         refine bodyPost_ret (results_cell_row rfl _ _ gb304 75 #[.string (⟨#[]⟩ : ByteArray), .int .i64 10] (0, 0) _ rfl (by (with_reducible repeat (first | refine blk_drewN ?_ _ | refine blk_drew ?_ | refine blk_alloc ?_ _)); refine blk_put (cs := #[.string (⟨#[]⟩ : ByteArray), .int .i64 x305001_2]) ?_ 1 _ rfl; (with_reducible repeat (first | refine blk_drewN ?_ _ | refine blk_drew ?_ | refine blk_alloc ?_ _)); refine blk_put (cs := #[.string x305000_2, .int .i64 x305001_2]) ?_ 0 _ rfl; (with_reducible repeat (first | refine blk_drewN ?_ _ | refine blk_drew ?_ | refine blk_alloc ?_ _)); exact BK304.out) Try.underlying75 rfl (by kernel_rfl)) rfl ?_
         exact ⟨by first | rfl | (simp [errW_none, errW_some] <;> rfl) | (simp [*, errW_none, errW_some] <;> rfl), Cz.w HB.out⟩
def impl_within.f (a0 : Int) (a1 : Int) (a2 : Int) : Option (Bool) := if a0 ≥ a1 then (some (decide (a0 ≤ a2))) else (some false)
set_option maxHeartbeats 8000000 in
set_option maxRecDepth 100000 in
theorem impl_within.calls (a0 : Int) (a1 : Int) (a2 : Int) (r : Bool) (w : World) (h : impl_within.f a0 a1 a2 = some r) :
  Calls Try.prog 66 #[.int .i64 a0, .int .i64 a1, .int .i64 a2] w fun e w' => e = .returned (.bool r) ∧ Drawn0 w w' := by
 have H : (if a0 ≥ a1 then (some (decide (a0 ≤ a2))) else (some false)) = some r := h
 clear h
 by_cases c4 : a0 ≥ a1
 ·rw [if_pos c4] at H
  have c4b0 : decide (a1 ≤ a0) = true := decide_eq_true c4
  clear c4
  obtain rfl := Option.some.inj H
  go_enter Try.func66, Try.ntmps66
  go_wp2
  go_ret
  exact ⟨by first | rfl | (simp; done) | (simp [*]; done), by repeat (first | exact Drawn0.refl _ | apply Drawn0.step)⟩
 ·rw [if_neg c4] at H
  have c4b0 : decide (a1 ≤ a0) = false := decide_eq_false c4
  clear c4
  obtain rfl := Option.some.inj H
  go_enter Try.func66, Try.ntmps66
  go_wp2
  go_ret
  exact ⟨by first | rfl | (simp; done) | (simp [*]; done), by repeat (first | exact Drawn0.refl _ | apply Drawn0.step)⟩
end Go.Proofs.Ytlololbhlnapkaa.XFnExactDecode

/- Plain functions of what the law reaches, proofs that the calls come to them, and the law's row: written by a program of this session (xprint.py) over the kit's print. No conditions beyond each lemma's own. -/
import Derived.Test.YtlololbhlnapkaaKyCy
import Derived.Test.YtlololbhlnapkaaKyXFnExactDecodex0
import Derived.Test.YtlololbhlnapkaaKyXFnExactDecodex2
namespace Go.Proofs.Ytlololbhlnapkaa.XFnExactDecode
open Go.RowKit Go.Proofs.YtlololbhlnapkaaW.PrintWords Go.Proofs.YtlololbhlnapkaaW.PrintLast Go.Proofs.YtlololbhlnapkaaW.PrintMore
attribute [local go_sem] max2_int min2_int max_two min_two max_three min_three max_four min_four   -- for this text's walks alone
set_option linter.unusedVariables false
set_option linter.unusedSimpArgs false
mutual
def spec_l04Times.l0 : Nat → List ByteArray → List ByteArray → Int → Int → Int → List Int → Option (List ByteArray)
  | 0, _, _, _, _, _, _ => none
  | k + 1, x1, x5, x6, x250000, x250001, x250002 => if x6 < x250000 then (if 0 < (x1.length : Int) then (if 0 ≤ ((rdOf ByteArray.empty x1 0).size : Int) then (if (((rdOf ByteArray.empty x1 0).size : Int) : Int).toNat ≤ 281474976710656 then (spec_l04Times.l1 k x1 x5 x6 (List.replicate (((rdOf ByteArray.empty x1 0).size : Int) : Int).toNat 0) 0 x250000 x250001 x250002) else (none)) else (none)) else (none)) else (some x5)
def spec_l04Times.l1 : Nat → List ByteArray → List ByteArray → Int → List Int → Int → Int → Int → List Int → Option (List ByteArray)
  | 0, _, _, _, _, _, _, _, _ => none
  | k + 1, x1, x5, x6, x7, x8, x250000, x250001, x250002 => if x8 < x250001 then (if 0 ≤ (wrap64 ((wrap64 (x6 * x250001)) + x8)) then (if (wrap64 ((wrap64 (x6 * x250001)) + x8)) < (x250002.length : Int) then (spec_l04Times.l2 k x1 x5 x6 x7 x8 (rd x250002 (wrap64 ((wrap64 (x6 * x250001)) + x8))) 0 x250000 x250001 x250002) else (none)) else (none)) else (if x5.length < 8796093022208 then (spec_l04Times.l0 k x1 (x5 ++ [strOfNums x7]) (wrap64 (x6 + 1)) x250000 x250001 x250002) else (none))
def spec_l04Times.l2 : Nat → List ByteArray → List ByteArray → Int → List Int → Int → Int → Int → Int → Int → List Int → Option (List ByteArray)
  | 0, _, _, _, _, _, _, _, _, _, _ => none
  | k + 1, x1, x5, x6, x7, x8, x9, x10, x250000, x250001, x250002 => if x10 < (x7.length : Int) then (if x9 = 0 then (spec_l04Times.l1 k x1 x5 x6 x7 (wrap64 (x8 + 1)) x250000 x250001 x250002) else (if 0 ≤ x10 then (if 0 ≤ x8 then (if x8 < (x1.length : Int) then (if x10 < ((rdOf ByteArray.empty x1 x8).size : Int) then ((spec_l02Mul.f k (wrap64 (bt (rdOf ByteArray.empty x1 x8) x10)) x9).bind fun t263 => (spec_l04Times.l2 k x1 x5 x6 (x7.set (x10 : Int).toNat (Go.bits .xor .u8 (rd x7 x10) ((t263) % 256))) x8 x9 (wrap64 (x10 + 1)) x250000 x250001 x250002)) else (none)) else (none)) else (none)) else (none))) else (spec_l04Times.l1 k x1 x5 x6 x7 (wrap64 (x8 + 1)) x250000 x250001 x250002)
end
def spec_l04Times.f (k : Nat) (a0_0 : Int) (a0_1 : Int) (l0_2 : List Int) (l1 : List ByteArray) : Option (List ByteArray) := spec_l04Times.l0 k l1 (([] : List ByteArray)) 0 a0_0 a0_1 l0_2
def spec_l04Times.T13 : Bool × List (List Nat × List Nat) := (true, [([], []), ([], []), ([], []), ([], []), ([2, 3], [2, 3]), ([4], [4]), ([], []), ([], []), ([6, 7], [6, 7]), ([8], [8]), ([], []), ([9, 10], [9, 10]), ([11], [11]), ([], []), ([12, 13], [12, 13]), ([14], [14]), ([5, 15], [5, 15]), ([0, 1, 0, 1, 2, 3, 4, 5, 6, 7, 8, 9, 10, 11, 12, 13, 14, 15, 16], [0, 1]), ([17, 16, 14, 0, 1, 2, 3, 4, 5, 6, 7, 8, 9, 10, 11, 12, 13, 14, 15, 16], [16, 17])])
def spec_l04Times.B13 : List Nat := [0, 0, 0, 0, 12, 28, 0, 0, 192, 448, 0, 1984, 4032, 0, 16320, 32704, 65532, 131071, 262143]
theorem spec_l04Times.tab13 : rtab .any (opsOf Try.f89 13) = spec_l04Times.T13 := by kernel_rfl
theorem spec_l04Times.bits13 : waitsOk spec_l04Times.T13.2 spec_l04Times.B13 = true := by kernel_rfl
set_option maxHeartbeats 8000000 in
set_option maxRecDepth 100000 in
theorem spec_l04Times.calls (k : Nat) (a0_0 : Int) (a0_1 : Int) (A0_2 : Option Addr) (c0_2 : Nat) (l0_2 : List Int) (A1 : Option Addr) (c1 : Nat) (l1 : List ByteArray) (r : List ByteArray) (w : World) (hr0_2 : Kd.C (Kd.int .i64) w A0_2 l0_2.length l0_2) (hc0_2 : l0_2.length ≤ c0_2) (hr1 : Kd.C Kd.string w A1 l1.length l1) (hc1 : l1.length ≤ c1) (h : spec_l04Times.f k a0_0 a0_1 l0_2 l1 = some r) :
  Calls Try.prog 89 #[.agg #[.int .i64 a0_0, .int .i64 a0_1, .slice A0_2 l0_2.length c0_2], .slice A1 l1.length c1] w fun e w' => ∃ v0_ : Value, e = .returned (v0_) ∧ Kd.R Kd.string 9 w' w.heap.size (fun _ => True) v0_ r ∧ Below w.heap.size w w' := by
 have hu27 := Try.underlying27
 have HR0_2 := Aside0.mk hr0_2
 have HC0_2 := Aside0.mk hc0_2
 clear hr0_2 hc0_2
 have HR1 := Aside0.mk hr1
 have HC1 := Aside0.mk hc1
 clear hr1 hc1
 have HB := Aside0.mk (Below.refl w.heap.size w)
 have H : (spec_l04Times.l0 k l1 (([] : List ByteArray)) 0 a0_0 a0_1 l0_2) = some r := h
 clear h
 obtain ⟨y250, hy250⟩ : ∃ y_ : List ByteArray, y_ = (([] : List ByteArray)) := ⟨_, rfl⟩
 replace H : (spec_l04Times.l0 k l1 y250 0 a0_0 a0_1 l0_2) = some r := by first | (rw [hy250]; with_reducible exact H) | (have H2_ := (Option.bind_some _ _).symm.trans H; rw [hy250]; with_reducible exact H2_) | (have H2_ := (Option.bind_some _ _).symm.trans H; with_reducible exact H2_) | with_reducible exact H | (rw [hy250]; exact H) | exact H
 have Ny250 := Aside0.mk hy250
 clear hy250
 have H' := Aside0.mk H
 clear H
 go_enter Try.func89, Try.ntmps89
 go_wp2_with (first | ((with_reducible refine gate_dst (N := 2) rfl ?_); refine box_event ?hg (N := 2) ?hd (cs := #[.int .i64 a0_0, .int .i64 a0_1, .slice A0_2 l0_2.length c0_2]) (t := 27) ?hr ?_; (case hd => rfl); (case hg => rfl); (case hr => first | (go_simp; done) | (go_simp; rfl)); intro gb249 hg w3 hbox hb; have n_ := Cy.a4 (below_step (Cz.w HB.out) hb) hbox (Cy.gw hg HB.out) (Cy.gw hg HB.out); clear HB; obtain ⟨HB, BK249, GW249, GE249⟩ := n_; clear hb hbox hg) | ((with_reducible refine gate_dst (N := 11) rfl ?_); refine Kd.R_lit Kd.string _ 9 ?hg (N := 11) ?hd (xs := ([] : List ByteArray)) (inner := []) (ok := fun _ => True) (okp := fun _ => True) ?hr ?hp (fun _ hk => hk) trivial (Below.refl _ _) (Nat.le_refl _) (by simp) ?_; (case hd => rfl); (case hg => rfl); (case hr => first | (go_simp; done) | (go_simp; rfl)); (case hp => exact (Reps.none _ _)); intro v251 w4 ho5 hb hg_ hnew_; clear hg_ hnew_; (first | rw [← Ny250.out] at ho5 | (simp only [Int.reduceToNat] at ho5; rw [← Ny250.out] at ho5)); have n_ := Cy.a3 (Kd.R_lower ho5 (below_size (Cz.w HB.out))) (blk_below (g := gb249) (o := .cells #[.int .i64 a0_0, .int .i64 a0_1, .slice A0_2 l0_2.length c0_2] 27 (0, 0)) (Cz.b BK249.out) hb) (below_step (Cz.w HB.out) hb); clear BK249 HB; obtain ⟨HO252, BK249, HB⟩ := n_; clear hb ho5))
 go_loopg [5, 6] k (fun kq v5 v6 w' => ∃ (x5_1 : List ByteArray) (x6_1 : Int), v6 = .int .i64 x6_1 ∧ Aside0 (spec_l04Times.l0 kq l1 x5_1 x6_1 a0_0 a0_1 l0_2 = some r) ∧ Aside0 (kq ≤ k) ∧ Aside0 (Kd.R Kd.string 9 w' w.heap.size (fun _ => True) v5 x5_1) ∧ Aside0 (w'.heap[gb249]? = some (.cells #[.int .i64 a0_0, .int .i64 a0_1, (.slice A0_2 l0_2.length c0_2)] 27 (0, 0))) ∧ Aside0 (Below w.heap.size w w'))
 case atStart => exact ⟨(y250), (0), (by first | rfl | (simp; done) | (simp [*]; done)), H', ⟨Nat.le_refl _⟩, ⟨Cz.r HO252.out⟩, ⟨Cz.b BK249.out⟩, ⟨Cz.w HB.out⟩⟩
 case round =>
  clear H'
  try clear c1
  try clear p2
  obtain ⟨x5_1, x6_1, rfl, HA, HK1, HO_5, BK249, HB⟩ := hrel
  cases gk with
  | zero => exact absurd HA.out (by simp [spec_l04Times.l0])
  | succ k1 =>
   have H := HA.out
   clear HA
   simp only [spec_l04Times.l0] at H
   by_cases c6 : x6_1 < a0_0
   ·rw [if_pos c6] at H
    have c6b0 : decide (x6_1 < a0_0) = true := decide_eq_true c6
    clear c6
    by_cases c7 : 0 < (l1.length : Int)
    ·rw [if_pos c7] at H
     have c7b0 : decide (0 < (l1.length : Int)) = true := decide_eq_true c7
     have c7b1 : decide (0 < l1.length) = true := decide_eq_true (by omega)
     clear c7
     by_cases c8 : 0 ≤ ((rdOf ByteArray.empty l1 0).size : Int)
     ·rw [if_pos c8] at H
      have c8b0 := eq_true c8
      have c8b1 : decide (0 ≤ ((rdOf ByteArray.empty l1 0).size : Int)) = true := decide_eq_true c8
      clear c8
      by_cases c9 : (((rdOf ByteArray.empty l1 0).size : Int) : Int).toNat ≤ 281474976710656
      ·rw [if_pos c9] at H
       have c9b0 := eq_true c9
       have c9b1 : decide ((((rdOf ByteArray.empty l1 0).size : Int) : Int).toNat ≤ 281474976710656) = true := decide_eq_true c9
       clear c9
       obtain ⟨y254, hy254⟩ : ∃ y_ : List Int, y_ = (List.replicate (((rdOf ByteArray.empty l1 0).size : Int) : Int).toNat 0) := ⟨_, rfl⟩
       replace H : (spec_l04Times.l1 k1 l1 x5_1 x6_1 y254 0 a0_0 a0_1 l0_2) = some r := by first | (rw [hy254]; with_reducible exact H) | (have H2_ := (Option.bind_some _ _).symm.trans H; rw [hy254]; with_reducible exact H2_) | (have H2_ := (Option.bind_some _ _).symm.trans H; with_reducible exact H2_) | with_reducible exact H | (rw [hy254]; exact H) | exact H
       have Ny254 := Aside0.mk hy254
       clear hy254
       have H' := Aside0.mk H
       clear H
       obtain ⟨hcz10_0, hcz10_1, hcz10_2, hfz10_0, hfz10_1, hfz10_2⟩ := Cy.z3 BK249.out
       have p253 : 0 ≤ (0 : Int) := (by omega)
       have q253 : 0 < (l1.length : Int) := of_decide_eq_true (by first | (with_reducible assumption) | assumption)
       obtain ⟨ad253, e253, hx253_0⟩ := Kd.at_string HR1.out 0 p253 q253
       cases e253
       have qi253 : (0 < l1.length) = True := eq_true (by omega)
       (try rw [show ((0 : Int)).toNat = 0 from rfl] at hx253_0)
       (try rw [Addr.add_zero'] at hx253_0)
       replace hx253_0 := (HB.out.cell (World.block_lt_of_cell? w _ hx253_0)).trans hx253_0
       replace p253 := eq_true p253
       replace q253 := eq_true q253
       go_wp2_with (first | ((with_reducible refine gate_dst (N := 22) rfl ?_); refine Kd.R_make (Kd.int .u8) _ 5 rfl (N := 22) rfl 31 _ _ rfl ((rdOf ByteArray.empty l1 0).size : Int) rfl rfl Try.underlying31 (.int .u8 0) 1 info5 rfl (by decide) (by omega) 0 (ok := fun _ => True) (okp := fun _ => True) rfl (fun _ hk => hk) trivial (of_decide_eq_true (by first | (with_reducible assumption) | assumption)) (Nat.le_trans (Nat.mul_le_mul_right _ (of_decide_eq_true (by first | (with_reducible assumption) | assumption) : ((rdOf ByteArray.empty l1 0).size : Int).toNat ≤ 281474976710656)) (by omega)) (Below.refl _ _) (Nat.le_refl _) ?_; intro v255 w11 ho12 hb hg_ hnew_; clear hg_ hnew_; (first | rw [← Ny254.out] at ho12 | (simp only [Int.reduceToNat] at ho12; rw [← Ny254.out] at ho12)); have n_ := Cy.a4 (Kd.R_below (Cz.r HO_5.out) hb) (Kd.R_lower ho12 (below_size (Cz.w HB.out))) (blk_below (g := gb249) (o := .cells #[.int .i64 a0_0, .int .i64 a0_1, .slice A0_2 l0_2.length c0_2] 27 (0, 0)) (Cz.b BK249.out) hb) (below_step (Cz.w HB.out) hb); clear HO_5 BK249 HB; obtain ⟨HO_5, HO256, BK249, HB⟩ := n_; clear hb ho12))
       go_loopg [8] k1 (fun kq v8 w' => ∃ (x7_2 : List Int) (x8_2 : Int), v8 = .int .i64 x8_2 ∧ Aside0 (spec_l04Times.l1 kq l1 x5_1 x6_1 x7_2 x8_2 a0_0 a0_1 l0_2 = some r) ∧ Aside0 (kq ≤ k1) ∧ Aside0 (Kd.R Kd.string 9 w' w.heap.size (fun _ => True) u5 x5_1) ∧ Aside0 (Kd.R (Kd.int .u8) 5 w' w.heap.size (fun _ => True) v255 x7_2) ∧ Aside0 (w'.heap[gb249]? = some (.cells #[.int .i64 a0_0, .int .i64 a0_1, (.slice A0_2 l0_2.length c0_2)] 27 (0, 0))) ∧ Aside0 (Below w.heap.size w w'))
       case atStart => exact ⟨(y254), (0), (by first | rfl | (simp; done) | (simp [*]; done)), H', ⟨Nat.le_refl _⟩, ⟨Cz.r HO_5.out⟩, ⟨Cz.r HO256.out⟩, ⟨Cz.b BK249.out⟩, ⟨Cz.w HB.out⟩⟩
       case round =>
        clear H'
        try clear c1
        try clear p2
        try clear q2
        try clear hx2
        try clear qi2
        try clear c6
        try clear c6b0
        try clear c7
        try clear c7b0
        try clear c7b1
        try clear c8
        try clear c8b0
        try clear c8b1
        try clear c9
        try clear c9b0
        try clear c9b1
        try clear hcz10_0
        try clear hcz10_1
        try clear hcz10_2
        try clear hfz10_0
        try clear hfz10_1
        try clear hfz10_2
        try clear hx253_0
        try clear p2
        try clear p253
        try clear q253
        obtain ⟨x7_2, x8_2, rfl, HA, HK2, HO_5, HO_7, BK249, HB⟩ := hrel
        cases gk with
        | zero => exact absurd HA.out (by simp [spec_l04Times.l1])
        | succ k2 =>
         have H := HA.out
         clear HA
         simp only [spec_l04Times.l1] at H
         by_cases c13 : x8_2 < a0_1
         ·rw [if_pos c13] at H
          have c13b0 : decide (x8_2 < a0_1) = true := decide_eq_true c13
          clear c13
          obtain ⟨ji14, hji14⟩ : ∃ j_ : Int, (wrap64 ((wrap64 (x6_1 * a0_1)) + x8_2)) = j_ := ⟨_, rfl⟩
          replace H : (if 0 ≤ (ji14) then (if (ji14) < (l0_2.length : Int) then (spec_l04Times.l2 k2 l1 x5_1 x6_1 x7_2 x8_2 (rd l0_2 (ji14)) 0 a0_0 a0_1 l0_2) else (none)) else (none)) = some r := by first | (rw [hji14] at H; exact H) | (simp only [hji14] at H ⊢; exact H)
          have hji14w : (IntKind.i64.wrap ((wrap64 (x6_1 * a0_1)) + x8_2)) = ji14 := (i64_w _).trans hji14
          by_cases c15 : 0 ≤ (ji14)
          ·rw [if_pos c15] at H
           have c15b0 : decide (0 ≤ (ji14)) = true := decide_eq_true c15
           clear c15
           by_cases c16 : (ji14) < (l0_2.length : Int)
           ·rw [if_pos c16] at H
            have c16b0 : decide ((ji14) < (l0_2.length : Int)) = true := decide_eq_true c16
            clear c16
            have H' := Aside0.mk H
            clear H
            obtain ⟨hcz17_0, hcz17_1, hcz17_2, hfz17_0, hfz17_1, hfz17_2⟩ := Cy.z3 BK249.out
            have p260 : 0 ≤ ((ji14) : Int) := of_decide_eq_true (by first | (with_reducible assumption) | assumption)
            have q260 : (ji14) < (l0_2.length : Int) := of_decide_eq_true (by first | (with_reducible assumption) | assumption)
            obtain ⟨ad260, e260, hx260_0⟩ := Kd.at_int HR0_2.out (ji14) p260 q260
            cases e260
            replace hx260_0 := (HB.out.cell (World.block_lt_of_cell? w _ hx260_0)).trans hx260_0
            replace p260 := eq_true p260
            replace q260 := eq_true q260
            go_wp2
            go_loopg [10] k2 (fun kq v10 w' => ∃ (x7_3 : List Int) (x10_3 : Int), v10 = .int .i64 x10_3 ∧ Aside0 (spec_l04Times.l2 kq l1 x5_1 x6_1 x7_3 x8_2 (rd l0_2 (ji14)) x10_3 a0_0 a0_1 l0_2 = some r) ∧ Aside0 (kq ≤ k2) ∧ Aside0 (Kd.R Kd.string 9 w' w.heap.size (fun _ => True) u5 x5_1) ∧ Aside0 (Kd.R (Kd.int .u8) 5 w' w.heap.size (fun _ => True) v255 x7_3) ∧ Aside0 (w'.heap[gb249]? = some (.cells #[.int .i64 a0_0, .int .i64 a0_1, (.slice (some ad260) l0_2.length c0_2)] 27 (0, 0))) ∧ Aside0 (Below w.heap.size w w'))
            case atStart => exact ⟨(x7_2), (0), (by first | rfl | (simp; done) | (simp [*]; done)), H', ⟨Nat.le_refl _⟩, ⟨Cz.r HO_5.out⟩, ⟨Cz.r HO_7.out⟩, ⟨Cz.b BK249.out⟩, ⟨Cz.w HB.out⟩⟩
            case round =>
             clear H'
             try clear c1
             try clear p2
             try clear q2
             try clear hx2
             try clear qi2
             try clear c6
             try clear c6b0
             try clear p6
             try clear c7
             try clear c7b0
             try clear c7b1
             try clear c8
             try clear c8b0
             try clear c8b1
             try clear c9
             try clear c9b0
             try clear c9b1
             try clear c13
             try clear c13b0
             try clear c15
             try clear c15b0
             try clear c16
             try clear c16b0
             try clear hcz10_0
             try clear hcz10_1
             try clear hcz10_2
             try clear hcz17_0
             try clear hcz17_1
             try clear hcz17_2
             try clear hfz10_0
             try clear hfz10_1
             try clear hfz10_2
             try clear hfz17_0
             try clear hfz17_1
             try clear hfz17_2
             try clear hx253_0
             try clear hx260_0
             try clear p2
             try clear p253
             try clear p260
             try clear q2
             try clear q253
             try clear q260
             obtain ⟨x7_3, x10_3, rfl, HA, HK3, HO_5, HO_7, BK249, HB⟩ := hrel
             cases gk with
             | zero => exact absurd HA.out (by simp [spec_l04Times.l2])
             | succ k3 =>
              have H := HA.out
              clear HA
              simp only [spec_l04Times.l2] at H
              by_cases c18 : x10_3 < (x7_3.length : Int)
              ·rw [if_pos c18] at H
               have c18b0 : decide (x10_3 < (x7_3.length : Int)) = true := decide_eq_true c18
               clear c18
               by_cases c19 : (rd l0_2 (ji14)) = 0
               ·rw [if_pos c19] at H
                have c19b0 : ((rd l0_2 (ji14)) == 0) = true := beq_iff_eq.mpr c19
                have c19b1 : ((rd l0_2 (ji14)) != 0) = false := bne_eq_false_iff_eq.mpr c19
                clear c19
                have H' := Aside0.mk H
                clear H
                obtain ⟨Ao20, co20, eo20⟩ := Kd.R_slice HO_7.out
                subst eo20
                go_wp2
                go_roundg k3
                case measure => have := HK1.out; have := HK2.out; have := HK3.out; omega
                case rel => exact ⟨(x7_3), (wrap64 (x8_2 + 1)), (by first | rfl | (simp; done) | (simp [*]; done)), H', ⟨by have := HK1.out; have := HK2.out; have := HK3.out; omega⟩, ⟨Cz.r HO_5.out⟩, ⟨Cz.r HO_7.out⟩, ⟨Cz.b BK249.out⟩, ⟨Cz.w HB.out⟩⟩
               ·rw [if_neg c19] at H
                have c19b0 : ((rd l0_2 (ji14)) == 0) = false := beq_eq_false_iff_ne.mpr c19
                have c19b1 : ((rd l0_2 (ji14)) != 0) = true := bne_iff_ne.mpr c19
                by_cases c21 : 0 ≤ x10_3
                ·rw [if_pos c21] at H
                 have c21b0 : decide (0 ≤ x10_3) = true := decide_eq_true c21
                 clear c21
                 by_cases c22 : 0 ≤ x8_2
                 ·rw [if_pos c22] at H
                  have c22b0 : decide (0 ≤ x8_2) = true := decide_eq_true c22
                  clear c22
                  by_cases c23 : x8_2 < (l1.length : Int)
                  ·rw [if_pos c23] at H
                   have c23b0 : decide (x8_2 < (l1.length : Int)) = true := decide_eq_true c23
                   clear c23
                   by_cases c24 : x10_3 < ((rdOf ByteArray.empty l1 x8_2).size : Int)
                   ·rw [if_pos c24] at H
                    have c24b0 : decide (x10_3 < ((rdOf ByteArray.empty l1 x8_2).size : Int)) = true := decide_eq_true c24
                    clear c24
                    replace H := Option.bind_eq_some_iff.mp H
                    obtain ⟨t263, A260, H⟩ := H
                    replace H : (spec_l04Times.l2 k3 l1 x5_1 x6_1 (x7_3.set (x10_3 : Int).toNat (Go.bits .xor .u8 (rd x7_3 x10_3) ((t263) % 256))) x8_2 (rd l0_2 (ji14)) (wrap64 (x10_3 + 1)) a0_0 a0_1 l0_2) = some r := H
                    have A26 := Aside0.mk A260
                    clear A260
                    obtain ⟨y264, hy264⟩ : ∃ y_ : List Int, y_ = (x7_3.set (x10_3 : Int).toNat (Go.bits .xor .u8 (rd x7_3 x10_3) ((t263) % 256))) := ⟨_, rfl⟩
                    replace H : (spec_l04Times.l2 k3 l1 x5_1 x6_1 y264 x8_2 (rd l0_2 (ji14)) (wrap64 (x10_3 + 1)) a0_0 a0_1 l0_2) = some r := by first | (rw [hy264]; with_reducible exact H) | (have H2_ := (Option.bind_some _ _).symm.trans H; rw [hy264]; with_reducible exact H2_) | (have H2_ := (Option.bind_some _ _).symm.trans H; with_reducible exact H2_) | with_reducible exact H | (rw [hy264]; exact H) | exact H
                    have Ny264 := Aside0.mk hy264
                    clear hy264
                    have H' := Aside0.mk H
                    clear H
                    obtain ⟨Ao28, co28, eo28⟩ := Kd.R_slice HO_7.out
                    subst eo28
                    try go_wp2
                    have n_ := Cy.a4 (Kd.R_drew HO_5.out) (Kd.R_drew HO_7.out) (blk_drew BK249.out) (below_drew1 HB.out)
                    clear HO_5 HO_7 BK249 HB
                    obtain ⟨HO_5, HO_7, BK249, HB⟩ := n_
                    have p261 : 0 ≤ (x10_3 : Int) := of_decide_eq_true (by first | (with_reducible assumption) | assumption)
                    have q261 : x10_3 < (x7_3.length : Int) := of_decide_eq_true (by first | (with_reducible assumption) | assumption)
                    obtain ⟨ad261, e261, hx261_0⟩ := Kd.at_int (Kd.R_reads' HO_7.out).2.2 x10_3 p261 q261
                    cases e261
                    replace p261 := eq_true p261
                    replace q261 := eq_true q261
                    have p262 : 0 ≤ (x8_2 : Int) := of_decide_eq_true (by first | (with_reducible assumption) | assumption)
                    have q262 : x8_2 < (l1.length : Int) := of_decide_eq_true (by first | (with_reducible assumption) | assumption)
                    obtain ⟨ad262, e262, hx262_0⟩ := Kd.at_string HR1.out x8_2 p262 q262
                    have hw262_0 := hx262_0
                    obtain rfl : ad253 = ad262 := (by injection e262)
                    replace hx262_0 := (HB.out.cell (World.block_lt_of_cell? w _ hx262_0)).trans hx262_0
                    replace p262 := eq_true p262
                    replace q262 := eq_true q262
                    have p25 : 0 ≤ (x10_3 : Int) := of_decide_eq_true (by first | (with_reducible assumption) | assumption)
                    have q25 : x10_3 < ((rdOf ByteArray.empty l1 x8_2).size : Int) := of_decide_eq_true (by first | (with_reducible assumption) | assumption)
                    have hx25 := bt_at (rdOf ByteArray.empty l1 x8_2) x10_3
                    replace p25 := eq_true p25
                    replace q25 := eq_true q25
                    refine start_ (n := 19) (S := fun w' => w'.cell? (ad261.add (x10_3).toNat) = some (.int .u8 (rd x7_3 x10_3)) ∧ w'.cell? (ad253.add (x8_2).toNat) = some (.string (rdOf ByteArray.empty l1 x8_2))) (ds := [18]) #[false, false, false, false, false, false, false, false, false, false, false, false, false, false, false, false, false, false, false] (by kernel_rfl) rfl rfl ⟨hx261_0, ((HB.out.cell (World.block_lt_of_cell? w _ hw262_0)).trans hw262_0)⟩ (fun hHeld => ?_); refine with_tabW spec_l04Times.tab13 spec_l04Times.bits13 (fun HT_ HW_ => ?_)
                    generalize wr.drew = w29 at HO_5 HO_7 BK249 HB hx261_0 hx262_0 hHeld ⊢
                    refine Cy.pu 0 49 HT_ ?_
                    refine Cy.pu 1 50 HT_ ?_
                    refine Cy.pu 2 51 HT_ ?_
                    refine Cy.pu 3 52 HT_ ?_
                    refine Cy.pu 4 53 HT_ ?_
                    refine Cy.pu 6 55 HT_ ?_
                    refine Cy.pu 7 56 HT_ ?_
                    refine Cy.pu 8 57 HT_ ?_
                    refine Cy.pu 10 59 HT_ ?_
                    refine Cy.pu 13 62 HT_ ?_
                    refine Cy.tk 5 54 HT_ HW_ hHeld ?_
                    refine Cy.tk 9 58 HT_ HW_ hHeld ?_
                    refine Cy.tk 11 60 HT_ HW_ hHeld ?_
                    refine Cy.pu 12 61 HT_ ?_
                    refine one_ (i := 14) (N := some 63) #[true, true, true, true, true, true, true, true, true, true, true, true, true, true, true, false, false, false, false] rfl rfl (one_of HT_.out (by kernel_rfl)) (by decide) (fun K hK => ?_)
                    refine goes_ Try.func86 (by kernel_rfl) rfl #[.int .i64 (wrap64 (bt (rdOf ByteArray.empty l1 x8_2) x10_3)), .int .i64 (rd l0_2 (ji14))] (by rfl) rfl rfl (by (try simp only [List.map_toArray, List.map_cons, List.map_nil]); first | done | (simp only [hji14]; rfl) | rfl | (simp only [List.length_drop, List.length_take]; rfl)) ?_
                    with_reducible refine (spec_l02Mul.calls k3 (wrap64 (bt (rdOf ByteArray.empty l1 x8_2) x10_3)) (rd l0_2 (ji14)) t263 _ A26.out).mono ?_
                    rintro e w' ⟨rfl, ⟨nd, rfl⟩⟩
                    refine ⟨_, rfl, ?_⟩
                    have p27 : 0 ≤ (x10_3 : Int) := of_decide_eq_true (by first | (with_reducible assumption) | assumption)
                    have q27 : (x10_3 : Int) < ((x7_3.length : Int) : Int) := of_decide_eq_true (by first | (with_reducible assumption) | assumption)
                    obtain ⟨go27, co27, eo27, gb27, gl27, cl27, HG27⟩ := Kd.R_form HO_7.out (by omega)
                    (first | cases eo27 | (injection eo27 with ea_ en_ ec_; (first | subst ea_ | (injection ea_ with ea_; subst ea_)); subst ec_; clear en_))
                    have GB27 := Aside0.mk gb27
                    have GG27 := Aside0.mk HG27
                    clear gb27 gl27 HG27
                    (first | simp only [add_plain] at hx261_0 | skip)
                    obtain ⟨hx27_0, hf27_0⟩ := Kd.R_celln 0 HO_7.out (x10_3 : Int) p27 q27
                    replace p27 := eq_true p27
                    replace q27 := eq_true q27
                    have HP30 := Kd.R_putn HO_7.out (x10_3 : Int) (Go.bits .xor .u8 (rd x7_3 x10_3) ((t263) % 256))
                    rw [← Ny264.out] at HP30
                    have HQ30 := Aside0.mk HP30
                    clear HP30
                    refine hK.out _ _ ⟨hHeld.1, ((HB.out.cell (World.block_lt_of_cell? w _ hw262_0)).trans hw262_0)⟩ (fun hHeld => ?_)
                    clear hK K
                    refine norm_ (a' := ?_) ?_ ?_
                    rotate_left
                    ·show Act.put _ (some 63) _ = _
                     simp only [Act.put, List.setIfInBounds_toArray, List.set_cons_zero, List.set_cons_succ, i64_w, i32_w]
                     rfl
                    refine Cy.pu 15 64 HT_ ?_
                    refine Cy.pu 16 65 HT_ ?_
                    refine Cy.pu 17 66 HT_ ?_
                    refine last_ (i := 18) (N := none) #[true, true, true, true, true, true, true, true, true, true, true, true, true, true, true, true, true, true, true] rfl rfl (one_of HT_.out (by kernel_rfl)) (by decide) (fun K hK => ?_)
                    refine skip_ (w1 := ?_) (by rfl) rfl ?_ ?_
                    rotate_left
                    ·go_simp
                     rfl
                    refine hK.out _ _ ?_
                    clear hK K
                    refine done_ (done_of HT_.out (by kernel_rfl)) ?_
                    try go_wp2
                    go_roundg k3
                    case measure => have := HK1.out; have := HK2.out; have := HK3.out; omega
                    case rel => exact ⟨(y264), (wrap64 (x10_3 + 1)), (by first | rfl | (simp; done) | (simp [*]; done)), H', ⟨by have := HK1.out; have := HK2.out; have := HK3.out; omega⟩, ⟨by (with_reducible repeat (first | apply Kd.R_alloc | apply Kd.R_drewN | apply Kd.R_drew)); exact Kd.R_mono (Kd.R_far (p := ⟨go27, (x10_3 : Int).toNat, none⟩) (Kd.R_types HO_5.out GG27.out (by decide)) (fun _ hk => hk.2) (.int .u8 (Go.bits .xor .u8 (rd x7_3 x10_3) ((t263) % 256)))) (fun _ hk => trivial)⟩, ⟨by (with_reducible repeat (first | apply Kd.R_alloc | apply Kd.R_drewN | apply Kd.R_drew)); exact HQ30.out⟩, ⟨by (with_reducible repeat (first | refine blk_drewN ?_ _ | refine blk_drew ?_ | refine blk_alloc ?_ _)); refine blk_far ?_ (by have h_ := Kd.R_ne HO_7.out BK249.out (by decide); intro e_; exact h_ (by rw [e_]; rfl)) _; (with_reducible repeat (first | refine blk_drewN ?_ _ | refine blk_drew ?_ | refine blk_alloc ?_ _)); exact BK249.out⟩, ⟨by repeat (first | (with_reducible first | exact HB.out | apply below_alloc | apply pw_below_drewN | apply below_drew1 | refine below_set ?_ GB27.out | refine below_set ?_ GE249.out) | exact HB.out)⟩⟩
                   ·rw [if_neg c24] at H
                    exact absurd H (by simp)
                  ·rw [if_neg c23] at H
                   exact absurd H (by simp)
                 ·rw [if_neg c22] at H
                  exact absurd H (by simp)
                ·rw [if_neg c21] at H
                 exact absurd H (by simp)
              ·rw [if_neg c18] at H
               have c18b0 : decide (x10_3 < (x7_3.length : Int)) = false := decide_eq_false c18
               clear c18
               have H' := Aside0.mk H
               clear H
               obtain ⟨Ao31, co31, eo31⟩ := Kd.R_slice HO_7.out
               subst eo31
               go_wp2
               go_roundg k3
               case measure => have := HK1.out; have := HK2.out; have := HK3.out; omega
               case rel => exact ⟨(x7_3), (wrap64 (x8_2 + 1)), (by first | rfl | (simp; done) | (simp [*]; done)), H', ⟨by have := HK1.out; have := HK2.out; have := HK3.out; omega⟩, ⟨Cz.r HO_5.out⟩, ⟨Cz.r HO_7.out⟩, ⟨Cz.b BK249.out⟩, ⟨Cz.w HB.out⟩⟩
           ·rw [if_neg c16] at H
            exact absurd H (by simp)
          ·rw [if_neg c15] at H
           exact absurd H (by simp)
         ·rw [if_neg c13] at H
          have c13b0 : decide (x8_2 < a0_1) = false := decide_eq_false c13
          clear c13
          by_cases c32 : x5_1.length < 8796093022208
          ·rw [if_pos c32] at H
           have LMc32 := Aside0.mk c32
           clear c32
           obtain ⟨y257, hy257⟩ : ∃ y_ : List ByteArray, y_ = (x5_1 ++ [strOfNums x7_2]) := ⟨_, rfl⟩
           replace H : (spec_l04Times.l0 k2 l1 y257 (wrap64 (x6_1 + 1)) a0_0 a0_1 l0_2) = some r := by first | (rw [hy257]; with_reducible exact H) | (have H2_ := (Option.bind_some _ _).symm.trans H; rw [hy257]; with_reducible exact H2_) | (have H2_ := (Option.bind_some _ _).symm.trans H; with_reducible exact H2_) | with_reducible exact H | (rw [hy257]; exact H) | exact H
           have Ny257 := Aside0.mk hy257
           clear hy257
           have H' := Aside0.mk H
           clear H
           obtain ⟨hcz33_0, hcz33_1, hcz33_2, hfz33_0, hfz33_1, hfz33_2⟩ := Cy.z3 BK249.out
           have hcv34 := own_string (P := Try.prog) Try.underlying31 Try.underlying5 Try.underlying9 (Kd.own_of_R HO_7.out)
           go_wp2_with (first | ((with_reducible refine gate_builtin (b := .append) (xs := #[.tmp 67, .tmp 70]) rfl ?_); at_builtin; refine Kd.R_append Kd.string (w0 := w) w.heap.size rfl (.tmp 67) (.tmp 70) 52 9 (.string ⟨#[]⟩) 16 rfl Try.underlying52 info9 rfl (by decide) (by omega) u5 x5_1 (strOfNums x7_2) [.string (strOfNums x7_2)] (fun _ => True) (fun _ => False) rfl rfl ?aP (fun _ hk => hk.elim) ?aF ?aO ?aB ?aS ?aL ?_; (case aP => exact rfl); (case aB => exact (Cz.w HB.out)); (case aF => exact (fun _ _ => trivial)); (case aO => exact (Cz.r HO_5.out)); (case aS => exact (below_size (Cz.w HB.out))); (case aL => have := LMc32.out; omega); intro v258 w35 ho hb hg hat; rw [← Ny257.out] at ho; have n_ := Cy.a4 (Kd.R_over' (Cz.r HO_7.out) (Kd.R_typed (Cz.r HO_5.out)) (by decide) hg) (blk_grown (g := gb249) (o := .cells #[.int .i64 a0_0, .int .i64 a0_1, .slice A0_2 l0_2.length c0_2] 27 (0, 0)) (Cz.b BK249.out) hg (Kd.R_ne HO_5.out BK249.out (by decide))) hb ho; clear HO_7 BK249 HB HO_5; obtain ⟨HO_7, BK249, HB, HO259⟩ := n_; clear ho hb hg hat))
           go_roundg k2
           case measure => have := HK1.out; have := HK2.out; omega
           case rel => exact ⟨(y257), (wrap64 (x6_1 + 1)), (by first | rfl | (simp; done) | (simp [*]; done)), H', ⟨by have := HK1.out; have := HK2.out; omega⟩, ⟨Cz.r HO259.out⟩, ⟨Cz.b BK249.out⟩, ⟨Cz.w HB.out⟩⟩
          ·rw [if_neg c32] at H
           exact absurd H (by simp)
      ·rw [if_neg c9] at H
       exact absurd H (by simp)
     ·rw [if_neg c8] at H
      exact absurd H (by simp)
    ·rw [if_neg c7] at H
     exact absurd H (by simp)
   ·rw [if_neg c6] at H
    have c6b0 : decide (x6_1 < a0_0) = false := decide_eq_false c6
    clear c6
    obtain rfl := Option.some.inj H
    obtain ⟨hcz36_0, hcz36_1, hcz36_2, hfz36_0, hfz36_1, hfz36_2⟩ := Cy.z3 BK249.out
    go_wp2
    go_ret
    exact ⟨_, by first | rfl | (simp [errW_none, errW_some] <;> rfl) | (simp [*, errW_none, errW_some] <;> rfl), Cz.r HO_5.out, Cz.w HB.out⟩
end Go.Proofs.Ytlololbhlnapkaa.XFnExactDecode

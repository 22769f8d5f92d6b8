/- Plain functions of what the law reaches, proofs that the calls come to them, and the law's row: written by a program of this session (xprint.py) over the kit's print. No conditions beyond each lemma's own. -/
import Derived.Test.YtlololbhlnapkaaKyCy
import Derived.Test.YtlololbhlnapkaaKyXFnExactDecodex0
import Derived.Test.YtlololbhlnapkaaKyXFnExactDecodex10
namespace Go.Proofs.Ytlololbhlnapkaa.XFnExactDecode
open Go.RowKit Go.Proofs.YtlololbhlnapkaaW.PrintWords Go.Proofs.YtlololbhlnapkaaW.PrintLast Go.Proofs.YtlololbhlnapkaaW.PrintMore
attribute [local go_sem] max2_int min2_int max_two min_two max_three min_three max_four min_four   -- for this text's walks alone
set_option linter.unusedVariables false
set_option linter.unusedSimpArgs false
mutual
def impl_combined.l0 : Nat → List ByteArray → List ByteArray → Int → Int → Int → Int → List Int → Option (List ByteArray)
  | 0, _, _, _, _, _, _, _ => none
  | k + 1, x1, x5, x12, x13, x408000, x408001, x408002 => if x13 < x12 then (if 0 < (x1.length : Int) then (if 0 ≤ ((rdOf ByteArray.empty x1 0).size : Int) then (if (((rdOf ByteArray.empty x1 0).size : Int) : Int).toNat ≤ 281474976710656 then (if 0 ≤ (wrap64 (x13 * x408001)) then (if (wrap64 (x13 * x408001)) ≤ (wrap64 ((wrap64 (x13 + 1)) * x408001)) then (if (wrap64 ((wrap64 (x13 + 1)) * x408001)) ≤ (x408002.length : Int) then (impl_combined.l1 k x1 x5 (List.replicate (((rdOf ByteArray.empty x1 0).size : Int) : Int).toNat 0) x12 x13 ((x408002.take ((wrap64 ((wrap64 (x13 + 1)) * x408001)) : Int).toNat).drop ((wrap64 (x13 * x408001)) : Int).toNat) (((x408002.take ((wrap64 ((wrap64 (x13 + 1)) * x408001)) : Int).toNat).drop ((wrap64 (x13 * x408001)) : Int).toNat).length : Int) 0 x408000 x408001 x408002) else (none)) else (none)) else (none)) else (none)) else (none)) else (none)) else (some x5)
def impl_combined.l1 : Nat → List ByteArray → List ByteArray → List Int → Int → Int → List Int → Int → Int → Int → Int → List Int → Option (List ByteArray)
  | 0, _, _, _, _, _, _, _, _, _, _, _ => none
  | k + 1, x1, x5, x7, x12, x13, x23, x24, x25, x408000, x408001, x408002 => if x25 < x24 then (if 0 ≤ x25 then (if x25 < (x23.length : Int) then (if (rd x23 x25) = 0 then (impl_combined.l1 k x1 x5 x7 x12 x13 x23 x24 (wrap64 (x25 + 1)) x408000 x408001 x408002) else (impl_combined.l2 k x1 x5 x7 x25 (rd x23 x25) x12 x13 x23 x24 x25 (x7.length : Int) 0 x408000 x408001 x408002)) else (none)) else (none)) else (if x5.length < 8796093022208 then (impl_combined.l0 k x1 (x5 ++ [strOfNums x7]) x12 (wrap64 (x13 + 1)) x408000 x408001 x408002) else (none))
def impl_combined.l2 : Nat → List ByteArray → List ByteArray → List Int → Int → Int → Int → Int → List Int → Int → Int → Int → Int → Int → Int → List Int → Option (List ByteArray)
  | 0, _, _, _, _, _, _, _, _, _, _, _, _, _, _, _ => none
  | k + 1, x1, x5, x7, x8, x9, x12, x13, x23, x24, x25, x33, x34, x408000, x408001, x408002 => if x34 < x33 then (if 0 ≤ x34 then (if x34 < (x7.length : Int) then (if 0 ≤ x8 then (if x8 < (x1.length : Int) then (if x34 < ((rdOf ByteArray.empty x1 x8).size : Int) then ((impl_mul.f k x9 (wrap64 (bt (rdOf ByteArray.empty x1 x8) x34))).bind fun t419 => (impl_combined.l2 k x1 x5 (x7.set (x34 : Int).toNat (Go.bits .xor .u8 (rd x7 x34) ((t419) % 256))) x8 x9 x12 x13 x23 x24 x25 x33 (wrap64 (x34 + 1)) x408000 x408001 x408002)) else (none)) else (none)) else (none)) else (none)) else (none)) else (impl_combined.l1 k x1 x5 x7 x12 x13 x23 x24 (wrap64 (x25 + 1)) x408000 x408001 x408002)
end
def impl_combined.f (k : Nat) (a0_0 : Int) (a0_1 : Int) (l0_2 : List Int) (l1 : List ByteArray) : Option (List ByteArray) := impl_combined.l0 k l1 ([] : List ByteArray) a0_0 0 a0_0 a0_1 l0_2
def impl_combined.T13 : Bool × List (List Nat × List Nat) := (true, [([], []), ([], []), ([0, 1], [0, 1]), ([2], [2]), ([], []), ([], []), ([], []), ([5, 6], [5, 6]), ([7], [7]), ([], []), ([8, 9], [8, 9]), ([10], [10]), ([4, 11], [4, 11]), ([12], [12]), ([3, 13], [3, 13]), ([0, 1, 0, 1, 2, 3, 4, 5, 6, 7, 8, 9, 10, 11, 12, 13, 14], [0, 1]), ([15, 14, 12, 0, 1, 2, 3, 4, 5, 6, 7, 8, 9, 10, 11, 12, 13, 14], [14, 15])])
def impl_combined.B13 : List Nat := [0, 0, 3, 7, 0, 0, 0, 96, 224, 0, 992, 2016, 4080, 8176, 16383, 32767, 65535]
theorem impl_combined.tab13 : rtab .any (opsOf Try.f96 13) = impl_combined.T13 := by kernel_rfl
theorem impl_combined.bits13 : waitsOk impl_combined.T13.2 impl_combined.B13 = true := by kernel_rfl
set_option maxHeartbeats 8000000 in
set_option maxRecDepth 100000 in
theorem impl_combined.calls (k : Nat) (a0_0 : Int) (a0_1 : Int) (A0_2 : Option Addr) (c0_2 : Nat) (l0_2 : List Int) (A1 : Option Addr) (c1 : Nat) (l1 : List ByteArray) (r : List ByteArray) (w : World) (hr0_2 : Kd.C (Kd.int .i64) w A0_2 l0_2.length l0_2) (hc0_2 : l0_2.length ≤ c0_2) (hr1 : Kd.C Kd.string w A1 l1.length l1) (hc1 : l1.length ≤ c1) (h : impl_combined.f k a0_0 a0_1 l0_2 l1 = some r) :
  Calls Try.prog 96 #[.agg #[.int .i64 a0_0, .int .i64 a0_1, .slice A0_2 l0_2.length c0_2], .slice A1 l1.length c1] w fun e w' => ∃ v0_ : Value, e = .returned (v0_) ∧ Kd.R Kd.string 9 w' w.heap.size (fun _ => True) v0_ r ∧ Below w.heap.size w w' := by
 have hu27 := Try.underlying27
 have HR0_2 := Aside0.mk hr0_2
 have HC0_2 := Aside0.mk hc0_2
 clear hr0_2 hc0_2
 have HR1 := Aside0.mk hr1
 have HC1 := Aside0.mk hc1
 clear hr1 hc1
 have HB := Aside0.mk (Below.refl w.heap.size w)
 have H : (impl_combined.l0 k l1 ([] : List ByteArray) a0_0 0 a0_0 a0_1 l0_2) = some r := h
 clear h
 have H' := Aside0.mk H
 clear H
 go_enter Try.func96, Try.ntmps96
 go_wp2_with (first | ((with_reducible refine gate_dst (N := 2) rfl ?_); refine box_event ?hg (N := 2) ?hd (cs := #[.int .i64 a0_0, .int .i64 a0_1, .slice A0_2 l0_2.length c0_2]) (t := 27) ?hr ?_; (case hd => rfl); (case hg => rfl); (case hr => first | (go_simp; done) | (go_simp; rfl)); intro gb407 hg w3 hbox hb; have n_ := Cy.a4 (below_step (Cz.w HB.out) hb) hbox (Cy.gw hg HB.out) (Cy.gw hg HB.out); clear HB; obtain ⟨HB, BK407, GW407, GE407⟩ := n_; clear hb hbox hg; obtain ⟨hcz4_0, hcz4_1, hcz4_2, hfz4_0, hfz4_1, hfz4_2⟩ := Cy.z3 BK407.out))
 go_loopg [5, 13] k (fun kq v5 v13 w' => ∃ (x5_1 : List ByteArray) (x13_1 : Int), v13 = .int .i64 x13_1 ∧ Aside0 (impl_combined.l0 kq l1 x5_1 a0_0 x13_1 a0_0 a0_1 l0_2 = some r) ∧ Aside0 (kq ≤ k) ∧ Aside0 (Kd.R Kd.string 9 w' w.heap.size (fun _ => True) v5 x5_1) ∧ Aside0 (w'.heap[gb407]? = some (.cells #[.int .i64 a0_0, .int .i64 a0_1, (.slice A0_2 l0_2.length c0_2)] 27 (0, 0))) ∧ Aside0 (Below w.heap.size w w'))
 case atStart => exact ⟨(([] : List ByteArray)), (0), (by first | rfl | (simp; done) | (simp [*]; done)), H', ⟨Nat.le_refl _⟩, ⟨by first | exact Kd.R_nil _ _ _ _ _ | exact Kd.N_nil _ _ _ _ _ | exact Kd.V_nil _ _ _ _ _ | exact Kd.Q_nil _ _ _ _ _ | exact Kd.S_nil _ _ _ _ _⟩, ⟨Cz.b BK407.out⟩, ⟨Cz.w HB.out⟩⟩
 case round =>
  clear H'
  try clear c1
  try clear p2
  try clear hcz4_0
  try clear hcz4_1
  try clear hcz4_2
  try clear hfz4_0
  try clear hfz4_1
  try clear hfz4_2
  obtain ⟨x5_1, x13_1, rfl, HA, HK1, HO_5, BK407, HB⟩ := hrel
  cases gk with
  | zero => exact absurd HA.out (by simp [impl_combined.l0])
  | succ k1 =>
   have H := HA.out
   clear HA
   simp only [impl_combined.l0] at H
   by_cases c5 : x13_1 < a0_0
   ·rw [if_pos c5] at H
    have c5b0 : decide (x13_1 < a0_0) = true := decide_eq_true c5
    clear c5
    by_cases c6 : 0 < (l1.length : Int)
    ·rw [if_pos c6] at H
     have c6b0 : decide (0 < (l1.length : Int)) = true := decide_eq_true c6
     have c6b1 : decide (0 < l1.length) = true := decide_eq_true (by omega)
     clear c6
     by_cases c7 : 0 ≤ ((rdOf ByteArray.empty l1 0).size : Int)
     ·rw [if_pos c7] at H
      have c7b0 := eq_true c7
      have c7b1 : decide (0 ≤ ((rdOf ByteArray.empty l1 0).size : Int)) = true := decide_eq_true c7
      clear c7
      by_cases c8 : (((rdOf ByteArray.empty l1 0).size : Int) : Int).toNat ≤ 281474976710656
      ·rw [if_pos c8] at H
       have c8b0 := eq_true c8
       have c8b1 : decide ((((rdOf ByteArray.empty l1 0).size : Int) : Int).toNat ≤ 281474976710656) = true := decide_eq_true c8
       clear c8
       obtain ⟨y409, hy409⟩ : ∃ y_ : List Int, y_ = (List.replicate (((rdOf ByteArray.empty l1 0).size : Int) : Int).toNat 0) := ⟨_, rfl⟩
       replace H : (if 0 ≤ (wrap64 (x13_1 * a0_1)) then (if (wrap64 (x13_1 * a0_1)) ≤ (wrap64 ((wrap64 (x13_1 + 1)) * a0_1)) then (if (wrap64 ((wrap64 (x13_1 + 1)) * a0_1)) ≤ (l0_2.length : Int) then (impl_combined.l1 k1 l1 x5_1 y409 a0_0 x13_1 ((l0_2.take ((wrap64 ((wrap64 (x13_1 + 1)) * a0_1)) : Int).toNat).drop ((wrap64 (x13_1 * a0_1)) : Int).toNat) (((l0_2.take ((wrap64 ((wrap64 (x13_1 + 1)) * a0_1)) : Int).toNat).drop ((wrap64 (x13_1 * a0_1)) : Int).toNat).length : Int) 0 a0_0 a0_1 l0_2) else (none)) else (none)) else (none)) = some r := by first | (rw [hy409]; with_reducible exact H) | (have H2_ := (Option.bind_some _ _).symm.trans H; rw [hy409]; with_reducible exact H2_) | (have H2_ := (Option.bind_some _ _).symm.trans H; with_reducible exact H2_) | with_reducible exact H | (rw [hy409]; exact H) | exact H
       have Ny409 := Aside0.mk hy409
       clear hy409
       obtain ⟨ji9, hji9⟩ : ∃ j_ : Int, (wrap64 (x13_1 * a0_1)) = j_ := ⟨_, rfl⟩
       replace H : (if 0 ≤ (ji9) then (if (ji9) ≤ (wrap64 ((wrap64 (x13_1 + 1)) * a0_1)) then (if (wrap64 ((wrap64 (x13_1 + 1)) * a0_1)) ≤ (l0_2.length : Int) then (impl_combined.l1 k1 l1 x5_1 y409 a0_0 x13_1 ((l0_2.take ((wrap64 ((wrap64 (x13_1 + 1)) * a0_1)) : Int).toNat).drop ((ji9) : Int).toNat) (((l0_2.take ((wrap64 ((wrap64 (x13_1 + 1)) * a0_1)) : Int).toNat).drop ((ji9) : Int).toNat).length : Int) 0 a0_0 a0_1 l0_2) else (none)) else (none)) else (none)) = some r := by first | (rw [hji9] at H; exact H) | (simp only [hji9] at H ⊢; exact H)
       have hji9w : (IntKind.i64.wrap (x13_1 * a0_1)) = ji9 := (i64_w _).trans hji9
       by_cases c10 : 0 ≤ (ji9)
       ·rw [if_pos c10] at H
        have c10b0 := eq_true c10
        have c10b1 : decide (0 ≤ (ji9)) = true := decide_eq_true c10
        clear c10
        by_cases c11 : (ji9) ≤ (wrap64 ((wrap64 (x13_1 + 1)) * a0_1))
        ·rw [if_pos c11] at H
         have c11b0 := eq_true c11
         have c11b1 : decide ((ji9) ≤ (wrap64 ((wrap64 (x13_1 + 1)) * a0_1))) = true := decide_eq_true c11
         by_cases c12 : (wrap64 ((wrap64 (x13_1 + 1)) * a0_1)) ≤ (l0_2.length : Int)
         ·rw [if_pos c12] at H
          have c12b0 := eq_true c12
          have c12b1 : decide ((wrap64 ((wrap64 (x13_1 + 1)) * a0_1)) ≤ (l0_2.length : Int)) = true := decide_eq_true c12
          have HMZl0_2 := Aside0.mk (of_decide_eq_true c12b1)
          have H' := Aside0.mk H
          clear H
          have p408 : 0 ≤ (0 : Int) := (by omega)
          have q408 : 0 < (l1.length : Int) := of_decide_eq_true (by first | (with_reducible assumption) | assumption)
          obtain ⟨ad408, e408, hx408_0⟩ := Kd.at_string HR1.out 0 p408 q408
          cases e408
          have qi408 : (0 < l1.length) = True := eq_true (by omega)
          (try rw [show ((0 : Int)).toNat = 0 from rfl] at hx408_0)
          (try rw [Addr.add_zero'] at hx408_0)
          replace hx408_0 := (HB.out.cell (World.block_lt_of_cell? w _ hx408_0)).trans hx408_0
          replace p408 := eq_true p408
          replace q408 := eq_true q408
          go_wp2_with (first | ((with_reducible refine gate_dst (N := 20) rfl ?_); refine Kd.R_make (Kd.int .u8) _ 5 rfl (N := 20) rfl 31 _ _ rfl ((rdOf ByteArray.empty l1 0).size : Int) rfl rfl Try.underlying31 (.int .u8 0) 1 info5 rfl (by decide) (by omega) 0 (ok := fun _ => True) (okp := fun _ => True) rfl (fun _ hk => hk) trivial (of_decide_eq_true (by first | (with_reducible assumption) | assumption)) (Nat.le_trans (Nat.mul_le_mul_right _ (of_decide_eq_true (by first | (with_reducible assumption) | assumption) : ((rdOf ByteArray.empty l1 0).size : Int).toNat ≤ 281474976710656)) (by omega)) (Below.refl _ _) (Nat.le_refl _) ?_; intro v410 w13 ho14 hb hg_ hnew_; clear hg_ hnew_; (first | rw [← Ny409.out] at ho14 | (simp only [Int.reduceToNat] at ho14; rw [← Ny409.out] at ho14)); have n_ := Cy.a4 (Kd.R_below (Cz.r HO_5.out) hb) (Kd.R_lower ho14 (below_size (Cz.w HB.out))) (blk_below (g := gb407) (o := .cells #[.int .i64 a0_0, .int .i64 a0_1, .slice A0_2 l0_2.length c0_2] 27 (0, 0)) (Cz.b BK407.out) hb) (below_step (Cz.w HB.out) hb); clear HO_5 BK407 HB; obtain ⟨HO_5, HO411, BK407, HB⟩ := n_; clear hb ho14; obtain ⟨hcz15_0, hcz15_1, hcz15_2, hfz15_0, hfz15_1, hfz15_2⟩ := Cy.z3 BK407.out; obtain ⟨i016, hi016, _, hsz16, _⟩ := info_parts info2; obtain ⟨A16, hcut16, hA16, hC16⟩ := print_mid_of (P := Try.prog) (Value.int .i64) 0 22 2 .i64 .i64 Try.underlying22 hi016 hsz16 A0_2 c0_2 l0_2 (ji9) (wrap64 ((wrap64 (x13_1 + 1)) * a0_1)) (of_decide_eq_true (by first | (with_reducible assumption) | assumption)) (by first | omega | exact of_decide_eq_true (by first | (with_reducible assumption) | assumption)) (of_decide_eq_true (by first | (with_reducible assumption) | assumption)) HC0_2.out; have HR412 := Aside0.mk (Kd.C_of_reads (h1 := fun _ => rfl) (hA16 _ (Kd.reads_of_C HR0_2.out))); have HC412 := Aside0.mk hC16; clear hA16 hC16 hi016 hsz16) | (go_at_call 125; (with_reducible refine (Mx.row_calls _ _ _ _ _ _ _ _ _ _ hji9 rfl hcut16).mono ?_); rintro e wq_ ⟨rfl, rfl⟩))
          go_loopg [25] k1 (fun kq v25 w' => ∃ (x7_2 : List Int) (x25_2 : Int), v25 = .int .i64 x25_2 ∧ Aside0 (impl_combined.l1 kq l1 x5_1 x7_2 a0_0 x13_1 ((l0_2.take ((wrap64 ((wrap64 (x13_1 + 1)) * a0_1)) : Int).toNat).drop ((ji9) : Int).toNat) (((l0_2.take ((wrap64 ((wrap64 (x13_1 + 1)) * a0_1)) : Int).toNat).drop ((ji9) : Int).toNat).length : Int) x25_2 a0_0 a0_1 l0_2 = some r) ∧ Aside0 (kq ≤ k1) ∧ Aside0 (Kd.R Kd.string 9 w' w.heap.size (fun _ => True) u5 x5_1) ∧ Aside0 (Kd.R (Kd.int .u8) 5 w' w.heap.size (fun _ => True) v410 x7_2) ∧ Aside0 (w'.heap[gb407]? = some (.cells #[.int .i64 a0_0, .int .i64 a0_1, (.slice A0_2 l0_2.length c0_2)] 27 (0, 0))) ∧ Aside0 (Below w.heap.size w w'))
          case atStart => exact ⟨(y409), (0), (by first | rfl | (simp; done) | (simp [*]; done)), H', ⟨Nat.le_refl _⟩, ⟨Cz.r HO_5.out⟩, ⟨Cz.r HO411.out⟩, ⟨Cz.b BK407.out⟩, ⟨Cz.w HB.out⟩⟩
          case round =>
           clear H'
           try clear c1
           try clear p2
           try clear p4
           try clear q4
           try clear hx4
           try clear qi4
           try clear c5
           try clear c5b0
           try clear c6
           try clear c6b0
           try clear c6b1
           try clear p6
           try clear c7
           try clear c7b0
           try clear c7b1
           try clear c8
           try clear c8b0
           try clear c8b1
           try clear c9
           try clear c10
           try clear c10b0
           try clear c10b1
           try clear c11
           try clear c11b0
           try clear c11b1
           try clear c12
           try clear c12b0
           try clear c12b1
           try clear hcz15_0
           try clear hcz15_1
           try clear hcz15_2
           try clear hcz4_0
           try clear hcz4_1
           try clear hcz4_2
           try clear hfz15_0
           try clear hfz15_1
           try clear hfz15_2
           try clear hfz4_0
           try clear hfz4_1
           try clear hfz4_2
           try clear hx408_0
           try clear p2
           try clear p408
           try clear q408
           obtain ⟨x7_2, x25_2, rfl, HA, HK2, HO_5, HO_7, BK407, HB⟩ := hrel
           cases gk with
           | zero => exact absurd HA.out (by simp [impl_combined.l1])
           | succ k2 =>
            have H := HA.out
            clear HA
            simp only [impl_combined.l1] at H
            by_cases c17 : x25_2 < (((l0_2.take ((wrap64 ((wrap64 (x13_1 + 1)) * a0_1)) : Int).toNat).drop ((ji9) : Int).toNat).length : Int)
            ·rw [if_pos c17] at H
             have c17b0 : decide (x25_2 < (((l0_2.take ((wrap64 ((wrap64 (x13_1 + 1)) * a0_1)) : Int).toNat).drop ((ji9) : Int).toNat).length : Int)) = true := decide_eq_true c17
             have c17z := of_decide_eq_true c17b0
             rw [Mx.mid_len _ _ _ HMZl0_2.out] at c17z
             have c17y := decide_eq_true c17z
             replace c17z := eq_true c17z
             clear c17
             by_cases c18 : 0 ≤ x25_2
             ·rw [if_pos c18] at H
              have c18b0 : decide (0 ≤ x25_2) = true := decide_eq_true c18
              clear c18
              by_cases c19 : x25_2 < (((l0_2.take ((wrap64 ((wrap64 (x13_1 + 1)) * a0_1)) : Int).toNat).drop ((ji9) : Int).toNat).length : Int)
              ·rw [if_pos c19] at H
               have c19b0 : decide (x25_2 < (((l0_2.take ((wrap64 ((wrap64 (x13_1 + 1)) * a0_1)) : Int).toNat).drop ((ji9) : Int).toNat).length : Int)) = true := decide_eq_true c19
               have c19z := of_decide_eq_true c19b0
               rw [Mx.mid_len _ _ _ HMZl0_2.out] at c19z
               have c19y := decide_eq_true c19z
               replace c19z := eq_true c19z
               clear c19
               by_cases c20 : (rd ((l0_2.take ((wrap64 ((wrap64 (x13_1 + 1)) * a0_1)) : Int).toNat).drop ((ji9) : Int).toNat) x25_2) = 0
               ·rw [if_pos c20] at H
                have c20b0 : ((rd ((l0_2.take ((wrap64 ((wrap64 (x13_1 + 1)) * a0_1)) : Int).toNat).drop ((ji9) : Int).toNat) x25_2) == 0) = true := beq_iff_eq.mpr c20
                have c20b1 : ((rd ((l0_2.take ((wrap64 ((wrap64 (x13_1 + 1)) * a0_1)) : Int).toNat).drop ((ji9) : Int).toNat) x25_2) != 0) = false := bne_eq_false_iff_eq.mpr c20
                clear c20
                have H' := Aside0.mk H
                clear H
                have p416 : 0 ≤ (x25_2 : Int) := of_decide_eq_true (by first | (with_reducible assumption) | assumption)
                have q416 : x25_2 < (((l0_2.take ((wrap64 ((wrap64 (x13_1 + 1)) * a0_1)) : Int).toNat).drop ((ji9) : Int).toNat).length : Int) := of_decide_eq_true (by first | (with_reducible assumption) | assumption)
                obtain ⟨ad416, e416, hx416_0⟩ := Kd.at_int HR412.out x25_2 p416 q416
                cases e416
                replace hx416_0 := (HB.out.cell (World.block_lt_of_cell? w _ hx416_0)).trans hx416_0
                replace p416 := eq_true p416
                replace q416 := eq_true q416
                go_wp2
                go_roundg k2
                case measure => have := HK1.out; have := HK2.out; omega
                case rel => exact ⟨(x7_2), (wrap64 (x25_2 + 1)), (by first | rfl | (simp; done) | (simp [*]; done)), H', ⟨by have := HK1.out; have := HK2.out; omega⟩, ⟨Cz.r HO_5.out⟩, ⟨Cz.r HO_7.out⟩, ⟨Cz.b BK407.out⟩, ⟨Cz.w HB.out⟩⟩
               ·rw [if_neg c20] at H
                have c20b0 : ((rd ((l0_2.take ((wrap64 ((wrap64 (x13_1 + 1)) * a0_1)) : Int).toNat).drop ((ji9) : Int).toNat) x25_2) == 0) = false := beq_eq_false_iff_ne.mpr c20
                have c20b1 : ((rd ((l0_2.take ((wrap64 ((wrap64 (x13_1 + 1)) * a0_1)) : Int).toNat).drop ((ji9) : Int).toNat) x25_2) != 0) = true := bne_iff_ne.mpr c20
                have H' := Aside0.mk H
                clear H
                have p416 : 0 ≤ (x25_2 : Int) := of_decide_eq_true (by first | (with_reducible assumption) | assumption)
                have q416 : x25_2 < (((l0_2.take ((wrap64 ((wrap64 (x13_1 + 1)) * a0_1)) : Int).toNat).drop ((ji9) : Int).toNat).length : Int) := of_decide_eq_true (by first | (with_reducible assumption) | assumption)
                obtain ⟨ad416, e416, hx416_0⟩ := Kd.at_int HR412.out x25_2 p416 q416
                cases e416
                replace hx416_0 := (HB.out.cell (World.block_lt_of_cell? w _ hx416_0)).trans hx416_0
                replace p416 := eq_true p416
                replace q416 := eq_true q416
                obtain ⟨Ao21, co21, eo21⟩ := Kd.R_slice HO_7.out
                subst eo21
                go_wp2
                go_loopg [34] k2 (fun kq v34 w' => ∃ (x7_3 : List Int) (x34_3 : Int), v34 = .int .i64 x34_3 ∧ Aside0 (impl_combined.l2 kq l1 x5_1 x7_3 x25_2 (rd ((l0_2.take ((wrap64 ((wrap64 (x13_1 + 1)) * a0_1)) : Int).toNat).drop ((ji9) : Int).toNat) x25_2) a0_0 x13_1 ((l0_2.take ((wrap64 ((wrap64 (x13_1 + 1)) * a0_1)) : Int).toNat).drop ((ji9) : Int).toNat) (((l0_2.take ((wrap64 ((wrap64 (x13_1 + 1)) * a0_1)) : Int).toNat).drop ((ji9) : Int).toNat).length : Int) x25_2 (x7_2.length : Int) x34_3 a0_0 a0_1 l0_2 = some r) ∧ Aside0 (kq ≤ k2) ∧ Aside0 (Kd.R Kd.string 9 w' w.heap.size (fun _ => True) u5 x5_1) ∧ Aside0 (Kd.R (Kd.int .u8) 5 w' w.heap.size (fun _ => True) (.slice Ao21 x7_2.length co21) x7_3) ∧ Aside0 (w'.heap[gb407]? = some (.cells #[.int .i64 a0_0, .int .i64 a0_1, (.slice A0_2 l0_2.length c0_2)] 27 (0, 0))) ∧ Aside0 (Below w.heap.size w w'))
                case atStart => exact ⟨(x7_2), (0), (by first | rfl | (simp; done) | (simp [*]; done)), H', ⟨Nat.le_refl _⟩, ⟨Cz.r HO_5.out⟩, ⟨Cz.r HO_7.out⟩, ⟨Cz.b BK407.out⟩, ⟨Cz.w HB.out⟩⟩
                case round =>
                 clear H'
                 try clear c1
                 try clear c2
                 try clear p2
                 try clear p4
                 try clear q4
                 try clear hx4
                 try clear qi4
                 try clear c5
                 try clear c5b0
                 try clear c6
                 try clear c6b0
                 try clear c6b1
                 try clear p6
                 try clear c7
                 try clear c7b0
                 try clear c7b1
                 try clear c8
                 try clear c8b0
                 try clear c8b1
                 try clear c9
                 try clear c10
                 try clear c10b0
                 try clear c10b1
                 try clear c11
                 try clear c11b0
                 try clear c11b1
                 try clear c12
                 try clear c12b0
                 try clear c12b1
                 try clear c17
                 try clear c17b0
                 try clear c18
                 try clear c18b0
                 try clear c19
                 try clear c19b0
                 try clear c20
                 try clear c20b0
                 try clear c20b1
                 try clear hcz15_0
                 try clear hcz15_1
                 try clear hcz15_2
                 try clear hcz4_0
                 try clear hcz4_1
                 try clear hcz4_2
                 try clear hfz15_0
                 try clear hfz15_1
                 try clear hfz15_2
                 try clear hfz4_0
                 try clear hfz4_1
                 try clear hfz4_2
                 try clear hx408_0
                 try clear hx416_0
                 try clear p2
                 try clear p4
                 try clear p408
                 try clear p416
                 try clear p6
                 try clear q4
                 try clear q408
                 try clear q416
                 obtain ⟨x7_3, x34_3, rfl, HA, HK3, HO_5, HO_7, BK407, HB⟩ := hrel
                 have hl7_3 := (Kd.R_reads' HO_7.out).1
                 rw [hl7_3] at HO_7
                 (try simp only [hl7_3])
                 (try simp only [hl7_3] at BK407)
                 (try simp only [hl7_3] at HO_5)
                 cases gk with
                 | zero => exact absurd HA.out (by simp [impl_combined.l2])
                 | succ k3 =>
                  have H := HA.out
                  clear HA
                  simp only [impl_combined.l2] at H
                  by_cases c22 : x34_3 < (x7_2.length : Int)
                  ·rw [if_pos c22] at H
                   have c22b0 : decide (x34_3 < (x7_2.length : Int)) = true := decide_eq_true c22
                   clear c22
                   by_cases c23 : 0 ≤ x34_3
                   ·rw [if_pos c23] at H
                    have c23b0 : decide (0 ≤ x34_3) = true := decide_eq_true c23
                    clear c23
                    by_cases c24 : x34_3 < (x7_3.length : Int)
                    ·rw [if_pos c24] at H
                     have c24b0 : decide (x34_3 < (x7_3.length : Int)) = true := decide_eq_true c24
                     clear c24
                     by_cases c25 : 0 ≤ x25_2
                     ·rw [if_pos c25] at H
                      have c25b0 : decide (0 ≤ x25_2) = true := decide_eq_true c25
                      clear c25
                      by_cases c26 : x25_2 < (l1.length : Int)
                      ·rw [if_pos c26] at H
                       have c26b0 : decide (x25_2 < (l1.length : Int)) = true := decide_eq_true c26
                       clear c26
                       by_cases c27 : x34_3 < ((rdOf ByteArray.empty l1 x25_2).size : Int)
                       ·rw [if_pos c27] at H
                        have c27b0 : decide (x34_3 < ((rdOf ByteArray.empty l1 x25_2).size : Int)) = true := decide_eq_true c27
                        clear c27
                        replace H := Option.bind_eq_some_iff.mp H
                        obtain ⟨t419, A290, H⟩ := H
                        replace H : (impl_combined.l2 k3 l1 x5_1 (x7_3.set (x34_3 : Int).toNat (Go.bits .xor .u8 (rd x7_3 x34_3) ((t419) % 256))) x25_2 (rd ((l0_2.take ((wrap64 ((wrap64 (x13_1 + 1)) * a0_1)) : Int).toNat).drop ((ji9) : Int).toNat) x25_2) a0_0 x13_1 ((l0_2.take ((wrap64 ((wrap64 (x13_1 + 1)) * a0_1)) : Int).toNat).drop ((ji9) : Int).toNat) (((l0_2.take ((wrap64 ((wrap64 (x13_1 + 1)) * a0_1)) : Int).toNat).drop ((ji9) : Int).toNat).length : Int) x25_2 (x7_2.length : Int) (wrap64 (x34_3 + 1)) a0_0 a0_1 l0_2) = some r := H
                        have A29 := Aside0.mk A290
                        clear A290
                        obtain ⟨y420, hy420⟩ : ∃ y_ : List Int, y_ = (x7_3.set (x34_3 : Int).toNat (Go.bits .xor .u8 (rd x7_3 x34_3) ((t419) % 256))) := ⟨_, rfl⟩
                        replace H : (impl_combined.l2 k3 l1 x5_1 y420 x25_2 (rd ((l0_2.take ((wrap64 ((wrap64 (x13_1 + 1)) * a0_1)) : Int).toNat).drop ((ji9) : Int).toNat) x25_2) a0_0 x13_1 ((l0_2.take ((wrap64 ((wrap64 (x13_1 + 1)) * a0_1)) : Int).toNat).drop ((ji9) : Int).toNat) (((l0_2.take ((wrap64 ((wrap64 (x13_1 + 1)) * a0_1)) : Int).toNat).drop ((ji9) : Int).toNat).length : Int) x25_2 (x7_2.length : Int) (wrap64 (x34_3 + 1)) a0_0 a0_1 l0_2) = some r := by first | (rw [hy420]; with_reducible exact H) | (have H2_ := (Option.bind_some _ _).symm.trans H; rw [hy420]; with_reducible exact H2_) | (have H2_ := (Option.bind_some _ _).symm.trans H; with_reducible exact H2_) | with_reducible exact H | (rw [hy420]; exact H) | exact H
                        have Ny420 := Aside0.mk hy420
                        clear hy420
                        have H' := Aside0.mk H
                        clear H
                        try go_wp2
                        have n_ := Cy.a4 (Kd.R_drew HO_5.out) (Kd.R_drew HO_7.out) (blk_drew BK407.out) (below_drew1 HB.out)
                        clear HO_5 HO_7 BK407 HB
                        obtain ⟨HO_5, HO_7, BK407, HB⟩ := n_
                        have p417 : 0 ≤ (x34_3 : Int) := of_decide_eq_true (by first | (with_reducible assumption) | assumption)
                        have q417 : x34_3 < (x7_3.length : Int) := of_decide_eq_true (by first | (with_reducible assumption) | assumption)
                        obtain ⟨ad417, e417, hx417_0⟩ := Kd.at_int (Kd.R_reads' HO_7.out).2.2 x34_3 p417 q417
                        cases e417
                        replace p417 := eq_true p417
                        replace q417 := eq_true q417
                        have p418 : 0 ≤ (x25_2 : Int) := of_decide_eq_true (by first | (with_reducible assumption) | assumption)
                        have q418 : x25_2 < (l1.length : Int) := of_decide_eq_true (by first | (with_reducible assumption) | assumption)
                        obtain ⟨ad418, e418, hx418_0⟩ := Kd.at_string HR1.out x25_2 p418 q418
                        have hw418_0 := hx418_0
                        obtain rfl : ad408 = ad418 := (by injection e418)
                        replace hx418_0 := (HB.out.cell (World.block_lt_of_cell? w _ hx418_0)).trans hx418_0
                        replace p418 := eq_true p418
                        replace q418 := eq_true q418
                        have p28 : 0 ≤ (x34_3 : Int) := of_decide_eq_true (by first | (with_reducible assumption) | assumption)
                        have q28 : x34_3 < ((rdOf ByteArray.empty l1 x25_2).size : Int) := of_decide_eq_true (by first | (with_reducible assumption) | assumption)
                        have hx28 := bt_at (rdOf ByteArray.empty l1 x25_2) x34_3
                        replace p28 := eq_true p28
                        replace q28 := eq_true q28
                        refine start_ (n := 17) (S := fun w' => w'.cell? (ad417.add (x34_3).toNat) = some (.int .u8 (rd x7_3 x34_3)) ∧ w'.cell? (ad408.add (x25_2).toNat) = some (.string (rdOf ByteArray.empty l1 x25_2))) (ds := [16]) #[false, false, false, false, false, false, false, false, false, false, false, false, false, false, false, false, false] (by kernel_rfl) rfl rfl ⟨hx417_0, ((HB.out.cell (World.block_lt_of_cell? w _ hw418_0)).trans hw418_0)⟩ (fun hHeld => ?_); refine with_tabW impl_combined.tab13 impl_combined.bits13 (fun HT_ HW_ => ?_)
                        generalize wr.drew = w31 at HO_5 HO_7 BK407 HB hx417_0 hx418_0 hHeld ⊢
                        refine Cy.pu 0 37 HT_ ?_
                        refine Cy.pu 1 38 HT_ ?_
                        refine Cy.pu 2 39 HT_ ?_
                        refine Cy.pu 4 41 HT_ ?_
                        refine Cy.pu 5 42 HT_ ?_
                        refine Cy.pu 6 43 HT_ ?_
                        refine Cy.pu 7 44 HT_ ?_
                        refine Cy.pu 9 46 HT_ ?_
                        refine Cy.tk 3 40 HT_ HW_ hHeld ?_
                        refine Cy.tk 8 45 HT_ HW_ hHeld ?_
                        refine Cy.tk 10 47 HT_ HW_ hHeld ?_
                        refine Cy.pu 11 48 HT_ ?_
                        refine one_ (i := 12) (N := some 49) #[true, true, true, true, true, true, true, true, true, true, true, true, true, false, false, false, false] rfl rfl (one_of HT_.out (by kernel_rfl)) (by decide) (fun K hK => ?_)
                        refine goes_ Try.func132 (by kernel_rfl) rfl #[.int .i64 (rd ((l0_2.take ((wrap64 ((wrap64 (x13_1 + 1)) * a0_1)) : Int).toNat).drop ((ji9) : Int).toNat) x25_2), .int .i64 (wrap64 (bt (rdOf ByteArray.empty l1 x25_2) x34_3))] (by rfl) rfl rfl (by (try simp only [List.map_toArray, List.map_cons, List.map_nil]); first | done | (simp only [hji9]; rfl) | rfl | (simp only [List.length_drop, List.length_take]; rfl)) ?_
                        with_reducible refine (impl_mul.calls k3 (rd ((l0_2.take ((wrap64 ((wrap64 (x13_1 + 1)) * a0_1)) : Int).toNat).drop ((ji9) : Int).toNat) x25_2) (wrap64 (bt (rdOf ByteArray.empty l1 x25_2) x34_3)) t419 _ A29.out).mono ?_
                        rintro e w' ⟨rfl, ⟨nd, rfl⟩⟩
                        refine ⟨_, rfl, ?_⟩
                        have p30 : 0 ≤ (x34_3 : Int) := of_decide_eq_true (by first | (with_reducible assumption) | assumption)
                        have q30 : (x34_3 : Int) < ((x7_3.length : Int) : Int) := of_decide_eq_true (by first | (with_reducible assumption) | assumption)
                        obtain ⟨go30, co30, eo30, gb30, gl30, cl30, HG30⟩ := Kd.R_form HO_7.out (by omega)
                        (first | cases eo30 | (injection eo30 with ea_ en_ ec_; (first | subst ea_ | (injection ea_ with ea_; subst ea_)); subst ec_; clear en_))
                        have GB30 := Aside0.mk gb30
                        have GG30 := Aside0.mk HG30
                        clear gb30 gl30 HG30
                        (first | simp only [add_plain] at hx417_0 | skip)
                        obtain ⟨hx30_0, hf30_0⟩ := Kd.R_celln 0 HO_7.out (x34_3 : Int) p30 q30
                        replace p30 := eq_true p30
                        replace q30 := eq_true q30
                        have HP32 := Kd.R_putn HO_7.out (x34_3 : Int) (Go.bits .xor .u8 (rd x7_3 x34_3) ((t419) % 256))
                        rw [← Ny420.out] at HP32
                        have HQ32 := Aside0.mk HP32
                        clear HP32
                        refine hK.out _ _ ⟨hHeld.1, ((HB.out.cell (World.block_lt_of_cell? w _ hw418_0)).trans hw418_0)⟩ (fun hHeld => ?_)
                        clear hK K
                        refine norm_ (a' := ?_) ?_ ?_
                        rotate_left
                        ·show Act.put _ (some 49) _ = _
                         simp only [Act.put, List.setIfInBounds_toArray, List.set_cons_zero, List.set_cons_succ, i64_w, i32_w]
                         rfl
                        refine Cy.pu 13 50 HT_ ?_
                        refine Cy.pu 14 51 HT_ ?_
                        refine Cy.pu 15 52 HT_ ?_
                        refine last_ (i := 16) (N := none) #[true, true, true, true, true, true, true, true, true, true, true, true, true, true, true, true, true] rfl rfl (one_of HT_.out (by kernel_rfl)) (by decide) (fun K hK => ?_)
                        refine skip_ (w1 := ?_) (by rfl) rfl ?_ ?_
                        rotate_left
                        ·go_simp
                         rfl
                        refine hK.out _ _ ?_
                        clear hK K
                        refine done_ (done_of HT_.out (by kernel_rfl)) ?_
                        try go_wp2
                        (try simp only [← hl7_3])
                        go_roundg k3
                        case measure => have := HK1.out; have := HK2.out; have := HK3.out; omega
                        case rel => exact ⟨(y420), (wrap64 (x34_3 + 1)), (by first | rfl | (simp; done) | (simp [*]; done)), H', ⟨by have := HK1.out; have := HK2.out; have := HK3.out; omega⟩, ⟨by (try simp only [hl7_3]); (with_reducible repeat (first | apply Kd.R_alloc | apply Kd.R_drewN | apply Kd.R_drew)); exact Kd.R_mono (Kd.R_far (p := ⟨go30, (x34_3 : Int).toNat, none⟩) (Kd.R_types HO_5.out GG30.out (by decide)) (fun _ hk => hk.2) (.int .u8 (Go.bits .xor .u8 (rd x7_3 x34_3) ((t419) % 256)))) (fun _ hk => trivial)⟩, ⟨by (try simp only [hl7_3]); (with_reducible repeat (first | apply Kd.R_alloc | apply Kd.R_drewN | apply Kd.R_drew)); exact HQ32.out⟩, ⟨by (try simp only [hl7_3]); (with_reducible repeat (first | refine blk_drewN ?_ _ | refine blk_drew ?_ | refine blk_alloc ?_ _)); refine blk_far ?_ (by have h_ := Kd.R_ne HO_7.out BK407.out (by decide); intro e_; exact h_ (by rw [e_]; rfl)) _; (with_reducible repeat (first | refine blk_drewN ?_ _ | refine blk_drew ?_ | refine blk_alloc ?_ _)); exact BK407.out⟩, ⟨by repeat (first | (with_reducible first | exact HB.out | apply below_alloc | apply pw_below_drewN | apply below_drew1 | refine below_set ?_ GB30.out | refine below_set ?_ GE407.out) | exact HB.out)⟩⟩
                       ·rw [if_neg c27] at H
                        exact absurd H (by simp)
                      ·rw [if_neg c26] at H
                       exact absurd H (by simp)
                     ·rw [if_neg c25] at H
                      exact absurd H (by simp)
                    ·rw [if_neg c24] at H
                     exact absurd H (by simp)
                   ·rw [if_neg c23] at H
                    exact absurd H (by simp)
                  ·rw [if_neg c22] at H
                   have c22b0 : decide (x34_3 < (x7_2.length : Int)) = false := decide_eq_false c22
                   have c22b9 : decide (x34_3 < (x7_3.length : Int)) = false := by (rw [← hl7_3]; exact c22b0)
                   clear c22
                   have H' := Aside0.mk H
                   clear H
                   go_wp2
                   (try simp only [← hl7_3])
                   go_roundg k3
                   case measure => have := HK1.out; have := HK2.out; have := HK3.out; omega
                   case rel => exact ⟨(x7_3), (wrap64 (x25_2 + 1)), (by first | rfl | (simp; done) | (simp [*]; done)), H', ⟨by have := HK1.out; have := HK2.out; have := HK3.out; omega⟩, ⟨by (try simp only [hl7_3]); (with_reducible repeat (first | apply Kd.R_alloc | apply Kd.R_drewN | apply Kd.R_drew)); exact HO_5.out⟩, ⟨by (try simp only [hl7_3]); (with_reducible repeat (first | apply Kd.R_alloc | apply Kd.R_drewN | apply Kd.R_drew)); exact HO_7.out⟩, ⟨by (try simp only [hl7_3]); (with_reducible repeat (first | refine blk_drewN ?_ _ | refine blk_drew ?_ | refine blk_alloc ?_ _)); exact BK407.out⟩, ⟨Cz.w HB.out⟩⟩
              ·rw [if_neg c19] at H
               exact absurd H (by simp)
             ·rw [if_neg c18] at H
              exact absurd H (by simp)
            ·rw [if_neg c17] at H
             have c17b0 : decide (x25_2 < (((l0_2.take ((wrap64 ((wrap64 (x13_1 + 1)) * a0_1)) : Int).toNat).drop ((ji9) : Int).toNat).length : Int)) = false := decide_eq_false c17
             have c17z := c17b0
             rw [Mx.mid_len _ _ _ HMZl0_2.out] at c17z
             clear c17
             by_cases c33 : x5_1.length < 8796093022208
             ·rw [if_pos c33] at H
              have LMc33 := Aside0.mk c33
              clear c33
              obtain ⟨y413, hy413⟩ : ∃ y_ : List ByteArray, y_ = (x5_1 ++ [strOfNums x7_2]) := ⟨_, rfl⟩
              replace H : (impl_combined.l0 k2 l1 y413 a0_0 (wrap64 (x13_1 + 1)) a0_0 a0_1 l0_2) = some r := by first | (rw [hy413]; with_reducible exact H) | (have H2_ := (Option.bind_some _ _).symm.trans H; rw [hy413]; with_reducible exact H2_) | (have H2_ := (Option.bind_some _ _).symm.trans H; with_reducible exact H2_) | with_reducible exact H | (rw [hy413]; exact H) | exact H
              have Ny413 := Aside0.mk hy413
              clear hy413
              have H' := Aside0.mk H
              clear H
              have hcv34 := own_string (P := Try.prog) Try.underlying31 Try.underlying5 Try.underlying9 (Kd.own_of_R HO_7.out)
              go_wp2_with (first | ((with_reducible refine gate_builtin (b := .append) (xs := #[.tmp 55, .tmp 58]) rfl ?_); at_builtin; refine Kd.R_append Kd.string (w0 := w) w.heap.size rfl (.tmp 55) (.tmp 58) 52 9 (.string ⟨#[]⟩) 16 rfl Try.underlying52 info9 rfl (by decide) (by omega) u5 x5_1 (strOfNums x7_2) [.string (strOfNums x7_2)] (fun _ => True) (fun _ => False) rfl rfl ?aP (fun _ hk => hk.elim) ?aF ?aO ?aB ?aS ?aL ?_; (case aP => exact rfl); (case aB => exact (Cz.w HB.out)); (case aF => exact (fun _ _ => trivial)); (case aO => exact (Cz.r HO_5.out)); (case aS => exact (below_size (Cz.w HB.out))); (case aL => have := LMc33.out; omega); intro v414 w35 ho hb hg hat; rw [← Ny413.out] at ho; have n_ := Cy.a4 (Kd.R_over' (Cz.r HO_7.out) (Kd.R_typed (Cz.r HO_5.out)) (by decide) hg) (blk_grown (g := gb407) (o := .cells #[.int .i64 a0_0, .int .i64 a0_1, .slice A0_2 l0_2.length c0_2] 27 (0, 0)) (Cz.b BK407.out) hg (Kd.R_ne HO_5.out BK407.out (by decide))) hb ho; clear HO_7 BK407 HB HO_5; obtain ⟨HO_7, BK407, HB, HO415⟩ := n_; clear ho hb hg hat))
              go_roundg k2
              case measure => have := HK1.out; have := HK2.out; omega
              case rel => exact ⟨(y413), (wrap64 (x13_1 + 1)), (by first | rfl | (simp; done) | (simp [*]; done)), H', ⟨by have := HK1.out; have := HK2.out; omega⟩, ⟨Cz.r HO415.out⟩, ⟨Cz.b BK407.out⟩, ⟨Cz.w HB.out⟩⟩
             ·rw [if_neg c33] at H
              exact absurd H (by simp)
         ·rw [if_neg c12] at H
          exact absurd H (by simp)
        ·rw [if_neg c11] at H
         exact absurd H (by simp)
       ·rw [if_neg c10] at H
        exact absurd H (by simp)
      ·rw [if_neg c8] at H
       exact absurd H (by simp)
     ·rw [if_neg c7] at H
      exact absurd H (by simp)
    ·rw [if_neg c6] at H
     exact absurd H (by simp)
   ·rw [if_neg c5] at H
    have c5b0 : decide (x13_1 < a0_0) = false := decide_eq_false c5
    clear c5
    obtain rfl := Option.some.inj H
    go_wp2
    go_ret
    exact ⟨_, by first | rfl | (simp [errW_none, errW_some] <;> rfl) | (simp [*, errW_none, errW_some] <;> rfl), Cz.r HO_5.out, Cz.w HB.out⟩
end Go.Proofs.Ytlololbhlnapkaa.XFnExactDecode

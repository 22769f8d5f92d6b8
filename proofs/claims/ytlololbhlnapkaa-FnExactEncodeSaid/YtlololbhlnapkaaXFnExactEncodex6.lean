/- Plain functions of what the law reaches, proofs that the calls come to them, and the law's row: written by a program of this session (xprint.py) over the kit's print. No conditions beyond each lemma's own. -/
import Derived.Test.YtlololbhlnapkaaXFnExactEncodex0
import Derived.Test.YtlololbhlnapkaaXFnExactEncodex4
namespace Go.Proofs.Ytlololbhlnapkaa.XFnExactEncode
open Go.RowKit Go.Proofs.YtlololbhlnapkaaW.PrintWords Go.Proofs.YtlololbhlnapkaaW.PrintLast Go.Proofs.YtlololbhlnapkaaW.PrintMore
attribute [local go_sem] max2_int min2_int max_two min_two max_three min_three max_four min_four   -- for this text's walks alone
set_option linter.unusedVariables false
set_option linter.unusedSimpArgs false

/-! ### impl_combined: function 96 -/
mutual
def impl_combined.l0 : Nat → List ByteArray → List ByteArray → Int → Int → Int → Int → List Int → Option (List ByteArray)
  | 0, _, _, _, _, _, _, _ => none
  | k + 1, x1, x5, x12, x13, x224000, x224001, x224002 => if x13 < x12 then (if 0 < (x1.length : Int) then (if 0 ≤ ((rdOf ByteArray.empty x1 0).size : Int) then (if (((rdOf ByteArray.empty x1 0).size : Int) : Int).toNat ≤ 281474976710656 then (if 0 ≤ (wrap64 (x13 * x224001)) then (if (wrap64 (x13 * x224001)) ≤ (wrap64 ((wrap64 (x13 + 1)) * x224001)) then (if (wrap64 ((wrap64 (x13 + 1)) * x224001)) ≤ (x224002.length : Int) then (impl_combined.l1 k x1 x5 (List.replicate (((rdOf ByteArray.empty x1 0).size : Int) : Int).toNat 0) x12 x13 ((x224002.take ((wrap64 ((wrap64 (x13 + 1)) * x224001)) : Int).toNat).drop ((wrap64 (x13 * x224001)) : Int).toNat) (((x224002.take ((wrap64 ((wrap64 (x13 + 1)) * x224001)) : Int).toNat).drop ((wrap64 (x13 * x224001)) : Int).toNat).length : Int) 0 x224000 x224001 x224002) else (none)) else (none)) else (none)) else (none)) else (none)) else (none)) else (some x5)
def impl_combined.l1 : Nat → List ByteArray → List ByteArray → List Int → Int → Int → List Int → Int → Int → Int → Int → List Int → Option (List ByteArray)
  | 0, _, _, _, _, _, _, _, _, _, _, _ => none
  | k + 1, x1, x5, x7, x12, x13, x23, x24, x25, x224000, x224001, x224002 => if x25 < x24 then (if 0 ≤ x25 then (if x25 < (x23.length : Int) then (if (rd x23 x25) = 0 then (impl_combined.l1 k x1 x5 x7 x12 x13 x23 x24 (wrap64 (x25 + 1)) x224000 x224001 x224002) else (impl_combined.l2 k x1 x5 x7 x25 (rd x23 x25) x12 x13 x23 x24 x25 (x7.length : Int) 0 x224000 x224001 x224002)) else (none)) else (none)) else (if x5.length < 8796093022208 then (impl_combined.l0 k x1 (x5 ++ [strOfNums x7]) x12 (wrap64 (x13 + 1)) x224000 x224001 x224002) else (none))
def impl_combined.l2 : Nat → List ByteArray → List ByteArray → List Int → Int → Int → Int → Int → List Int → Int → Int → Int → Int → Int → Int → List Int → Option (List ByteArray)
  | 0, _, _, _, _, _, _, _, _, _, _, _, _, _, _, _ => none
  | k + 1, x1, x5, x7, x8, x9, x12, x13, x23, x24, x25, x33, x34, x224000, x224001, x224002 => if x34 < x33 then (if 0 ≤ x34 then (if x34 < (x7.length : Int) then (if 0 ≤ x8 then (if x8 < (x1.length : Int) then (if x34 < ((rdOf ByteArray.empty x1 x8).size : Int) then ((impl_mul.f k x9 (wrap64 (bt (rdOf ByteArray.empty x1 x8) x34))).bind fun t235 => (impl_combined.l2 k x1 x5 (x7.set (x34 : Int).toNat (Go.bits .xor .u8 (rd x7 x34) ((t235) % 256))) x8 x9 x12 x13 x23 x24 x25 x33 (wrap64 (x34 + 1)) x224000 x224001 x224002)) else (none)) else (none)) else (none)) else (none)) else (none)) else (impl_combined.l1 k x1 x5 x7 x12 x13 x23 x24 (wrap64 (x25 + 1)) x224000 x224001 x224002)
end
def impl_combined.f (k : Nat) (a0_0 : Int) (a0_1 : Int) (l0_2 : List Int) (l1 : List ByteArray) : Option (List ByteArray) := impl_combined.l0 k l1 ([] : List ByteArray) a0_0 0 a0_0 a0_1 l0_2
theorem impl_combined.mono_l : ∀ k, (∀ y0 y1 y2 y3 y4 y5 y6, LeO (impl_combined.l0 k y0 y1 y2 y3 y4 y5 y6) (impl_combined.l0 (k + 1) y0 y1 y2 y3 y4 y5 y6)) ∧ (∀ y0 y1 y2 y3 y4 y5 y6 y7 y8 y9 y10, LeO (impl_combined.l1 k y0 y1 y2 y3 y4 y5 y6 y7 y8 y9 y10) (impl_combined.l1 (k + 1) y0 y1 y2 y3 y4 y5 y6 y7 y8 y9 y10)) ∧ (∀ y0 y1 y2 y3 y4 y5 y6 y7 y8 y9 y10 y11 y12 y13 y14, LeO (impl_combined.l2 k y0 y1 y2 y3 y4 y5 y6 y7 y8 y9 y10 y11 y12 y13 y14) (impl_combined.l2 (k + 1) y0 y1 y2 y3 y4 y5 y6 y7 y8 y9 y10 y11 y12 y13 y14))
  | 0 => ⟨fun _ _ _ _ _ _ _ r h => by simp [impl_combined.l0] at h, fun _ _ _ _ _ _ _ _ _ _ _ r h => by simp [impl_combined.l1] at h, fun _ _ _ _ _ _ _ _ _ _ _ _ _ _ _ r h => by simp [impl_combined.l2] at h⟩
  | k + 1 => by
    obtain ⟨ih0, ih1, ih2⟩ := impl_combined.mono_l k
    refine ⟨?_, ?_, ?_⟩
    · intro y0 y1 y2 y3 y4 y5 y6
      unfold impl_combined.l0
      repeat' first
      | (with_reducible exact ih0 _ _ _ _ _ _ _)
      | (with_reducible exact ih1 _ _ _ _ _ _ _ _ _ _ _)
      | (with_reducible exact ih2 _ _ _ _ _ _ _ _ _ _ _ _ _ _ _)
      | (with_reducible exact impl_mul.mono _ _ _)
      | (with_reducible exact LeO.refl _)
      | (with_reducible exact LeO.none _)
      | (with_reducible refine LeO.ite ?_ ?_)
      | (with_reducible refine LeO.bind ?_ (fun _ => ?_))
      | exact ih0 _ _ _ _ _ _ _
      | exact ih1 _ _ _ _ _ _ _ _ _ _ _
      | exact ih2 _ _ _ _ _ _ _ _ _ _ _ _ _ _ _
      | exact impl_mul.mono _ _ _
      | exact LeO.none _
      | refine LeO.ite ?_ ?_
      | refine LeO.bind ?_ (fun _ => ?_)
    · intro y0 y1 y2 y3 y4 y5 y6 y7 y8 y9 y10
      unfold impl_combined.l1
      repeat' first
      | (with_reducible exact ih0 _ _ _ _ _ _ _)
      | (with_reducible exact ih1 _ _ _ _ _ _ _ _ _ _ _)
      | (with_reducible exact ih2 _ _ _ _ _ _ _ _ _ _ _ _ _ _ _)
      | (with_reducible exact impl_mul.mono _ _ _)
      | (with_reducible exact LeO.refl _)
      | (with_reducible exact LeO.none _)
      | (with_reducible refine LeO.ite ?_ ?_)
      | (with_reducible refine LeO.bind ?_ (fun _ => ?_))
      | exact ih0 _ _ _ _ _ _ _
      | exact ih1 _ _ _ _ _ _ _ _ _ _ _
      | exact ih2 _ _ _ _ _ _ _ _ _ _ _ _ _ _ _
      | exact impl_mul.mono _ _ _
      | exact LeO.none _
      | refine LeO.ite ?_ ?_
      | refine LeO.bind ?_ (fun _ => ?_)
    · intro y0 y1 y2 y3 y4 y5 y6 y7 y8 y9 y10 y11 y12 y13 y14
      unfold impl_combined.l2
      repeat' first
      | (with_reducible exact ih0 _ _ _ _ _ _ _)
      | (with_reducible exact ih1 _ _ _ _ _ _ _ _ _ _ _)
      | (with_reducible exact ih2 _ _ _ _ _ _ _ _ _ _ _ _ _ _ _)
      | (with_reducible exact impl_mul.mono _ _ _)
      | (with_reducible exact LeO.refl _)
      | (with_reducible exact LeO.none _)
      | (with_reducible refine LeO.ite ?_ ?_)
      | (with_reducible refine LeO.bind ?_ (fun _ => ?_))
      | exact ih0 _ _ _ _ _ _ _
      | exact ih1 _ _ _ _ _ _ _ _ _ _ _
      | exact ih2 _ _ _ _ _ _ _ _ _ _ _ _ _ _ _
      | exact impl_mul.mono _ _ _
      | exact LeO.none _
      | refine LeO.ite ?_ ?_
      | refine LeO.bind ?_ (fun _ => ?_)
theorem impl_combined.mono : ∀ a0 a1 a2 a3 k, LeO (impl_combined.f k a0 a1 a2 a3) (impl_combined.f (k + 1) a0 a1 a2 a3) := by
  intro a0 a1 a2 a3 k
  obtain ⟨ih0, ih1, ih2⟩ := impl_combined.mono_l k
  unfold impl_combined.f
  repeat' first
      | (with_reducible exact ih0 _ _ _ _ _ _ _)
      | (with_reducible exact ih1 _ _ _ _ _ _ _ _ _ _ _)
      | (with_reducible exact ih2 _ _ _ _ _ _ _ _ _ _ _ _ _ _ _)
      | (with_reducible exact impl_mul.mono _ _ _)
      | (with_reducible exact LeO.refl _)
      | (with_reducible exact LeO.none _)
      | (with_reducible refine LeO.ite ?_ ?_)
      | (with_reducible refine LeO.bind ?_ (fun _ => ?_))
      | exact ih0 _ _ _ _ _ _ _
      | exact ih1 _ _ _ _ _ _ _ _ _ _ _
      | exact ih2 _ _ _ _ _ _ _ _ _ _ _ _ _ _ _
      | exact impl_mul.mono _ _ _
      | exact LeO.none _
      | refine LeO.ite ?_ ?_
      | refine LeO.bind ?_ (fun _ => ?_)
def impl_combined.T13 : Bool × List (List Nat × List Nat) := (true, [([], []), ([], []), ([0, 1], [0, 1]), ([2], [2]), ([], []), ([], []), ([], []), ([5, 6], [5, 6]), ([7], [7]), ([], []), ([8, 9], [8, 9]), ([10], [10]), ([4, 11], [4, 11]), ([12], [12]), ([3, 13], [3, 13]), ([0, 1, 0, 1, 2, 3, 4, 5, 6, 7, 8, 9, 10, 11, 12, 13, 14], [0, 1]), ([15, 14, 12, 0, 1, 2, 3, 4, 5, 6, 7, 8, 9, 10, 11, 12, 13, 14], [14, 15])])
def impl_combined.B13 : List Nat := [0, 0, 3, 7, 0, 0, 0, 96, 224, 0, 992, 2016, 4080, 8176, 16383, 32767, 65535]
theorem impl_combined.tab13 : rtab .any (opsOf Try.f96 13) = impl_combined.T13 := by kernel_rfl
theorem impl_combined.bits13 : waitsOk impl_combined.T13.2 impl_combined.B13 = true := by kernel_rfl
set_option maxHeartbeats 8000000 in
set_option maxRecDepth 100000 in
theorem impl_combined.calls (k : Nat) (a0_0 : Int) (a0_1 : Int) (A0_2 : Option Addr) (c0_2 : Nat) (l0_2 : List Int) (A1 : Option Addr) (c1 : Nat) (l1 : List ByteArray) (r : List ByteArray) (w : World) (hr0_2 : Kd.C (Kd.int .i64) w A0_2 l0_2.length l0_2) (hc0_2 : l0_2.length ≤ c0_2) (hr1 : Kd.C Kd.string w A1 l1.length l1) (hc1 : l1.length ≤ c1) (h : impl_combined.f k a0_0 a0_1 l0_2 l1 = some r) :
    Calls Try.prog 96 #[.agg #[.int .i64 a0_0, .int .i64 a0_1, .slice A0_2 l0_2.length c0_2], .slice A1 l1.length c1] w fun e w' => ∃ v0_ : Value, e = .returned (v0_) ∧ Kd.R Kd.string 9 w' w.heap.size (fun _ => True) v0_ r ∧ Below w.heap.size w w' := by
  have hu27 := Try.underlying27
  have HR0_2 := Aside0.mk hr0_2
  have HC0_2 := Aside0.mk hc0_2
  clear hr0_2 hc0_2
  have HR1 := Aside0.mk hr1
  have HC1 := Aside0.mk hc1
  clear hr1 hc1
  have HB := Aside0.mk (Below.refl w.heap.size w)
  have H : (impl_combined.l0 k l1 ([] : List ByteArray) a0_0 0 a0_0 a0_1 l0_2) = some r := h
  clear h
  have H' := Aside0.mk H
  clear H
  go_enter Try.func96, Try.ntmps96
  go_wp2_with (first | ((with_reducible refine gate_dst (N := 2) rfl ?_); refine box_event ?hg (N := 2) ?hd (cs := #[.int .i64 a0_0, .int .i64 a0_1, .slice A0_2 l0_2.length c0_2]) (t := 27) ?hr ?_; (case hd => rfl); (case hg => rfl); (case hr => first | (go_simp; done) | (go_simp; rfl)); intro gb223 hg w3 hbox hb; have n0_ := Aside0.mk (below_step (by repeat (first | (with_reducible first | exact HB.out | apply below_alloc | apply pw_below_drewN | apply below_drew1) | exact HB.out)) hb); have n1_ := Aside0.mk (hbox); have n2_ := Aside0.mk ((by rw [hg]; exact (below_size (by repeat (first | (with_reducible first | exact HB.out | apply below_alloc | apply pw_below_drewN | apply below_drew1) | exact HB.out))) : w.heap.size ≤ gb223)); have n3_ := Aside0.mk ((by rw [hg]; exact (below_size (by repeat (first | (with_reducible first | exact HB.out | apply below_alloc | apply pw_below_drewN | apply below_drew1) | exact HB.out))) : w.heap.size ≤ gb223)); clear HB; have HB := n0_; have BK223 := n1_; have GW223 := n2_; have GE223 := n3_; clear n0_ n1_ n2_ n3_; clear hb hbox hg; have hcz4_0 : w3.cell? ⟨gb223, 0, none⟩ = some (.int .i64 a0_0) := (blk_cell BK223.out 0).trans rfl; have hcz4_1 : w3.cell? ⟨gb223, 1, none⟩ = some (.int .i64 a0_1) := (blk_cell BK223.out 1).trans rfl; have hcz4_2 : w3.cell? ⟨gb223, 2, none⟩ = some (.slice A0_2 l0_2.length c0_2) := (blk_cell BK223.out 2).trans rfl; have hfz4_0 := blk_frozen BK223.out 0; have hfz4_1 := blk_frozen BK223.out 1; have hfz4_2 := blk_frozen BK223.out 2))
  go_loopg [5, 13] k (fun kq v5 v13 w' => ∃ (x5_1 : List ByteArray) (x13_1 : Int), v13 = .int .i64 x13_1 ∧ Aside0 (impl_combined.l0 kq l1 x5_1 a0_0 x13_1 a0_0 a0_1 l0_2 = some r) ∧ Aside0 (kq ≤ k) ∧ Aside0 (Kd.R Kd.string 9 w' w.heap.size (fun _ => True) v5 x5_1) ∧ Aside0 (w'.heap[gb223]? = some (.cells #[.int .i64 a0_0, .int .i64 a0_1, (.slice A0_2 l0_2.length c0_2)] 27 (0, 0))) ∧ Aside0 (Below w.heap.size w w'))
  case atStart => exact ⟨(([] : List ByteArray)), (0), (by first | rfl | (simp; done) | (simp [*]; done)), H', ⟨Nat.le_refl _⟩, ⟨by first | exact Kd.R_nil _ _ _ _ _ | exact Kd.N_nil _ _ _ _ _ | exact Kd.V_nil _ _ _ _ _ | exact Kd.Q_nil _ _ _ _ _ | exact Kd.S_nil _ _ _ _ _⟩, ⟨by (with_reducible repeat (first | refine blk_drewN ?_ _ | refine blk_drew ?_ | refine blk_alloc ?_ _)); exact BK223.out⟩, ⟨by repeat (first | (with_reducible first | exact HB.out | apply below_alloc | apply pw_below_drewN | apply below_drew1 | refine below_set ?_ GE223.out) | exact HB.out)⟩⟩
  case round =>
    clear H'
    try clear c1
    try clear p2
    try clear hcz4_0
    try clear hcz4_1
    try clear hcz4_2
    try clear hfz4_0
    try clear hfz4_1
    try clear hfz4_2
    obtain ⟨x5_1, x13_1, rfl, HA, HK1, HO_5, BK223, HB⟩ := hrel
    cases gk with
    | zero => exact absurd HA.out (by simp [impl_combined.l0])
    | succ k1 =>
      have H := HA.out
      clear HA
      simp only [impl_combined.l0] at H
      by_cases c5 : x13_1 < a0_0
      · rw [if_pos c5] at H
        have c5b0 : decide (x13_1 < a0_0) = true := decide_eq_true c5
        clear c5
        by_cases c6 : 0 < (l1.length : Int)
        · rw [if_pos c6] at H
          have c6b0 : decide (0 < (l1.length : Int)) = true := decide_eq_true c6
          have c6b1 : decide (0 < l1.length) = true := decide_eq_true (by omega)
          clear c6
          by_cases c7 : 0 ≤ ((rdOf ByteArray.empty l1 0).size : Int)
          · rw [if_pos c7] at H
            have c7b0 := eq_true c7
            have c7b1 : decide (0 ≤ ((rdOf ByteArray.empty l1 0).size : Int)) = true := decide_eq_true c7
            clear c7
            by_cases c8 : (((rdOf ByteArray.empty l1 0).size : Int) : Int).toNat ≤ 281474976710656
            · rw [if_pos c8] at H
              have c8b0 := eq_true c8
              have c8b1 : decide ((((rdOf ByteArray.empty l1 0).size : Int) : Int).toNat ≤ 281474976710656) = true := decide_eq_true c8
              clear c8
              obtain ⟨y225, hy225⟩ : ∃ y_ : List Int, y_ = (List.replicate (((rdOf ByteArray.empty l1 0).size : Int) : Int).toNat 0) := ⟨_, rfl⟩
              replace H : (if 0 ≤ (wrap64 (x13_1 * a0_1)) then (if (wrap64 (x13_1 * a0_1)) ≤ (wrap64 ((wrap64 (x13_1 + 1)) * a0_1)) then (if (wrap64 ((wrap64 (x13_1 + 1)) * a0_1)) ≤ (l0_2.length : Int) then (impl_combined.l1 k1 l1 x5_1 y225 a0_0 x13_1 ((l0_2.take ((wrap64 ((wrap64 (x13_1 + 1)) * a0_1)) : Int).toNat).drop ((wrap64 (x13_1 * a0_1)) : Int).toNat) (((l0_2.take ((wrap64 ((wrap64 (x13_1 + 1)) * a0_1)) : Int).toNat).drop ((wrap64 (x13_1 * a0_1)) : Int).toNat).length : Int) 0 a0_0 a0_1 l0_2) else (none)) else (none)) else (none)) = some r := by first | (rw [hy225]; with_reducible exact H) | (have H2_ := (Option.bind_some _ _).symm.trans H; rw [hy225]; with_reducible exact H2_) | (have H2_ := (Option.bind_some _ _).symm.trans H; with_reducible exact H2_) | with_reducible exact H | (rw [hy225]; exact H) | exact H
              have Ny225 := Aside0.mk hy225
              clear hy225
              obtain ⟨ji9, hji9⟩ : ∃ j_ : Int, (wrap64 (x13_1 * a0_1)) = j_ := ⟨_, rfl⟩
              replace H : (if 0 ≤ (ji9) then (if (ji9) ≤ (wrap64 ((wrap64 (x13_1 + 1)) * a0_1)) then (if (wrap64 ((wrap64 (x13_1 + 1)) * a0_1)) ≤ (l0_2.length : Int) then (impl_combined.l1 k1 l1 x5_1 y225 a0_0 x13_1 ((l0_2.take ((wrap64 ((wrap64 (x13_1 + 1)) * a0_1)) : Int).toNat).drop ((ji9) : Int).toNat) (((l0_2.take ((wrap64 ((wrap64 (x13_1 + 1)) * a0_1)) : Int).toNat).drop ((ji9) : Int).toNat).length : Int) 0 a0_0 a0_1 l0_2) else (none)) else (none)) else (none)) = some r := by first | (rw [hji9] at H; exact H) | (simp only [hji9] at H ⊢; exact H)
              have hji9w : (IntKind.i64.wrap (x13_1 * a0_1)) = ji9 := (i64_w _).trans hji9
              by_cases c10 : 0 ≤ (ji9)
              · rw [if_pos c10] at H
                have c10b0 := eq_true c10
                have c10b1 : decide (0 ≤ (ji9)) = true := decide_eq_true c10
                clear c10
                by_cases c11 : (ji9) ≤ (wrap64 ((wrap64 (x13_1 + 1)) * a0_1))
                · rw [if_pos c11] at H
                  have c11b0 := eq_true c11
                  have c11b1 : decide ((ji9) ≤ (wrap64 ((wrap64 (x13_1 + 1)) * a0_1))) = true := decide_eq_true c11
                  by_cases c12 : (wrap64 ((wrap64 (x13_1 + 1)) * a0_1)) ≤ (l0_2.length : Int)
                  · rw [if_pos c12] at H
                    have c12b0 := eq_true c12
                    have c12b1 : decide ((wrap64 ((wrap64 (x13_1 + 1)) * a0_1)) ≤ (l0_2.length : Int)) = true := decide_eq_true c12
                    have HMZl0_2 := Aside0.mk (of_decide_eq_true c12b1)
                    have H' := Aside0.mk H
                    clear H
                    have p224 : 0 ≤ (0 : Int) := (by omega)
                    have q224 : 0 < (l1.length : Int) := of_decide_eq_true (by first | (with_reducible assumption) | assumption)
                    obtain ⟨ad224, e224, hx224_0⟩ := Kd.at_string HR1.out 0 p224 q224
                    cases e224
                    have qi224 : (0 < l1.length) = True := eq_true (by omega)
                    (try rw [show ((0 : Int)).toNat = 0 from rfl] at hx224_0)
                    (try rw [Addr.add_zero'] at hx224_0)
                    replace hx224_0 := (HB.out.cell (World.block_lt_of_cell? w _ hx224_0)).trans hx224_0
                    replace p224 := eq_true p224
                    replace q224 := eq_true q224
                    go_wp2_with (first | ((with_reducible refine gate_dst (N := 20) rfl ?_); refine Kd.R_make (Kd.int .u8) _ 5 rfl (N := 20) rfl 31 _ _ rfl ((rdOf ByteArray.empty l1 0).size : Int) rfl rfl Try.underlying31 (.int .u8 0) 1 info5 rfl (by decide) (by omega) 0 (ok := fun _ => True) (okp := fun _ => True) rfl (fun _ hk => hk) trivial (of_decide_eq_true (by first | (with_reducible assumption) | assumption)) (Nat.le_trans (Nat.mul_le_mul_right _ (of_decide_eq_true (by first | (with_reducible assumption) | assumption) : ((rdOf ByteArray.empty l1 0).size : Int).toNat ≤ 281474976710656)) (by omega)) (Below.refl _ _) (Nat.le_refl _) ?_; intro v226 w13 ho14 hb hg_ hnew_; clear hg_ hnew_; (first | rw [← Ny225.out] at ho14 | (simp only [Int.reduceToNat] at ho14; rw [← Ny225.out] at ho14)); have n0_ := Aside0.mk (Kd.R_below (by (with_reducible repeat (first | apply Kd.R_alloc | apply Kd.R_drewN | apply Kd.R_drew)); exact HO_5.out) hb); have n1_ := Aside0.mk (Kd.R_lower ho14 (below_size (by repeat (first | (with_reducible first | exact HB.out | apply below_alloc | apply pw_below_drewN | apply below_drew1 | refine below_set ?_ GE223.out) | exact HB.out)))); have n2_ := Aside0.mk (blk_below (g := gb223) (o := .cells #[.int .i64 a0_0, .int .i64 a0_1, .slice A0_2 l0_2.length c0_2] 27 (0, 0)) (by (with_reducible repeat (first | refine blk_drewN ?_ _ | refine blk_drew ?_ | refine blk_alloc ?_ _)); exact BK223.out) hb); have n3_ := Aside0.mk (below_step (by repeat (first | (with_reducible first | exact HB.out | apply below_alloc | apply pw_below_drewN | apply below_drew1 | refine below_set ?_ GE223.out) | exact HB.out)) hb); clear HO_5; clear BK223; clear HB; have HO_5 := n0_; have HO227 := n1_; have BK223 := n2_; have HB := n3_; clear n0_ n1_ n2_ n3_; clear hb ho14; have hcz15_0 : w13.cell? ⟨gb223, 0, none⟩ = some (.int .i64 a0_0) := (blk_cell BK223.out 0).trans rfl; have hcz15_1 : w13.cell? ⟨gb223, 1, none⟩ = some (.int .i64 a0_1) := (blk_cell BK223.out 1).trans rfl; have hcz15_2 : w13.cell? ⟨gb223, 2, none⟩ = some (.slice A0_2 l0_2.length c0_2) := (blk_cell BK223.out 2).trans rfl; have hfz15_0 := blk_frozen BK223.out 0; have hfz15_1 := blk_frozen BK223.out 1; have hfz15_2 := blk_frozen BK223.out 2; obtain ⟨i016, hi016, _, hsz16, _⟩ := info_parts info2; obtain ⟨A16, hcut16, hA16, hC16⟩ := print_mid_of (P := Try.prog) (Value.int .i64) 0 22 2 .i64 .i64 Try.underlying22 hi016 hsz16 A0_2 c0_2 l0_2 (ji9) (wrap64 ((wrap64 (x13_1 + 1)) * a0_1)) (of_decide_eq_true (by first | (with_reducible assumption) | assumption)) (by first | omega | exact of_decide_eq_true (by first | (with_reducible assumption) | assumption)) (of_decide_eq_true (by first | (with_reducible assumption) | assumption)) HC0_2.out; have HR228 := Aside0.mk (Kd.C_of_reads (h1 := fun _ => rfl) (hA16 _ (Kd.reads_of_C HR0_2.out))); have HC228 := Aside0.mk hC16; clear hA16 hC16 hi016 hsz16) | (go_at_call 125; (with_reducible refine (Mx.row_calls _ _ _ _ _ _ _ _ _ _ hji9 rfl hcut16).mono ?_); rintro e wq_ ⟨rfl, rfl⟩))
                    go_loopg [25] k1 (fun kq v25 w' => ∃ (x7_2 : List Int) (x25_2 : Int), v25 = .int .i64 x25_2 ∧ Aside0 (impl_combined.l1 kq l1 x5_1 x7_2 a0_0 x13_1 ((l0_2.take ((wrap64 ((wrap64 (x13_1 + 1)) * a0_1)) : Int).toNat).drop ((ji9) : Int).toNat) (((l0_2.take ((wrap64 ((wrap64 (x13_1 + 1)) * a0_1)) : Int).toNat).drop ((ji9) : Int).toNat).length : Int) x25_2 a0_0 a0_1 l0_2 = some r) ∧ Aside0 (kq ≤ k1) ∧ Aside0 (Kd.R Kd.string 9 w' w.heap.size (fun _ => True) u5 x5_1) ∧ Aside0 (Kd.R (Kd.int .u8) 5 w' w.heap.size (fun _ => True) v226 x7_2) ∧ Aside0 (w'.heap[gb223]? = some (.cells #[.int .i64 a0_0, .int .i64 a0_1, (.slice A0_2 l0_2.length c0_2)] 27 (0, 0))) ∧ Aside0 (Below w.heap.size w w'))
                    case atStart => exact ⟨(y225), (0), (by first | rfl | (simp; done) | (simp [*]; done)), H', ⟨Nat.le_refl _⟩, ⟨by (with_reducible repeat (first | apply Kd.R_alloc | apply Kd.R_drewN | apply Kd.R_drew)); exact HO_5.out⟩, ⟨by (with_reducible repeat (first | apply Kd.R_alloc | apply Kd.R_drewN | apply Kd.R_drew)); exact HO227.out⟩, ⟨by (with_reducible repeat (first | refine blk_drewN ?_ _ | refine blk_drew ?_ | refine blk_alloc ?_ _)); exact BK223.out⟩, ⟨by repeat (first | (with_reducible first | exact HB.out | apply below_alloc | apply pw_below_drewN | apply below_drew1 | refine below_set ?_ GE223.out) | exact HB.out)⟩⟩
                    case round =>
                      clear H'
                      try clear c1
                      try clear p2
                      try clear q2
                      try clear hx2
                      try clear qi2
                      try clear c5
                      try clear c5b0
                      try clear c6
                      try clear c6b0
                      try clear c6b1
                      try clear p6
                      try clear c7
                      try clear c7b0
                      try clear c7b1
                      try clear c8
                      try clear c8b0
                      try clear c8b1
                      try clear c9
                      try clear c10
                      try clear c10b0
                      try clear c10b1
                      try clear c11
                      try clear c11b0
                      try clear c11b1
                      try clear c12
                      try clear c12b0
                      try clear c12b1
                      try clear hcz15_0
                      try clear hcz15_1
                      try clear hcz15_2
                      try clear hcz4_0
                      try clear hcz4_1
                      try clear hcz4_2
                      try clear hfz15_0
                      try clear hfz15_1
                      try clear hfz15_2
                      try clear hfz4_0
                      try clear hfz4_1
                      try clear hfz4_2
                      try clear hx224_0
                      try clear p2
                      try clear p224
                      try clear q224
                      obtain ⟨x7_2, x25_2, rfl, HA, HK2, HO_5, HO_7, BK223, HB⟩ := hrel
                      cases gk with
                      | zero => exact absurd HA.out (by simp [impl_combined.l1])
                      | succ k2 =>
                        have H := HA.out
                        clear HA
                        simp only [impl_combined.l1] at H
                        by_cases c17 : x25_2 < (((l0_2.take ((wrap64 ((wrap64 (x13_1 + 1)) * a0_1)) : Int).toNat).drop ((ji9) : Int).toNat).length : Int)
                        · rw [if_pos c17] at H
                          have c17b0 : decide (x25_2 < (((l0_2.take ((wrap64 ((wrap64 (x13_1 + 1)) * a0_1)) : Int).toNat).drop ((ji9) : Int).toNat).length : Int)) = true := decide_eq_true c17
                          have c17z := of_decide_eq_true c17b0
                          rw [Mx.mid_len _ _ _ HMZl0_2.out] at c17z
                          have c17y := decide_eq_true c17z
                          replace c17z := eq_true c17z
                          clear c17
                          by_cases c18 : 0 ≤ x25_2
                          · rw [if_pos c18] at H
                            have c18b0 : decide (0 ≤ x25_2) = true := decide_eq_true c18
                            clear c18
                            by_cases c19 : x25_2 < (((l0_2.take ((wrap64 ((wrap64 (x13_1 + 1)) * a0_1)) : Int).toNat).drop ((ji9) : Int).toNat).length : Int)
                            · rw [if_pos c19] at H
                              have c19b0 : decide (x25_2 < (((l0_2.take ((wrap64 ((wrap64 (x13_1 + 1)) * a0_1)) : Int).toNat).drop ((ji9) : Int).toNat).length : Int)) = true := decide_eq_true c19
                              have c19z := of_decide_eq_true c19b0
                              rw [Mx.mid_len _ _ _ HMZl0_2.out] at c19z
                              have c19y := decide_eq_true c19z
                              replace c19z := eq_true c19z
                              clear c19
                              by_cases c20 : (rd ((l0_2.take ((wrap64 ((wrap64 (x13_1 + 1)) * a0_1)) : Int).toNat).drop ((ji9) : Int).toNat) x25_2) = 0
                              · rw [if_pos c20] at H
                                have c20b0 : ((rd ((l0_2.take ((wrap64 ((wrap64 (x13_1 + 1)) * a0_1)) : Int).toNat).drop ((ji9) : Int).toNat) x25_2) == 0) = true := beq_iff_eq.mpr c20
                                have c20b1 : ((rd ((l0_2.take ((wrap64 ((wrap64 (x13_1 + 1)) * a0_1)) : Int).toNat).drop ((ji9) : Int).toNat) x25_2) != 0) = false := bne_eq_false_iff_eq.mpr c20
                                clear c20
                                have H' := Aside0.mk H
                                clear H
                                have p232 : 0 ≤ (x25_2 : Int) := of_decide_eq_true (by first | (with_reducible assumption) | assumption)
                                have q232 : x25_2 < (((l0_2.take ((wrap64 ((wrap64 (x13_1 + 1)) * a0_1)) : Int).toNat).drop ((ji9) : Int).toNat).length : Int) := of_decide_eq_true (by first | (with_reducible assumption) | assumption)
                                obtain ⟨ad232, e232, hx232_0⟩ := Kd.at_int HR228.out x25_2 p232 q232
                                cases e232
                                replace hx232_0 := (HB.out.cell (World.block_lt_of_cell? w _ hx232_0)).trans hx232_0
                                replace p232 := eq_true p232
                                replace q232 := eq_true q232
                                go_wp2
                                go_roundg k2
                                case measure => have := HK1.out; have := HK2.out; omega
                                case rel => exact ⟨(x7_2), (wrap64 (x25_2 + 1)), (by first | rfl | (simp; done) | (simp [*]; done)), H', ⟨by have := HK1.out; have := HK2.out; omega⟩, ⟨by (with_reducible repeat (first | apply Kd.R_alloc | apply Kd.R_drewN | apply Kd.R_drew)); exact HO_5.out⟩, ⟨by (with_reducible repeat (first | apply Kd.R_alloc | apply Kd.R_drewN | apply Kd.R_drew)); exact HO_7.out⟩, ⟨by (with_reducible repeat (first | refine blk_drewN ?_ _ | refine blk_drew ?_ | refine blk_alloc ?_ _)); exact BK223.out⟩, ⟨by repeat (first | (with_reducible first | exact HB.out | apply below_alloc | apply pw_below_drewN | apply below_drew1 | refine below_set ?_ GE223.out) | exact HB.out)⟩⟩
                              · rw [if_neg c20] at H
                                have c20b0 : ((rd ((l0_2.take ((wrap64 ((wrap64 (x13_1 + 1)) * a0_1)) : Int).toNat).drop ((ji9) : Int).toNat) x25_2) == 0) = false := beq_eq_false_iff_ne.mpr c20
                                have c20b1 : ((rd ((l0_2.take ((wrap64 ((wrap64 (x13_1 + 1)) * a0_1)) : Int).toNat).drop ((ji9) : Int).toNat) x25_2) != 0) = true := bne_iff_ne.mpr c20
                                have H' := Aside0.mk H
                                clear H
                                have p232 : 0 ≤ (x25_2 : Int) := of_decide_eq_true (by first | (with_reducible assumption) | assumption)
                                have q232 : x25_2 < (((l0_2.take ((wrap64 ((wrap64 (x13_1 + 1)) * a0_1)) : Int).toNat).drop ((ji9) : Int).toNat).length : Int) := of_decide_eq_true (by first | (with_reducible assumption) | assumption)
                                obtain ⟨ad232, e232, hx232_0⟩ := Kd.at_int HR228.out x25_2 p232 q232
                                cases e232
                                replace hx232_0 := (HB.out.cell (World.block_lt_of_cell? w _ hx232_0)).trans hx232_0
                                replace p232 := eq_true p232
                                replace q232 := eq_true q232
                                obtain ⟨Ao21, co21, eo21⟩ := Kd.R_slice HO_7.out
                                subst eo21
                                go_wp2
                                go_loopg [34] k2 (fun kq v34 w' => ∃ (x7_3 : List Int) (x34_3 : Int), v34 = .int .i64 x34_3 ∧ Aside0 (impl_combined.l2 kq l1 x5_1 x7_3 x25_2 (rd ((l0_2.take ((wrap64 ((wrap64 (x13_1 + 1)) * a0_1)) : Int).toNat).drop ((ji9) : Int).toNat) x25_2) a0_0 x13_1 ((l0_2.take ((wrap64 ((wrap64 (x13_1 + 1)) * a0_1)) : Int).toNat).drop ((ji9) : Int).toNat) (((l0_2.take ((wrap64 ((wrap64 (x13_1 + 1)) * a0_1)) : Int).toNat).drop ((ji9) : Int).toNat).length : Int) x25_2 (x7_2.length : Int) x34_3 a0_0 a0_1 l0_2 = some r) ∧ Aside0 (kq ≤ k2) ∧ Aside0 (Kd.R Kd.string 9 w' w.heap.size (fun _ => True) u5 x5_1) ∧ Aside0 (Kd.R (Kd.int .u8) 5 w' w.heap.size (fun _ => True) (.slice Ao21 x7_2.length co21) x7_3) ∧ Aside0 (w'.heap[gb223]? = some (.cells #[.int .i64 a0_0, .int .i64 a0_1, (.slice A0_2 l0_2.length c0_2)] 27 (0, 0))) ∧ Aside0 (Below w.heap.size w w'))
                                case atStart => exact ⟨(x7_2), (0), (by first | rfl | (simp; done) | (simp [*]; done)), H', ⟨Nat.le_refl _⟩, ⟨by (with_reducible repeat (first | apply Kd.R_alloc | apply Kd.R_drewN | apply Kd.R_drew)); exact HO_5.out⟩, ⟨by (with_reducible repeat (first | apply Kd.R_alloc | apply Kd.R_drewN | apply Kd.R_drew)); exact HO_7.out⟩, ⟨by (with_reducible repeat (first | refine blk_drewN ?_ _ | refine blk_drew ?_ | refine blk_alloc ?_ _)); exact BK223.out⟩, ⟨by repeat (first | (with_reducible first | exact HB.out | apply below_alloc | apply pw_below_drewN | apply below_drew1 | refine below_set ?_ GE223.out) | exact HB.out)⟩⟩
                                case round =>
                                  clear H'
                                  try clear c1
                                  try clear c2
                                  try clear p2
                                  try clear q2
                                  try clear hx2
                                  try clear qi2
                                  try clear c5
                                  try clear c5b0
                                  try clear c6
                                  try clear c6b0
                                  try clear c6b1
                                  try clear p6
                                  try clear c7
                                  try clear c7b0
                                  try clear c7b1
                                  try clear c8
                                  try clear c8b0
                                  try clear c8b1
                                  try clear c9
                                  try clear c10
                                  try clear c10b0
                                  try clear c10b1
                                  try clear c11
                                  try clear c11b0
                                  try clear c11b1
                                  try clear c12
                                  try clear c12b0
                                  try clear c12b1
                                  try clear c17
                                  try clear c17b0
                                  try clear c18
                                  try clear c18b0
                                  try clear c19
                                  try clear c19b0
                                  try clear c20
                                  try clear c20b0
                                  try clear c20b1
                                  try clear hcz15_0
                                  try clear hcz15_1
                                  try clear hcz15_2
                                  try clear hcz4_0
                                  try clear hcz4_1
                                  try clear hcz4_2
                                  try clear hfz15_0
                                  try clear hfz15_1
                                  try clear hfz15_2
                                  try clear hfz4_0
                                  try clear hfz4_1
                                  try clear hfz4_2
                                  try clear hx224_0
                                  try clear hx232_0
                                  try clear p2
                                  try clear p224
                                  try clear p232
                                  try clear p6
                                  try clear q2
                                  try clear q224
                                  try clear q232
                                  obtain ⟨x7_3, x34_3, rfl, HA, HK3, HO_5, HO_7, BK223, HB⟩ := hrel
                                  have hl7_3 := (Kd.R_reads' HO_7.out).1
                                  rw [hl7_3] at HO_7
                                  (try simp only [hl7_3])
                                  (try simp only [hl7_3] at BK223)
                                  (try simp only [hl7_3] at HO_5)
                                  cases gk with
                                  | zero => exact absurd HA.out (by simp [impl_combined.l2])
                                  | succ k3 =>
                                    have H := HA.out
                                    clear HA
                                    simp only [impl_combined.l2] at H
                                    by_cases c22 : x34_3 < (x7_2.length : Int)
                                    · rw [if_pos c22] at H
                                      have c22b0 : decide (x34_3 < (x7_2.length : Int)) = true := decide_eq_true c22
                                      clear c22
                                      by_cases c23 : 0 ≤ x34_3
                                      · rw [if_pos c23] at H
                                        have c23b0 : decide (0 ≤ x34_3) = true := decide_eq_true c23
                                        clear c23
                                        by_cases c24 : x34_3 < (x7_3.length : Int)
                                        · rw [if_pos c24] at H
                                          have c24b0 : decide (x34_3 < (x7_3.length : Int)) = true := decide_eq_true c24
                                          clear c24
                                          by_cases c25 : 0 ≤ x25_2
                                          · rw [if_pos c25] at H
                                            have c25b0 : decide (0 ≤ x25_2) = true := decide_eq_true c25
                                            clear c25
                                            by_cases c26 : x25_2 < (l1.length : Int)
                                            · rw [if_pos c26] at H
                                              have c26b0 : decide (x25_2 < (l1.length : Int)) = true := decide_eq_true c26
                                              clear c26
                                              by_cases c27 : x34_3 < ((rdOf ByteArray.empty l1 x25_2).size : Int)
                                              · rw [if_pos c27] at H
                                                have c27b0 : decide (x34_3 < ((rdOf ByteArray.empty l1 x25_2).size : Int)) = true := decide_eq_true c27
                                                clear c27
                                                replace H := Option.bind_eq_some_iff.mp H
                                                obtain ⟨t235, A290, H⟩ := H
                                                replace H : (impl_combined.l2 k3 l1 x5_1 (x7_3.set (x34_3 : Int).toNat (Go.bits .xor .u8 (rd x7_3 x34_3) ((t235) % 256))) x25_2 (rd ((l0_2.take ((wrap64 ((wrap64 (x13_1 + 1)) * a0_1)) : Int).toNat).drop ((ji9) : Int).toNat) x25_2) a0_0 x13_1 ((l0_2.take ((wrap64 ((wrap64 (x13_1 + 1)) * a0_1)) : Int).toNat).drop ((ji9) : Int).toNat) (((l0_2.take ((wrap64 ((wrap64 (x13_1 + 1)) * a0_1)) : Int).toNat).drop ((ji9) : Int).toNat).length : Int) x25_2 (x7_2.length : Int) (wrap64 (x34_3 + 1)) a0_0 a0_1 l0_2) = some r := H
                                                have A29 := Aside0.mk A290
                                                clear A290
                                                obtain ⟨y236, hy236⟩ : ∃ y_ : List Int, y_ = (x7_3.set (x34_3 : Int).toNat (Go.bits .xor .u8 (rd x7_3 x34_3) ((t235) % 256))) := ⟨_, rfl⟩
                                                replace H : (impl_combined.l2 k3 l1 x5_1 y236 x25_2 (rd ((l0_2.take ((wrap64 ((wrap64 (x13_1 + 1)) * a0_1)) : Int).toNat).drop ((ji9) : Int).toNat) x25_2) a0_0 x13_1 ((l0_2.take ((wrap64 ((wrap64 (x13_1 + 1)) * a0_1)) : Int).toNat).drop ((ji9) : Int).toNat) (((l0_2.take ((wrap64 ((wrap64 (x13_1 + 1)) * a0_1)) : Int).toNat).drop ((ji9) : Int).toNat).length : Int) x25_2 (x7_2.length : Int) (wrap64 (x34_3 + 1)) a0_0 a0_1 l0_2) = some r := by first | (rw [hy236]; with_reducible exact H) | (have H2_ := (Option.bind_some _ _).symm.trans H; rw [hy236]; with_reducible exact H2_) | (have H2_ := (Option.bind_some _ _).symm.trans H; with_reducible exact H2_) | with_reducible exact H | (rw [hy236]; exact H) | exact H
                                                have Ny236 := Aside0.mk hy236
                                                clear hy236
                                                have H' := Aside0.mk H
                                                clear H
                                                try go_wp2
                                                have n0_ := Aside0.mk (Kd.R_drew HO_5.out)
                                                have n1_ := Aside0.mk (Kd.R_drew HO_7.out)
                                                have n2_ := Aside0.mk (blk_drew BK223.out)
                                                have n3_ := Aside0.mk (below_drew1 HB.out)
                                                clear HO_5
                                                clear HO_7
                                                clear BK223
                                                clear HB
                                                have HO_5 := n0_
                                                have HO_7 := n1_
                                                have BK223 := n2_
                                                have HB := n3_
                                                clear n0_ n1_ n2_ n3_
                                                have p233 : 0 ≤ (x34_3 : Int) := of_decide_eq_true (by first | (with_reducible assumption) | assumption)
                                                have q233 : x34_3 < (x7_3.length : Int) := of_decide_eq_true (by first | (with_reducible assumption) | assumption)
                                                obtain ⟨ad233, e233, hx233_0⟩ := Kd.at_int (Kd.R_reads' HO_7.out).2.2 x34_3 p233 q233
                                                cases e233
                                                replace p233 := eq_true p233
                                                replace q233 := eq_true q233
                                                have p234 : 0 ≤ (x25_2 : Int) := of_decide_eq_true (by first | (with_reducible assumption) | assumption)
                                                have q234 : x25_2 < (l1.length : Int) := of_decide_eq_true (by first | (with_reducible assumption) | assumption)
                                                obtain ⟨ad234, e234, hx234_0⟩ := Kd.at_string HR1.out x25_2 p234 q234
                                                have hw234_0 := hx234_0
                                                obtain rfl : ad224 = ad234 := (by injection e234)
                                                replace hx234_0 := (HB.out.cell (World.block_lt_of_cell? w _ hx234_0)).trans hx234_0
                                                replace p234 := eq_true p234
                                                replace q234 := eq_true q234
                                                have p28 : 0 ≤ (x34_3 : Int) := of_decide_eq_true (by first | (with_reducible assumption) | assumption)
                                                have q28 : x34_3 < ((rdOf ByteArray.empty l1 x25_2).size : Int) := of_decide_eq_true (by first | (with_reducible assumption) | assumption)
                                                have hx28 := bt_at (rdOf ByteArray.empty l1 x25_2) x34_3
                                                replace p28 := eq_true p28
                                                replace q28 := eq_true q28
                                                refine start_ (n := 17) (S := fun w' => w'.cell? (ad233.add (x34_3).toNat) = some (.int .u8 (rd x7_3 x34_3)) ∧ w'.cell? (ad224.add (x25_2).toNat) = some (.string (rdOf ByteArray.empty l1 x25_2))) (ds := [16]) #[false, false, false, false, false, false, false, false, false, false, false, false, false, false, false, false, false] (by kernel_rfl) rfl rfl ⟨hx233_0, ((HB.out.cell (World.block_lt_of_cell? w _ hw234_0)).trans hw234_0)⟩ (fun hHeld => ?_); refine with_tabW impl_combined.tab13 impl_combined.bits13 (fun HT_ HW_ => ?_)
                                                generalize wr.drew = w31 at HO_5 HO_7 BK223 HB hx233_0 hx234_0 hHeld ⊢
                                                refine pure_ (i := 0) (N := some 37) (v := ?_) (a' := ?_) #[true, false, false, false, false, false, false, false, false, false, false, false, false, false, false, false, false] rfl rfl (any_of HT_.out (by kernel_rfl)) (fun _ _ _ h => h) (Or.inl ⟨by rfl, ?_⟩) ?_ ?_
                                                rotate_left
                                                · intro w'
                                                  go_simp
                                                  with_reducible rfl
                                                rotate_left
                                                · simp only [Act.put, List.setIfInBounds_toArray, List.set_cons_zero, List.set_cons_succ, i64_w, i32_w]
                                                  rfl
                                                refine pure_ (i := 1) (N := some 38) (v := ?_) (a' := ?_) #[true, true, false, false, false, false, false, false, false, false, false, false, false, false, false, false, false] rfl rfl (any_of HT_.out (by kernel_rfl)) (fun _ _ _ h => h) (Or.inl ⟨by rfl, ?_⟩) ?_ ?_
                                                rotate_left
                                                · intro w'
                                                  go_simp
                                                  with_reducible rfl
                                                rotate_left
                                                · simp only [Act.put, List.setIfInBounds_toArray, List.set_cons_zero, List.set_cons_succ, i64_w, i32_w]
                                                  rfl
                                                refine pure_ (i := 2) (N := some 39) (v := ?_) (a' := ?_) #[true, true, true, false, false, false, false, false, false, false, false, false, false, false, false, false, false] rfl rfl (any_of HT_.out (by kernel_rfl)) (fun _ _ _ h => h) (Or.inl ⟨by rfl, ?_⟩) ?_ ?_
                                                rotate_left
                                                · intro w'
                                                  go_simp
                                                  with_reducible rfl
                                                rotate_left
                                                · simp only [Act.put, List.setIfInBounds_toArray, List.set_cons_zero, List.set_cons_succ, i64_w, i32_w]
                                                  rfl
                                                refine pure_ (i := 4) (N := some 41) (v := ?_) (a' := ?_) #[true, true, true, false, true, false, false, false, false, false, false, false, false, false, false, false, false] rfl rfl (any_of HT_.out (by kernel_rfl)) (fun _ _ _ h => h) (Or.inl ⟨by rfl, ?_⟩) ?_ ?_
                                                rotate_left
                                                · intro w'
                                                  go_simp
                                                  with_reducible rfl
                                                rotate_left
                                                · simp only [Act.put, List.setIfInBounds_toArray, List.set_cons_zero, List.set_cons_succ, i64_w, i32_w]
                                                  rfl
                                                refine pure_ (i := 5) (N := some 42) (v := ?_) (a' := ?_) #[true, true, true, false, true, true, false, false, false, false, false, false, false, false, false, false, false] rfl rfl (any_of HT_.out (by kernel_rfl)) (fun _ _ _ h => h) (Or.inl ⟨by rfl, ?_⟩) ?_ ?_
                                                rotate_left
                                                · intro w'
                                                  go_simp
                                                  with_reducible rfl
                                                rotate_left
                                                · simp only [Act.put, List.setIfInBounds_toArray, List.set_cons_zero, List.set_cons_succ, i64_w, i32_w]
                                                  rfl
                                                refine pure_ (i := 6) (N := some 43) (v := ?_) (a' := ?_) #[true, true, true, false, true, true, true, false, false, false, false, false, false, false, false, false, false] rfl rfl (any_of HT_.out (by kernel_rfl)) (fun _ _ _ h => h) (Or.inl ⟨by rfl, ?_⟩) ?_ ?_
                                                rotate_left
                                                · intro w'
                                                  go_simp
                                                  with_reducible rfl
                                                rotate_left
                                                · simp only [Act.put, List.setIfInBounds_toArray, List.set_cons_zero, List.set_cons_succ, i64_w, i32_w]
                                                  rfl
                                                refine pure_ (i := 7) (N := some 44) (v := ?_) (a' := ?_) #[true, true, true, false, true, true, true, true, false, false, false, false, false, false, false, false, false] rfl rfl (any_of HT_.out (by kernel_rfl)) (fun _ _ _ h => h) (Or.inl ⟨by rfl, ?_⟩) ?_ ?_
                                                rotate_left
                                                · intro w'
                                                  go_simp
                                                  with_reducible rfl
                                                rotate_left
                                                · simp only [Act.put, List.setIfInBounds_toArray, List.set_cons_zero, List.set_cons_succ, i64_w, i32_w]
                                                  rfl
                                                refine pure_ (i := 9) (N := some 46) (v := ?_) (a' := ?_) #[true, true, true, false, true, true, true, true, false, true, false, false, false, false, false, false, false] rfl rfl (any_of HT_.out (by kernel_rfl)) (fun _ _ _ h => h) (Or.inl ⟨by rfl, ?_⟩) ?_ ?_
                                                rotate_left
                                                · intro w'
                                                  go_simp
                                                  with_reducible rfl
                                                rotate_left
                                                · simp only [Act.put, List.setIfInBounds_toArray, List.set_cons_zero, List.set_cons_succ, i64_w, i32_w]
                                                  rfl
                                                refine take_ (i := 3) (N := some 40) (v := ?_) (a' := ?_) #[true, true, true, true, true, true, true, true, false, true, false, false, false, false, false, false, false] rfl rfl (take_ofW HT_.out HW_.out (by kernel_rfl)) (fun _ _ _ h => h) (Or.inl ⟨by rfl, ?_⟩) hHeld ?_ ?_
                                                rotate_left
                                                · rintro w' ⟨s0, s1⟩
                                                  go_simp
                                                  with_reducible rfl
                                                rotate_left
                                                · simp only [Act.put, List.setIfInBounds_toArray, List.set_cons_zero, List.set_cons_succ, i64_w, i32_w]
                                                  rfl
                                                refine take_ (i := 8) (N := some 45) (v := ?_) (a' := ?_) #[true, true, true, true, true, true, true, true, true, true, false, false, false, false, false, false, false] rfl rfl (take_ofW HT_.out HW_.out (by kernel_rfl)) (fun _ _ _ h => h) (Or.inl ⟨by rfl, ?_⟩) hHeld ?_ ?_
                                                rotate_left
                                                · rintro w' ⟨s0, s1⟩
                                                  go_simp
                                                  with_reducible rfl
                                                rotate_left
                                                · simp only [Act.put, List.setIfInBounds_toArray, List.set_cons_zero, List.set_cons_succ, i64_w, i32_w]
                                                  rfl
                                                refine take_ (i := 10) (N := some 47) (v := ?_) (a' := ?_) #[true, true, true, true, true, true, true, true, true, true, true, false, false, false, false, false, false] rfl rfl (take_ofW HT_.out HW_.out (by kernel_rfl)) (fun _ _ _ h => h) (Or.inl ⟨by rfl, ?_⟩) hHeld ?_ ?_
                                                rotate_left
                                                · rintro w' ⟨s0, s1⟩
                                                  go_simp
                                                  with_reducible rfl
                                                rotate_left
                                                · simp only [Act.put, List.setIfInBounds_toArray, List.set_cons_zero, List.set_cons_succ, i64_w, i32_w]
                                                  rfl
                                                refine pure_ (i := 11) (N := some 48) (v := ?_) (a' := ?_) #[true, true, true, true, true, true, true, true, true, true, true, true, false, false, false, false, false] rfl rfl (any_of HT_.out (by kernel_rfl)) (fun _ _ _ h => h) (Or.inl ⟨by rfl, ?_⟩) ?_ ?_
                                                rotate_left
                                                · intro w'
                                                  go_simp
                                                  with_reducible rfl
                                                rotate_left
                                                · simp only [Act.put, List.setIfInBounds_toArray, List.set_cons_zero, List.set_cons_succ, i64_w, i32_w]
                                                  rfl
                                                refine one_ (i := 12) (N := some 49) #[true, true, true, true, true, true, true, true, true, true, true, true, true, false, false, false, false] rfl rfl (one_of HT_.out (by kernel_rfl)) (by decide) (fun K hK => ?_)
                                                refine goes_ Try.func132 (by kernel_rfl) rfl #[.int .i64 (rd ((l0_2.take ((wrap64 ((wrap64 (x13_1 + 1)) * a0_1)) : Int).toNat).drop ((ji9) : Int).toNat) x25_2), .int .i64 (wrap64 (bt (rdOf ByteArray.empty l1 x25_2) x34_3))] (by rfl) rfl rfl (by (try simp only [List.map_toArray, List.map_cons, List.map_nil]); first | done | (simp only [hji9]; rfl) | rfl | (simp only [List.length_drop, List.length_take]; rfl)) ?_
                                                with_reducible refine (impl_mul.calls k3 (rd ((l0_2.take ((wrap64 ((wrap64 (x13_1 + 1)) * a0_1)) : Int).toNat).drop ((ji9) : Int).toNat) x25_2) (wrap64 (bt (rdOf ByteArray.empty l1 x25_2) x34_3)) t235 _ A29.out).mono ?_
                                                rintro e w' ⟨rfl, ⟨nd, rfl⟩⟩
                                                refine ⟨_, rfl, ?_⟩
                                                have p30 : 0 ≤ (x34_3 : Int) := of_decide_eq_true (by first | (with_reducible assumption) | assumption)
                                                have q30 : (x34_3 : Int) < ((x7_3.length : Int) : Int) := of_decide_eq_true (by first | (with_reducible assumption) | assumption)
                                                obtain ⟨go30, co30, eo30, gb30, gl30, cl30, HG30⟩ := Kd.R_form HO_7.out (by omega)
                                                (first | cases eo30 | (injection eo30 with ea_ en_ ec_; (first | subst ea_ | (injection ea_ with ea_; subst ea_)); subst ec_; clear en_))
                                                have GB30 := Aside0.mk gb30
                                                have GG30 := Aside0.mk HG30
                                                clear gb30 gl30 HG30
                                                (first | simp only [add_plain] at hx233_0 | skip)
                                                obtain ⟨hx30_0, hf30_0⟩ := Kd.R_celln 0 HO_7.out (x34_3 : Int) p30 q30
                                                replace p30 := eq_true p30
                                                replace q30 := eq_true q30
                                                have HP32 := Kd.R_putn HO_7.out (x34_3 : Int) (Go.bits .xor .u8 (rd x7_3 x34_3) ((t235) % 256))
                                                rw [← Ny236.out] at HP32
                                                have HQ32 := Aside0.mk HP32
                                                clear HP32
                                                refine hK.out _ _ ⟨hHeld.1, ((HB.out.cell (World.block_lt_of_cell? w _ hw234_0)).trans hw234_0)⟩ (fun hHeld => ?_)
                                                clear hK K
                                                refine norm_ (a' := ?_) ?_ ?_
                                                rotate_left
                                                · show Act.put _ (some 49) _ = _
                                                  simp only [Act.put, List.setIfInBounds_toArray, List.set_cons_zero, List.set_cons_succ, i64_w, i32_w]
                                                  rfl
                                                refine pure_ (i := 13) (N := some 50) (v := ?_) (a' := ?_) #[true, true, true, true, true, true, true, true, true, true, true, true, true, true, false, false, false] rfl rfl (any_of HT_.out (by kernel_rfl)) (fun _ _ _ h => h) (Or.inl ⟨by rfl, ?_⟩) ?_ ?_
                                                rotate_left
                                                · intro w'
                                                  go_simp
                                                  with_reducible rfl
                                                rotate_left
                                                · simp only [Act.put, List.setIfInBounds_toArray, List.set_cons_zero, List.set_cons_succ, i64_w, i32_w]
                                                  rfl
                                                refine pure_ (i := 14) (N := some 51) (v := ?_) (a' := ?_) #[true, true, true, true, true, true, true, true, true, true, true, true, true, true, true, false, false] rfl rfl (any_of HT_.out (by kernel_rfl)) (fun _ _ _ h => h) (Or.inl ⟨by rfl, ?_⟩) ?_ ?_
                                                rotate_left
                                                · intro w'
                                                  go_simp
                                                  with_reducible rfl
                                                rotate_left
                                                · simp only [Act.put, List.setIfInBounds_toArray, List.set_cons_zero, List.set_cons_succ, i64_w, i32_w]
                                                  rfl
                                                refine pure_ (i := 15) (N := some 52) (v := ?_) (a' := ?_) #[true, true, true, true, true, true, true, true, true, true, true, true, true, true, true, true, false] rfl rfl (any_of HT_.out (by kernel_rfl)) (fun _ _ _ h => h) (Or.inl ⟨by rfl, ?_⟩) ?_ ?_
                                                rotate_left
                                                · intro w'
                                                  go_simp
                                                  with_reducible rfl
                                                rotate_left
                                                · simp only [Act.put, List.setIfInBounds_toArray, List.set_cons_zero, List.set_cons_succ, i64_w, i32_w]
                                                  rfl
                                                refine last_ (i := 16) (N := none) #[true, true, true, true, true, true, true, true, true, true, true, true, true, true, true, true, true] rfl rfl (one_of HT_.out (by kernel_rfl)) (by decide) (fun K hK => ?_)
                                                refine skip_ (w1 := ?_) (by rfl) rfl ?_ ?_
                                                rotate_left
                                                · go_simp
                                                  rfl
                                                refine hK.out _ _ ?_
                                                clear hK K
                                                refine done_ (done_of HT_.out (by kernel_rfl)) ?_
                                                try go_wp2
                                                (try simp only [← hl7_3])
                                                go_roundg k3
                                                case measure => have := HK1.out; have := HK2.out; have := HK3.out; omega
                                                case rel => exact ⟨(y236), (wrap64 (x34_3 + 1)), (by first | rfl | (simp; done) | (simp [*]; done)), H', ⟨by have := HK1.out; have := HK2.out; have := HK3.out; omega⟩, ⟨by (try simp only [hl7_3]); (with_reducible repeat (first | apply Kd.R_alloc | apply Kd.R_drewN | apply Kd.R_drew)); exact Kd.R_mono (Kd.R_far (p := ⟨go30, (x34_3 : Int).toNat, none⟩) (Kd.R_types HO_5.out GG30.out (by decide)) (fun _ hk => hk.2) (.int .u8 (Go.bits .xor .u8 (rd x7_3 x34_3) ((t235) % 256)))) (fun _ hk => trivial)⟩, ⟨by (try simp only [hl7_3]); (with_reducible repeat (first | apply Kd.R_alloc | apply Kd.R_drewN | apply Kd.R_drew)); exact HQ32.out⟩, ⟨by (try simp only [hl7_3]); (with_reducible repeat (first | refine blk_drewN ?_ _ | refine blk_drew ?_ | refine blk_alloc ?_ _)); refine blk_far ?_ (by have h_ := Kd.R_ne HO_7.out BK223.out (by decide); intro e_; exact h_ (by rw [e_]; rfl)) _; (with_reducible repeat (first | refine blk_drewN ?_ _ | refine blk_drew ?_ | refine blk_alloc ?_ _)); exact BK223.out⟩, ⟨by repeat (first | (with_reducible first | exact HB.out | apply below_alloc | apply pw_below_drewN | apply below_drew1 | refine below_set ?_ GB30.out | refine below_set ?_ GE223.out) | exact HB.out)⟩⟩
                                              · rw [if_neg c27] at H
                                                exact absurd H (by simp)
                                            · rw [if_neg c26] at H
                                              exact absurd H (by simp)
                                          · rw [if_neg c25] at H
                                            exact absurd H (by simp)
                                        · rw [if_neg c24] at H
                                          exact absurd H (by simp)
                                      · rw [if_neg c23] at H
                                        exact absurd H (by simp)
                                    · rw [if_neg c22] at H
                                      have c22b0 : decide (x34_3 < (x7_2.length : Int)) = false := decide_eq_false c22
                                      have c22b9 : decide (x34_3 < (x7_3.length : Int)) = false := by (rw [← hl7_3]; exact c22b0)
                                      clear c22
                                      have H' := Aside0.mk H
                                      clear H
                                      go_wp2
                                      (try simp only [← hl7_3])
                                      go_roundg k3
                                      case measure => have := HK1.out; have := HK2.out; have := HK3.out; omega
                                      case rel => exact ⟨(x7_3), (wrap64 (x25_2 + 1)), (by first | rfl | (simp; done) | (simp [*]; done)), H', ⟨by have := HK1.out; have := HK2.out; have := HK3.out; omega⟩, ⟨by (try simp only [hl7_3]); (with_reducible repeat (first | apply Kd.R_alloc | apply Kd.R_drewN | apply Kd.R_drew)); exact HO_5.out⟩, ⟨by (try simp only [hl7_3]); (with_reducible repeat (first | apply Kd.R_alloc | apply Kd.R_drewN | apply Kd.R_drew)); exact HO_7.out⟩, ⟨by (try simp only [hl7_3]); (with_reducible repeat (first | refine blk_drewN ?_ _ | refine blk_drew ?_ | refine blk_alloc ?_ _)); exact BK223.out⟩, ⟨by repeat (first | (with_reducible first | exact HB.out | apply below_alloc | apply pw_below_drewN | apply below_drew1 | refine below_set ?_ GE223.out) | exact HB.out)⟩⟩
                            · rw [if_neg c19] at H
                              exact absurd H (by simp)
                          · rw [if_neg c18] at H
                            exact absurd H (by simp)
                        · rw [if_neg c17] at H
                          have c17b0 : decide (x25_2 < (((l0_2.take ((wrap64 ((wrap64 (x13_1 + 1)) * a0_1)) : Int).toNat).drop ((ji9) : Int).toNat).length : Int)) = false := decide_eq_false c17
                          have c17z := c17b0
                          rw [Mx.mid_len _ _ _ HMZl0_2.out] at c17z
                          clear c17
                          by_cases c33 : x5_1.length < 8796093022208
                          · rw [if_pos c33] at H
                            have LMc33 := Aside0.mk c33
                            clear c33
                            obtain ⟨y229, hy229⟩ : ∃ y_ : List ByteArray, y_ = (x5_1 ++ [strOfNums x7_2]) := ⟨_, rfl⟩
                            replace H : (impl_combined.l0 k2 l1 y229 a0_0 (wrap64 (x13_1 + 1)) a0_0 a0_1 l0_2) = some r := by first | (rw [hy229]; with_reducible exact H) | (have H2_ := (Option.bind_some _ _).symm.trans H; rw [hy229]; with_reducible exact H2_) | (have H2_ := (Option.bind_some _ _).symm.trans H; with_reducible exact H2_) | with_reducible exact H | (rw [hy229]; exact H) | exact H
                            have Ny229 := Aside0.mk hy229
                            clear hy229
                            have H' := Aside0.mk H
                            clear H
                            have hcv34 := own_string (P := Try.prog) Try.underlying31 Try.underlying5 Try.underlying9 (Kd.own_of_R HO_7.out)
                            go_wp2_with (first | ((with_reducible refine gate_builtin (b := .append) (xs := #[.tmp 55, .tmp 58]) rfl ?_); at_builtin; refine Kd.R_append Kd.string (w0 := w) w.heap.size rfl (.tmp 55) (.tmp 58) 52 9 (.string ⟨#[]⟩) 16 rfl Try.underlying52 info9 rfl (by decide) (by omega) u5 x5_1 (strOfNums x7_2) [.string (strOfNums x7_2)] (fun _ => True) (fun _ => False) rfl rfl ?aP (fun _ hk => hk.elim) ?aF ?aO ?aB ?aS ?aL ?_; (case aP => exact rfl); (case aB => exact (by repeat (first | (with_reducible first | exact HB.out | apply below_alloc | apply pw_below_drewN | apply below_drew1 | refine below_set ?_ GE223.out) | exact HB.out))); (case aF => exact (fun _ _ => trivial)); (case aO => exact (by (with_reducible repeat (first | apply Kd.R_alloc | apply Kd.R_drewN | apply Kd.R_drew)); exact HO_5.out)); (case aS => exact (below_size (by repeat (first | (with_reducible first | exact HB.out | apply below_alloc | apply pw_below_drewN | apply below_drew1 | refine below_set ?_ GE223.out) | exact HB.out)))); (case aL => have := LMc33.out; omega); intro v230 w35 ho hb hg hat; rw [← Ny229.out] at ho; have n0_ := Aside0.mk (Kd.R_over' (by (with_reducible repeat (first | apply Kd.R_alloc | apply Kd.R_drewN | apply Kd.R_drew)); exact HO_7.out) (Kd.R_typed (by (with_reducible repeat (first | apply Kd.R_alloc | apply Kd.R_drewN | apply Kd.R_drew)); exact HO_5.out)) (by decide) hg); have n1_ := Aside0.mk (blk_grown (g := gb223) (o := .cells #[.int .i64 a0_0, .int .i64 a0_1, .slice A0_2 l0_2.length c0_2] 27 (0, 0)) (by (with_reducible repeat (first | refine blk_drewN ?_ _ | refine blk_drew ?_ | refine blk_alloc ?_ _)); exact BK223.out) hg (Kd.R_ne HO_5.out BK223.out (by decide))); have n2_ := Aside0.mk (hb); have n3_ := Aside0.mk (ho); clear HO_7; clear BK223; clear HB; clear HO_5; have HO_7 := n0_; have BK223 := n1_; have HB := n2_; have HO231 := n3_; clear n0_ n1_ n2_ n3_; clear ho hb hg hat))
                            go_roundg k2
                            case measure => have := HK1.out; have := HK2.out; omega
                            case rel => exact ⟨(y229), (wrap64 (x13_1 + 1)), (by first | rfl | (simp; done) | (simp [*]; done)), H', ⟨by have := HK1.out; have := HK2.out; omega⟩, ⟨by (with_reducible repeat (first | apply Kd.R_alloc | apply Kd.R_drewN | apply Kd.R_drew)); exact HO231.out⟩, ⟨by (with_reducible repeat (first | refine blk_drewN ?_ _ | refine blk_drew ?_ | refine blk_alloc ?_ _)); exact BK223.out⟩, ⟨by repeat (first | (with_reducible first | exact HB.out | apply below_alloc | apply pw_below_drewN | apply below_drew1 | refine below_set ?_ GE223.out) | exact HB.out)⟩⟩
                          · rw [if_neg c33] at H
                            exact absurd H (by simp)
                  · rw [if_neg c12] at H
                    exact absurd H (by simp)
                · rw [if_neg c11] at H
                  exact absurd H (by simp)
              · rw [if_neg c10] at H
                exact absurd H (by simp)
            · rw [if_neg c8] at H
              exact absurd H (by simp)
          · rw [if_neg c7] at H
            exact absurd H (by simp)
        · rw [if_neg c6] at H
          exact absurd H (by simp)
      · rw [if_neg c5] at H
        have c5b0 : decide (x13_1 < a0_0) = false := decide_eq_false c5
        clear c5
        obtain rfl := Option.some.inj H
        go_wp2
        go_ret
        exact ⟨_, by first | rfl | (simp [errW_none, errW_some] <;> rfl) | (simp [*, errW_none, errW_some] <;> rfl), by (with_reducible repeat (first | apply Kd.R_alloc | apply Kd.R_drewN | apply Kd.R_drew)); exact HO_5.out, by repeat (first | (with_reducible first | exact HB.out | apply below_alloc | apply pw_below_drewN | apply below_drew1 | refine below_set ?_ GE223.out) | exact HB.out)⟩

/-! ### impl_long: function 113 -/
def impl_long.f (a0 : ByteArray) : Option (Int) := some (a0.size : Int)
set_option maxHeartbeats 8000000 in
set_option maxRecDepth 100000 in
theorem impl_long.calls (a0 : ByteArray) (r : Int) (w : World) (h : impl_long.f a0 = some r) :
    Calls Try.prog 113 #[.string a0] w fun e w' => e = .returned (.int .i64 r) ∧ Drawn0 w w' := by
  have H : (some (a0.size : Int)) = some r := h
  clear h
  obtain rfl := Option.some.inj H
  go_enter Try.func113, Try.ntmps113
  go_wp2
  go_ret
  exact ⟨by first | rfl | (simp; done) | (simp [*]; done), by repeat (first | exact Drawn0.refl _ | apply Drawn0.step)⟩

/-! ### impl_ShardSize: function 118 -/
def impl_ShardSize.f (a0 : Int) (a1 : Int) : Option (Int) := (impl_within.f a0 1 8).bind fun t237 => (if t237 = true then ((impl_within.f a1 0 20000).bind fun t238 => (if t238 = true then (if a0 = 0 then (none) else (some (wrap64 (Int.tdiv (wrap64 ((wrap64 (a1 + a0)) - 1)) a0)))) else (some 0))) else (some 0))
set_option maxHeartbeats 8000000 in
set_option maxRecDepth 100000 in
theorem impl_ShardSize.calls (a0 : Int) (a1 : Int) (r : Int) (w : World) (h : impl_ShardSize.f a0 a1 = some r) :
    Calls Try.prog 118 #[.int .i64 a0, .int .i64 a1] w fun e w' => e = .returned (.int .i64 r) ∧ Drawn0 w w' := by
  have H : ((impl_within.f a0 1 8).bind fun t237 => (if t237 = true then ((impl_within.f a1 0 20000).bind fun t238 => (if t238 = true then (if a0 = 0 then (none) else (some (wrap64 (Int.tdiv (wrap64 ((wrap64 (a1 + a0)) - 1)) a0)))) else (some 0))) else (some 0))) = some r := h
  clear h
  replace H := Option.bind_eq_some_iff.mp H
  obtain ⟨t237, A30, H⟩ := H
  replace H : (if t237 = true then ((impl_within.f a1 0 20000).bind fun t238 => (if t238 = true then (if a0 = 0 then (none) else (some (wrap64 (Int.tdiv (wrap64 ((wrap64 (a1 + a0)) - 1)) a0)))) else (some 0))) else (some 0)) = some r := H
  have A3 := Aside0.mk A30
  clear A30
  by_cases c4 : t237 = true
  · subst c4
    have H1 : ((impl_within.f a1 0 20000).bind fun t238 => (if t238 = true then (if a0 = 0 then (none) else (some (wrap64 (Int.tdiv (wrap64 ((wrap64 (a1 + a0)) - 1)) a0)))) else (some 0))) = some r := by rw [if_pos rfl] at H; exact H
    clear H
    have H := H1
    clear H1
    replace H := Option.bind_eq_some_iff.mp H
    obtain ⟨t238, A50, H⟩ := H
    replace H : (if t238 = true then (if a0 = 0 then (none) else (some (wrap64 (Int.tdiv (wrap64 ((wrap64 (a1 + a0)) - 1)) a0)))) else (some 0)) = some r := H
    have A5 := Aside0.mk A50
    clear A50
    by_cases c6 : t238 = true
    · subst c6
      have H1 : (if a0 = 0 then (none) else (some (wrap64 (Int.tdiv (wrap64 ((wrap64 (a1 + a0)) - 1)) a0)))) = some r := by rw [if_pos rfl] at H; exact H
      clear H
      have H := H1
      clear H1
      by_cases c7 : a0 = 0
      · rw [if_pos c7] at H
        exact absurd H (by simp)
      · rw [if_neg c7] at H
        have c7b0 : (a0 == 0) = false := beq_eq_false_iff_ne.mpr c7
        have c7b1 : (a0 != 0) = true := bne_iff_ne.mpr c7
        obtain rfl := Option.some.inj H
        go_enter Try.func118, Try.ntmps118
        go_wp2_with (first | ((with_reducible refine gate_callee (f := 66) rfl ?_); refine goesL_ (some 6) rfl rfl Try.func66 (by kernel_rfl) rfl #[.int .i64 a0, .int .i64 1, .int .i64 8] rfl (by (try simp only [List.map_toArray, List.map_cons, List.map_nil]); first | done | rfl | (simp only [List.length_drop, List.length_take]; rfl)) ?_; (with_reducible refine (impl_within.calls a0 1 8 true _ A3.out).mono ?_); rintro e w' ⟨rfl, ⟨nd, rfl⟩⟩; refine ⟨_, rfl, ?_⟩) | (go_at_call 66; (with_reducible refine (impl_within.calls a1 0 20000 true _ A5.out).mono ?_); rintro e w' ⟨rfl, ⟨nd, rfl⟩⟩))
        go_ret
        exact ⟨by first | rfl | (simp; done) | (simp [*]; done), by repeat (first | exact Drawn0.refl _ | apply Drawn0.step)⟩
    · replace c6 := Bool.eq_false_iff.mpr c6
      subst c6
      have H1 : (some 0) = some r := by rw [if_neg (show ¬ (false = true) by decide)] at H; exact H
      clear H
      have H := H1
      clear H1
      obtain rfl := Option.some.inj H
      go_enter Try.func118, Try.ntmps118
      go_wp2_with (first | ((with_reducible refine gate_callee (f := 66) rfl ?_); refine goesL_ (some 6) rfl rfl Try.func66 (by kernel_rfl) rfl #[.int .i64 a0, .int .i64 1, .int .i64 8] rfl (by (try simp only [List.map_toArray, List.map_cons, List.map_nil]); first | done | rfl | (simp only [List.length_drop, List.length_take]; rfl)) ?_; (with_reducible refine (impl_within.calls a0 1 8 true _ A3.out).mono ?_); rintro e w' ⟨rfl, ⟨nd, rfl⟩⟩; refine ⟨_, rfl, ?_⟩) | (go_at_call 66; (with_reducible refine (impl_within.calls a1 0 20000 false _ A5.out).mono ?_); rintro e w' ⟨rfl, ⟨nd, rfl⟩⟩))
      go_ret
      exact ⟨by first | rfl | (simp; done) | (simp [*]; done), by repeat (first | exact Drawn0.refl _ | apply Drawn0.step)⟩
  · replace c4 := Bool.eq_false_iff.mpr c4
    subst c4
    have H1 : (some 0) = some r := by rw [if_neg (show ¬ (false = true) by decide)] at H; exact H
    clear H
    have H := H1
    clear H1
    obtain rfl := Option.some.inj H
    go_enter Try.func118, Try.ntmps118
    go_wp2_with (first | ((with_reducible refine gate_callee (f := 66) rfl ?_); refine goesL_ (some 6) rfl rfl Try.func66 (by kernel_rfl) rfl #[.int .i64 a0, .int .i64 1, .int .i64 8] rfl (by (try simp only [List.map_toArray, List.map_cons, List.map_nil]); first | done | rfl | (simp only [List.length_drop, List.length_take]; rfl)) ?_; (with_reducible refine (impl_within.calls a0 1 8 false _ A3.out).mono ?_); rintro e w' ⟨rfl, ⟨nd, rfl⟩⟩; refine ⟨_, rfl, ?_⟩))
    go_ret
    exact ⟨by first | rfl | (simp; done) | (simp [*]; done), by repeat (first | exact Drawn0.refl _ | apply Drawn0.step)⟩


def strings_Repeat.f (a0 : ByteArray) (a1 : Int) : Option ByteArray := if a0 = ⟨#[0]⟩ then (if 0 ≤ a1 then (if a1 ≤ 1000000000 then some ⟨(List.replicate a1.toNat (0 : UInt8)).toArray⟩ else none) else none) else none
theorem strings_Repeat.calls (a0 : ByteArray) (a1 : Int) (r : ByteArray) (w : World) (h : strings_Repeat.f a0 a1 = some r) :
    Calls Try.prog 146 #[.string a0, .int .i64 a1] w fun e w' => e = .returned (.string r) ∧ Below w.heap.size w w' := by
  unfold strings_Repeat.f at h
  by_cases h0 : a0 = ⟨#[0]⟩
  · rw [if_pos h0] at h
    by_cases h1 : 0 ≤ a1
    · rw [if_pos h1] at h
      by_cases h2 : a1 ≤ 1000000000
      · rw [if_pos h2] at h
        obtain rfl := Option.some.inj h
        subst h0
        obtain ⟨c, rfl⟩ := Int.eq_ofNat_of_zero_le h1
        rw [Int.toNat_natCast]
        exact Rp.rep_calls c w (by omega)
      · rw [if_neg h2] at h
        cases h
    · rw [if_neg h1] at h
      cases h
  · rw [if_neg h0] at h
    cases h

/-! ### impl_cut: function 137 -/
def impl_cut.l0 : Nat → ByteArray → Int → List ByteArray → Int → Int → Option (List ByteArray)
  | 0, _, _, _, _, _ => none
  | k + 1, x1, x5, x6, x21, x22 => if x22 < x21 then (if 0 ≤ (wrap64 (x22 * x5)) then (if (wrap64 (x22 * x5)) ≤ (wrap64 ((wrap64 (x22 + 1)) * x5)) then (if (wrap64 ((wrap64 (x22 + 1)) * x5)) ≤ (x1.size : Int) then (if x6.length < 8796093022208 then (impl_cut.l0 k x1 x5 (x6 ++ [x1.extract ((wrap64 (x22 * x5)) : Int).toNat ((wrap64 ((wrap64 (x22 + 1)) * x5)) : Int).toNat]) x21 (wrap64 (x22 + 1))) else (none)) else (none)) else (none)) else (none)) else (some x6)
def impl_cut.f (k : Nat) (a0 : Int) (a1 : ByteArray) : Option (List ByteArray) := (impl_long.f a1).bind fun t239 => ((impl_ShardSize.f a0 t239).bind fun t240 => ((strings_Repeat.f (⟨#[0]⟩ : ByteArray) (wrap64 ((wrap64 (a0 * t240)) - (a1.size : Int)))).bind fun t241 => (if a1.size + t241.size ≤ 9223372036854775807 then (impl_cut.l0 k (a1 ++ t241) t240 ([] : List ByteArray) a0 0) else (none))))
theorem impl_cut.mono_l : ∀ k, (∀ y0 y1 y2 y3 y4, LeO (impl_cut.l0 k y0 y1 y2 y3 y4) (impl_cut.l0 (k + 1) y0 y1 y2 y3 y4))
  | 0 => fun _ _ _ _ _ r h => by simp [impl_cut.l0] at h
  | k + 1 => by
    have ih0 := impl_cut.mono_l k
    · intro y0 y1 y2 y3 y4
      unfold impl_cut.l0
      repeat' first
      | (with_reducible exact ih0 _ _ _ _ _)
      | (with_reducible exact LeO.refl _)
      | (with_reducible exact LeO.none _)
      | (with_reducible refine LeO.ite ?_ ?_)
      | (with_reducible refine LeO.bind ?_ (fun _ => ?_))
      | exact ih0 _ _ _ _ _
      | exact LeO.none _
      | refine LeO.ite ?_ ?_
      | refine LeO.bind ?_ (fun _ => ?_)
theorem impl_cut.mono : ∀ a0 a1 k, LeO (impl_cut.f k a0 a1) (impl_cut.f (k + 1) a0 a1) := by
  intro a0 a1 k
  have ih0 := impl_cut.mono_l k
  unfold impl_cut.f
  repeat' first
      | (with_reducible exact ih0 _ _ _ _ _)
      | (with_reducible exact LeO.refl _)
      | (with_reducible exact LeO.none _)
      | (with_reducible refine LeO.ite ?_ ?_)
      | (with_reducible refine LeO.bind ?_ (fun _ => ?_))
      | exact ih0 _ _ _ _ _
      | exact LeO.none _
      | refine LeO.ite ?_ ?_
      | refine LeO.bind ?_ (fun _ => ?_)
set_option maxHeartbeats 8000000 in
set_option maxRecDepth 100000 in
theorem impl_cut.calls (k : Nat) (a0 : Int) (a1 : ByteArray) (r : List ByteArray) (w : World) (h : impl_cut.f k a0 a1 = some r) :
    Calls Try.prog 137 #[.int .i64 a0, .string a1] w fun e w' => ∃ v0_ : Value, e = .returned (v0_) ∧ Kd.R Kd.string 9 w' w.heap.size (fun _ => True) v0_ r ∧ Below w.heap.size w w' := by
  have HB := Aside0.mk (Below.refl w.heap.size w)
  have H : ((impl_long.f a1).bind fun t239 => ((impl_ShardSize.f a0 t239).bind fun t240 => ((strings_Repeat.f (⟨#[0]⟩ : ByteArray) (wrap64 ((wrap64 (a0 * t240)) - (a1.size : Int)))).bind fun t241 => (if a1.size + t241.size ≤ 9223372036854775807 then (impl_cut.l0 k (a1 ++ t241) t240 ([] : List ByteArray) a0 0) else (none))))) = some r := h
  clear h
  replace H := Option.bind_eq_some_iff.mp H
  obtain ⟨t239, A30, H⟩ := H
  replace H : ((impl_ShardSize.f a0 t239).bind fun t240 => ((strings_Repeat.f (⟨#[0]⟩ : ByteArray) (wrap64 ((wrap64 (a0 * t240)) - (a1.size : Int)))).bind fun t241 => (if a1.size + t241.size ≤ 9223372036854775807 then (impl_cut.l0 k (a1 ++ t241) t240 ([] : List ByteArray) a0 0) else (none)))) = some r := H
  have A3 := Aside0.mk A30
  clear A30
  replace H := Option.bind_eq_some_iff.mp H
  obtain ⟨t240, A40, H⟩ := H
  replace H : ((strings_Repeat.f (⟨#[0]⟩ : ByteArray) (wrap64 ((wrap64 (a0 * t240)) - (a1.size : Int)))).bind fun t241 => (if a1.size + t241.size ≤ 9223372036854775807 then (impl_cut.l0 k (a1 ++ t241) t240 ([] : List ByteArray) a0 0) else (none))) = some r := H
  have A4 := Aside0.mk A40
  clear A40
  replace H := Option.bind_eq_some_iff.mp H
  obtain ⟨t241, A50, H⟩ := H
  replace H : (if a1.size + t241.size ≤ 9223372036854775807 then (impl_cut.l0 k (a1 ++ t241) t240 ([] : List ByteArray) a0 0) else (none)) = some r := H
  have A5 := Aside0.mk A50
  clear A50
  by_cases c6 : a1.size + t241.size ≤ 9223372036854775807
  · rw [if_pos c6] at H
    have c6b0 := eq_true c6
    have c6b1 : decide (a1.size + t241.size ≤ 9223372036854775807) = true := decide_eq_true c6
    try have c6b2 : (9223372036854775807 < a1.size + t241.size) = False := eq_false (Nat.not_lt.2 c6)
    have H' := Aside0.mk H
    clear H
    go_enter Try.func137, Try.ntmps137
    go_wp2_with (first | ((with_reducible refine gate_callee (f := 113) rfl ?_); refine goesL_ (some 10) rfl rfl Try.func113 (by kernel_rfl) rfl #[.string a1] rfl (by (try simp only [List.map_toArray, List.map_cons, List.map_nil]); first | done | rfl | (simp only [List.length_drop, List.length_take]; rfl)) ?_; (with_reducible refine (impl_long.calls a1 t239 _ A3.out).mono ?_); rintro e w' ⟨rfl, ⟨nd, rfl⟩⟩; refine ⟨_, rfl, ?_⟩) | ((with_reducible refine gate_callee (f := 118) rfl ?_); refine goesL_ (some 11) rfl rfl Try.func118 (by kernel_rfl) rfl #[.int .i64 a0, .int .i64 t239] rfl (by (try simp only [List.map_toArray, List.map_cons, List.map_nil]); first | done | rfl | (simp only [List.length_drop, List.length_take]; rfl)) ?_; (with_reducible refine (impl_ShardSize.calls a0 t239 t240 _ A4.out).mono ?_); rintro e w' ⟨rfl, ⟨nd, rfl⟩⟩; refine ⟨_, rfl, ?_⟩) | ((with_reducible refine gate_callee (f := 146) rfl ?_); refine goesL_ (some 19) rfl rfl Try.func146 (by kernel_rfl) rfl #[.string (⟨#[0]⟩ : ByteArray), .int .i64 (wrap64 ((wrap64 (a0 * t240)) - (a1.size : Int)))] rfl (by (try simp only [List.map_toArray, List.map_cons, List.map_nil]); first | done | rfl | (simp only [List.length_drop, List.length_take]; rfl)) ?_; (with_reducible refine (strings_Repeat.calls (⟨#[0]⟩ : ByteArray) (wrap64 ((wrap64 (a0 * t240)) - (a1.size : Int))) t241 _ A5.out).mono ?_); rintro e w7 ⟨rfl, hb⟩; refine ⟨_, rfl, ?_⟩; have n0_ := Aside0.mk (below_step (by repeat (first | (with_reducible first | exact HB.out | apply below_alloc | apply pw_below_drewN | apply below_drew1) | exact HB.out)) hb); clear HB; have HB := n0_; clear n0_; (try clear hb); (try clear hb2); (try clear hk); (try clear hi)))
    go_loopg [6, 22] k (fun kq v6 v22 w' => ∃ (x6_1 : List ByteArray) (x22_1 : Int), v22 = .int .i64 x22_1 ∧ Aside0 (impl_cut.l0 kq (a1 ++ t241) t240 x6_1 a0 x22_1 = some r) ∧ Aside0 (kq ≤ k) ∧ Aside0 (Kd.R Kd.string 9 w' w.heap.size (fun _ => True) v6 x6_1) ∧ Aside0 (Below w.heap.size w w'))
    case atStart => exact ⟨(([] : List ByteArray)), (0), (by first | rfl | (simp; done) | (simp [*]; done)), H', ⟨Nat.le_refl _⟩, ⟨by first | exact Kd.R_nil _ _ _ _ _ | exact Kd.N_nil _ _ _ _ _ | exact Kd.V_nil _ _ _ _ _ | exact Kd.Q_nil _ _ _ _ _ | exact Kd.S_nil _ _ _ _ _⟩, ⟨by repeat (first | (with_reducible first | exact HB.out | apply below_alloc | apply pw_below_drewN | apply below_drew1) | exact HB.out)⟩⟩
    case round =>
      clear H'
      try clear c1
      try clear p2
      try clear c6
      try clear c6b0
      try clear c6b1
      try clear c6b2
      try clear p6
      obtain ⟨x6_1, x22_1, rfl, HA, HK1, HO_6, HB⟩ := hrel
      cases gk with
      | zero => exact absurd HA.out (by simp [impl_cut.l0])
      | succ k1 =>
        have H := HA.out
        clear HA
        simp only [impl_cut.l0] at H
        by_cases c8 : x22_1 < a0
        · rw [if_pos c8] at H
          have c8b0 : decide (x22_1 < a0) = true := decide_eq_true c8
          clear c8
          obtain ⟨ji9, hji9⟩ : ∃ j_ : Int, (wrap64 (x22_1 * t240)) = j_ := ⟨_, rfl⟩
          replace H : (if 0 ≤ (ji9) then (if (ji9) ≤ (wrap64 ((wrap64 (x22_1 + 1)) * t240)) then (if (wrap64 ((wrap64 (x22_1 + 1)) * t240)) ≤ ((a1 ++ t241).size : Int) then (if x6_1.length < 8796093022208 then (impl_cut.l0 k1 (a1 ++ t241) t240 (x6_1 ++ [(a1 ++ t241).extract ((ji9) : Int).toNat ((wrap64 ((wrap64 (x22_1 + 1)) * t240)) : Int).toNat]) a0 (wrap64 (x22_1 + 1))) else (none)) else (none)) else (none)) else (none)) = some r := by first | (rw [hji9] at H; exact H) | (simp only [hji9] at H ⊢; exact H)
          have hji9w : (IntKind.i64.wrap (x22_1 * t240)) = ji9 := (i64_w _).trans hji9
          by_cases c10 : 0 ≤ (ji9)
          · rw [if_pos c10] at H
            have c10b0 := eq_true c10
            have c10b1 : decide (0 ≤ (ji9)) = true := decide_eq_true c10
            clear c10
            by_cases c11 : (ji9) ≤ (wrap64 ((wrap64 (x22_1 + 1)) * t240))
            · rw [if_pos c11] at H
              have c11b0 := eq_true c11
              have c11b1 : decide ((ji9) ≤ (wrap64 ((wrap64 (x22_1 + 1)) * t240))) = true := decide_eq_true c11
              by_cases c12 : (wrap64 ((wrap64 (x22_1 + 1)) * t240)) ≤ ((a1 ++ t241).size : Int)
              · rw [if_pos c12] at H
                have c12b0 := eq_true c12
                have c12b1 : decide ((wrap64 ((wrap64 (x22_1 + 1)) * t240)) ≤ ((a1 ++ t241).size : Int)) = true := decide_eq_true c12
                have cutS : (wrap64 ((wrap64 (x22_1 + 1)) * t240)) ≤ (a1.size : Int) + (t241.size : Int) := by rw [ByteArray.size_append, Int.natCast_add] at c12; exact c12
                have cutS0 : 0 ≤ (wrap64 ((wrap64 (x22_1 + 1)) * t240)) := Int.le_trans (of_eq_true c10b0) (of_eq_true c11b0)
                by_cases c13 : x6_1.length < 8796093022208
                · rw [if_pos c13] at H
                  have LMc13 := Aside0.mk c13
                  clear c13
                  obtain ⟨y242, hy242⟩ : ∃ y_ : List ByteArray, y_ = (x6_1 ++ [(a1 ++ t241).extract ((ji9) : Int).toNat ((wrap64 ((wrap64 (x22_1 + 1)) * t240)) : Int).toNat]) := ⟨_, rfl⟩
                  replace H : (impl_cut.l0 k1 (a1 ++ t241) t240 y242 a0 (wrap64 (x22_1 + 1))) = some r := by first | (rw [hy242]; with_reducible exact H) | (have H2_ := (Option.bind_some _ _).symm.trans H; rw [hy242]; with_reducible exact H2_) | (have H2_ := (Option.bind_some _ _).symm.trans H; with_reducible exact H2_) | with_reducible exact H | (rw [hy242]; exact H) | exact H
                  have Ny242 := Aside0.mk hy242
                  clear hy242
                  have H' := Aside0.mk H
                  clear H
                  go_wp2_with (first | ((with_reducible refine gate_builtin (b := .append) (xs := #[.tmp 25, .tmp 35]) rfl ?_); at_builtin; refine Kd.R_append Kd.string (w0 := w) w.heap.size rfl (.tmp 25) (.tmp 35) 52 9 (.string ⟨#[]⟩) 16 rfl Try.underlying52 info9 rfl (by decide) (by omega) u6 x6_1 ((a1 ++ t241).extract ((ji9) : Int).toNat ((wrap64 ((wrap64 (x22_1 + 1)) * t240)) : Int).toNat) [.string ((a1 ++ t241).extract ((ji9) : Int).toNat ((wrap64 ((wrap64 (x22_1 + 1)) * t240)) : Int).toNat)] (fun _ => True) (fun _ => False) rfl rfl ?aP (fun _ hk => hk.elim) ?aF ?aO ?aB ?aS ?aL ?_; (case aP => exact rfl); (case aB => exact (by repeat (first | (with_reducible first | exact HB.out | apply below_alloc | apply pw_below_drewN | apply below_drew1) | exact HB.out))); (case aF => exact (fun _ _ => trivial)); (case aO => exact (by (with_reducible repeat (first | apply Kd.R_alloc | apply Kd.R_drewN | apply Kd.R_drew)); exact HO_6.out)); (case aS => exact (below_size (by repeat (first | (with_reducible first | exact HB.out | apply below_alloc | apply pw_below_drewN | apply below_drew1) | exact HB.out)))); (case aL => have := LMc13.out; omega); intro v243 w14 ho hb hg hat; rw [← Ny242.out] at ho; have n0_ := Aside0.mk (hb); have n1_ := Aside0.mk (ho); clear HB; clear HO_6; have HB := n0_; have HO244 := n1_; clear n0_ n1_; clear ho hb hg hat))
                  go_roundg k1
                  case measure => have := HK1.out; omega
                  case rel => exact ⟨(y242), (wrap64 (x22_1 + 1)), (by first | rfl | (simp; done) | (simp [*]; done)), H', ⟨by have := HK1.out; omega⟩, ⟨by (with_reducible repeat (first | apply Kd.R_alloc | apply Kd.R_drewN | apply Kd.R_drew)); exact HO244.out⟩, ⟨by repeat (first | (with_reducible first | exact HB.out | apply below_alloc | apply pw_below_drewN | apply below_drew1) | exact HB.out)⟩⟩
                · rw [if_neg c13] at H
                  exact absurd H (by simp)
              · rw [if_neg c12] at H
                exact absurd H (by simp)
            · rw [if_neg c11] at H
              exact absurd H (by simp)
          · rw [if_neg c10] at H
            exact absurd H (by simp)
        · rw [if_neg c8] at H
          have c8b0 : decide (x22_1 < a0) = false := decide_eq_false c8
          clear c8
          obtain rfl := Option.some.inj H
          go_wp2
          go_ret
          exact ⟨_, by first | rfl | (simp [errW_none, errW_some] <;> rfl) | (simp [*, errW_none, errW_some] <;> rfl), by (with_reducible repeat (first | apply Kd.R_alloc | apply Kd.R_drewN | apply Kd.R_drew)); exact HO_6.out, by repeat (first | (with_reducible first | exact HB.out | apply below_alloc | apply pw_below_drewN | apply below_drew1) | exact HB.out)⟩
  · rw [if_neg c6] at H
    exact absurd H (by simp)

end Go.Proofs.Ytlololbhlnapkaa.XFnExactEncode

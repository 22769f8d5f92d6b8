/- Plain functions of what the law reaches, proofs that the calls come to them, and the law's row: written by a program of this session (xprint.py) over the kit's print. No conditions beyond each lemma's own. -/
import Derived.Test.YtlololbhlnapkaaKyCy
import Derived.Test.YtlololbhlnapkaaKyXFnExactDecodex0
import Derived.Test.YtlololbhlnapkaaKyXFnExactDecodex2
namespace Go.Proofs.Ytlololbhlnapkaa.XFnExactDecode
open Go.RowKit Go.Proofs.YtlololbhlnapkaaW.PrintWords Go.Proofs.YtlololbhlnapkaaW.PrintLast Go.Proofs.YtlololbhlnapkaaW.PrintMore
attribute [local go_sem] max2_int min2_int max_two min_two max_three min_three max_four min_four   -- for this text's walks alone
set_option linter.unusedVariables false
set_option linter.unusedSimpArgs false
def spec_l03Swap.l0 : Nat → Int → Int → Int → Int → Int → List Int → Option (List Int)
  | 0, _, _, _, _, _, _ => none
  | k + 1, x1, x2, x6, x191000, x191001, x191002 => if x6 < x191001 then (if 0 ≤ (wrap64 ((wrap64 (x1 * x191001)) + x6)) then (if (wrap64 ((wrap64 (x1 * x191001)) + x6)) < (x191002.length : Int) then (if 0 ≤ (wrap64 ((wrap64 (x2 * x191001)) + x6)) then (if (wrap64 ((wrap64 (x2 * x191001)) + x6)) < (x191002.length : Int) then (spec_l03Swap.l0 k x1 x2 (wrap64 (x6 + 1)) x191000 x191001 ((x191002.set ((wrap64 ((wrap64 (x1 * x191001)) + x6)) : Int).toNat (rd x191002 (wrap64 ((wrap64 (x2 * x191001)) + x6)))).set ((wrap64 ((wrap64 (x2 * x191001)) + x6)) : Int).toNat (rd x191002 (wrap64 ((wrap64 (x1 * x191001)) + x6))))) else (none)) else (none)) else (none)) else (none)) else (some x191002)
def spec_l03Swap.f (k : Nat) (a0_0 : Int) (a0_1 : Int) (l0_2 : List Int) (a1 : Int) (a2 : Int) : Option (List Int) := spec_l03Swap.l0 k a1 a2 0 a0_0 a0_1 l0_2
def spec_l03Swap.T5 : Bool × List (List Nat × List Nat) := (true, [([], []), ([0], [0]), ([], []), ([], []), ([3], [3]), ([2, 4], [2, 4]), ([], []), ([5, 6], [5, 6]), ([], []), ([8], [8]), ([], []), ([], []), ([11], [11]), ([10, 12], [10, 12]), ([], []), ([13, 14], [13, 14]), ([9, 15], [9, 15]), ([16], [16]), ([1, 7, 0, 1, 2, 3, 4, 5, 6, 7, 8, 9, 10, 11, 12, 13, 14, 15, 16, 17], [1, 7]), ([18, 17, 0, 1, 2, 3, 4, 5, 6, 7, 8, 9, 10, 11, 12, 13, 14, 15, 16, 17], [17, 18])])
def spec_l03Swap.B5 : List Nat := [0, 1, 0, 0, 8, 28, 0, 124, 0, 256, 0, 0, 2048, 7168, 0, 31744, 65280, 130816, 262143, 524287]
theorem spec_l03Swap.tab5 : rtab .any (opsOf Try.f135 5) = spec_l03Swap.T5 := by kernel_rfl
theorem spec_l03Swap.bits5 : waitsOk spec_l03Swap.T5.2 spec_l03Swap.B5 = true := by kernel_rfl
set_option maxHeartbeats 8000000 in
set_option maxRecDepth 100000 in
theorem spec_l03Swap.calls (k : Nat) (a0_0 : Int) (a0_1 : Int) (P0_2_ : Nat → Prop) (u9000_ : Value) (l0_2 : List Int) (a1 : Int) (a2 : Int) (r : List Int) (w0 w : World) (hB : Below w0.heap.size w0 w) (ho0_2 : Kd.R (Kd.int .i64) 2 w w0.heap.size P0_2_ u9000_ l0_2) (h : spec_l03Swap.f k a0_0 a0_1 l0_2 a1 a2 = some r) :
  Calls Try.prog 135 #[.agg #[.int .i64 a0_0, .int .i64 a0_1, u9000_], .int .i64 a1, .int .i64 a2] w fun e w' => e = .returned (.tuple #[]) ∧ Kd.R (Kd.int .i64) 2 w' w0.heap.size (fun k_ => (P0_2_ k_ ∨ w.heap.size ≤ k_)) u9000_ r ∧ Below w0.heap.size w0 w' ∧ Kept w w' (fun k_ => P0_2_ k_) := by
 have hu27 := Try.underlying27
 have HO0_2 := Aside0.mk (show Kd.R (Kd.int .i64) 2 w w0.heap.size (fun k_ => (P0_2_ k_ ∨ w.heap.size ≤ k_)) u9000_ l0_2 from Kd.R_mono ho0_2 (fun k_ hk => (.inl hk)))
 have HK := Aside0.mk (Kept.refl w (fun k_ => P0_2_ k_))
 have HW0 := Aside0.mk hB.size
 have HB := Aside0.mk hB
 clear hB
 have H : (spec_l03Swap.l0 k a1 a2 0 a0_0 a0_1 l0_2) = some r := h
 clear h
 have H' := Aside0.mk H
 clear H
 obtain ⟨Ao4, co4, eo4⟩ := Kd.R_slice HO0_2.out
 subst eo4
 go_enter Try.func135, Try.ntmps135
 go_wp2_with (first | ((with_reducible refine gate_dst (N := 3) rfl ?_); refine box_event ?hg (N := 3) ?hd (cs := #[.int .i64 a0_0, .int .i64 a0_1, .slice Ao4 l0_2.length co4]) (t := 27) ?hr ?_; (case hd => rfl); (case hg => rfl); (case hr => first | (go_simp; done) | (go_simp; rfl)); intro gb190 hg w5 hbox hb; have n_ := Cy.a6 (Kd.R_below (Cz.r HO0_2.out) hb) (Kept.below (S := (fun k_ => P0_2_ k_)) (by repeat (first | (with_reducible first | exact HK.out | apply Kept.alloc | apply Kept.drewN | apply Kept.drew) | exact HK.out)) hb) (below_step (Cz.w HB.out) hb) hbox (by rw [hg]; exact (by first | exact HK.out.1 | exact (show Kept w _ (fun k_ => P0_2_ k_) from by repeat (first | (with_reducible first | exact HK.out | apply Kept.alloc | apply Kept.drewN | apply Kept.drew) | exact HK.out)).1) : w.heap.size ≤ gb190) (by rw [hg]; exact (below_size (Cz.w HB.out)) : w0.heap.size ≤ gb190); clear HO0_2 HK HB; obtain ⟨HO0_2, HK, HB, BK190, GW190, GE190⟩ := n_; clear hb hbox hg))
 go_loopg [6] k (fun kq v6 w' => ∃ (x6_1 : Int) (x191002_1 : List Int), v6 = .int .i64 x6_1 ∧ Aside0 (spec_l03Swap.l0 kq a1 a2 x6_1 a0_0 a0_1 x191002_1 = some r) ∧ Aside0 (kq ≤ k) ∧ Aside0 (Kd.R (Kd.int .i64) 2 w' w0.heap.size (fun k_ => (P0_2_ k_ ∨ w.heap.size ≤ k_)) (.slice Ao4 l0_2.length co4) x191002_1) ∧ Aside0 (w'.heap[gb190]? = some (.cells #[.int .i64 a0_0, .int .i64 a0_1, (.slice Ao4 l0_2.length co4)] 27 (0, 0))) ∧ Aside0 (Kept w w' (fun k_ => P0_2_ k_)) ∧ Aside0 (Below w0.heap.size w0 w'))
 case atStart => exact ⟨(0), (l0_2), (by first | rfl | (simp; done) | (simp [*]; done)), H', ⟨Nat.le_refl _⟩, ⟨Cz.r HO0_2.out⟩, ⟨Cz.b BK190.out⟩, ⟨by repeat (first | (with_reducible first | exact HK.out | apply Kept.alloc | apply Kept.drewN | apply Kept.drew | refine Kept.setCell ?_ (.inr GW190.out) _) | exact HK.out)⟩, ⟨Cz.w HB.out⟩⟩
 case round =>
  clear H'
  try clear c1
  try clear p2
  obtain ⟨x6_1, x191002_1, rfl, HA, HK1, HO_191002, BK190, HK, HB⟩ := hrel
  have hl191002_1 := (Kd.R_reads' HO_191002.out).1
  rw [hl191002_1] at HO_191002
  (try simp only [hl191002_1])
  (try simp only [hl191002_1] at BK190)
  cases gk with
  | zero => exact absurd HA.out (by simp [spec_l03Swap.l0])
  | succ k1 =>
   have H := HA.out
   clear HA
   simp only [spec_l03Swap.l0] at H
   by_cases c6 : x6_1 < a0_1
   ·rw [if_pos c6] at H
    have c6b0 : decide (x6_1 < a0_1) = true := decide_eq_true c6
    clear c6
    obtain ⟨ji7, hji7⟩ : ∃ j_ : Int, (wrap64 ((wrap64 (a1 * a0_1)) + x6_1)) = j_ := ⟨_, rfl⟩
    replace H : (if 0 ≤ (ji7) then (if (ji7) < (x191002_1.length : Int) then (if 0 ≤ (wrap64 ((wrap64 (a2 * a0_1)) + x6_1)) then (if (wrap64 ((wrap64 (a2 * a0_1)) + x6_1)) < (x191002_1.length : Int) then (spec_l03Swap.l0 k1 a1 a2 (wrap64 (x6_1 + 1)) a0_0 a0_1 ((x191002_1.set ((ji7) : Int).toNat (rd x191002_1 (wrap64 ((wrap64 (a2 * a0_1)) + x6_1)))).set ((wrap64 ((wrap64 (a2 * a0_1)) + x6_1)) : Int).toNat (rd x191002_1 (ji7)))) else (none)) else (none)) else (none)) else (none)) = some r := by first | (rw [hji7] at H; exact H) | (simp only [hji7] at H ⊢; exact H)
    have hji7w : (IntKind.i64.wrap ((wrap64 (a1 * a0_1)) + x6_1)) = ji7 := (i64_w _).trans hji7
    by_cases c8 : 0 ≤ (ji7)
    ·rw [if_pos c8] at H
     have c8b0 : decide (0 ≤ (ji7)) = true := decide_eq_true c8
     clear c8
     by_cases c9 : (ji7) < (x191002_1.length : Int)
     ·rw [if_pos c9] at H
      have c9b0 : decide ((ji7) < (x191002_1.length : Int)) = true := decide_eq_true c9
      clear c9
      obtain ⟨ji10, hji10⟩ : ∃ j_ : Int, (wrap64 ((wrap64 (a2 * a0_1)) + x6_1)) = j_ := ⟨_, rfl⟩
      replace H : (if 0 ≤ (ji10) then (if (ji10) < (x191002_1.length : Int) then (spec_l03Swap.l0 k1 a1 a2 (wrap64 (x6_1 + 1)) a0_0 a0_1 ((x191002_1.set ((ji7) : Int).toNat (rd x191002_1 (ji10))).set ((ji10) : Int).toNat (rd x191002_1 (ji7)))) else (none)) else (none)) = some r := by first | (rw [hji10] at H; exact H) | (simp only [hji10] at H ⊢; exact H)
      have hji10w : (IntKind.i64.wrap ((wrap64 (a2 * a0_1)) + x6_1)) = ji10 := (i64_w _).trans hji10
      by_cases c11 : 0 ≤ (ji10)
      ·rw [if_pos c11] at H
       have c11b0 : decide (0 ≤ (ji10)) = true := decide_eq_true c11
       clear c11
       by_cases c12 : (ji10) < (x191002_1.length : Int)
       ·rw [if_pos c12] at H
        have c12b0 : decide ((ji10) < (x191002_1.length : Int)) = true := decide_eq_true c12
        clear c12
        obtain ⟨y193, hy193⟩ : ∃ y_ : List Int, y_ = (x191002_1.set ((ji7) : Int).toNat (rd x191002_1 (ji10))) := ⟨_, rfl⟩
        replace H : (spec_l03Swap.l0 k1 a1 a2 (wrap64 (x6_1 + 1)) a0_0 a0_1 (y193.set ((ji10) : Int).toNat (rd x191002_1 (ji7)))) = some r := by first | (rw [hy193]; with_reducible exact H) | (have H2_ := (Option.bind_some _ _).symm.trans H; rw [hy193]; with_reducible exact H2_) | (have H2_ := (Option.bind_some _ _).symm.trans H; with_reducible exact H2_) | with_reducible exact H | (rw [hy193]; exact H) | exact H
        have Ny193 := Aside0.mk hy193
        clear hy193
        obtain ⟨y194, hy194⟩ : ∃ y_ : List Int, y_ = (y193.set ((ji10) : Int).toNat (rd x191002_1 (ji7))) := ⟨_, rfl⟩
        replace H : (spec_l03Swap.l0 k1 a1 a2 (wrap64 (x6_1 + 1)) a0_0 a0_1 y194) = some r := by first | (rw [hy194]; with_reducible exact H) | (have H2_ := (Option.bind_some _ _).symm.trans H; rw [hy194]; with_reducible exact H2_) | (have H2_ := (Option.bind_some _ _).symm.trans H; with_reducible exact H2_) | with_reducible exact H | (rw [hy194]; exact H) | exact H
        have Ny194 := Aside0.mk hy194
        clear hy194
        have H' := Aside0.mk H
        clear H
        obtain ⟨hcz15_0, hcz15_1, hcz15_2, hfz15_0, hfz15_1, hfz15_2⟩ := Cy.z3 BK190.out
        have p191 : 0 ≤ ((ji7) : Int) := of_decide_eq_true (by first | (with_reducible assumption) | assumption)
        have q191 : (ji7) < (x191002_1.length : Int) := of_decide_eq_true (by first | (with_reducible assumption) | assumption)
        obtain ⟨ad191, e191, hx191_0⟩ := Kd.at_int (Kd.R_reads' HO_191002.out).2.2 (ji7) p191 q191
        cases e191
        replace p191 := eq_true p191
        replace q191 := eq_true q191
        try go_wp2
        have n_ := Cy.a4 (Kd.R_drew HO_191002.out) (blk_drew BK190.out) (Kept.drew HK.out) (below_drew1 HB.out)
        clear HO_191002 BK190 HK HB
        obtain ⟨HO_191002, BK190, HK, HB⟩ := n_
        have p192 : 0 ≤ ((ji10) : Int) := of_decide_eq_true (by first | (with_reducible assumption) | assumption)
        have q192 : (ji10) < (x191002_1.length : Int) := of_decide_eq_true (by first | (with_reducible assumption) | assumption)
        obtain ⟨ad192, e192, hx192_0⟩ := Kd.at_int (Kd.R_reads' HO_191002.out).2.2 (ji10) p192 q192
        obtain rfl : ad191 = ad192 := (by injection e192)
        replace p192 := eq_true p192
        replace q192 := eq_true q192
        have p13 : 0 ≤ ((ji7) : Int) := of_decide_eq_true (by first | (with_reducible assumption) | assumption)
        have q13 : ((ji7) : Int) < ((x191002_1.length : Int) : Int) := of_decide_eq_true (by first | (with_reducible assumption) | assumption)
        obtain ⟨go13, co13, eo13, gb13, gl13, cl13, HG13⟩ := Kd.R_form HO_191002.out (by omega)
        (first | cases eo13 | (injection eo13 with ea_ en_ ec_; (first | subst ea_ | (injection ea_ with ea_; subst ea_)); subst ec_; clear en_))
        have GB13 := Aside0.mk gb13
        have GG13 := Aside0.mk HG13
        clear gb13 gl13 HG13
        have HMgo13 := Aside0.mk (show (P0_2_ go13 ∨ w.heap.size ≤ go13) from (HO_191002.out.1 _ rfl))
        (first | simp only [add_plain] at hx191_0 | skip)
        (first | simp only [add_plain] at hx192_0 | skip)
        obtain ⟨hx13_0, hf13_0⟩ := Kd.R_celln 0 HO_191002.out ((ji7) : Int) p13 q13
        replace p13 := eq_true p13
        replace q13 := eq_true q13
        have HP17 := Kd.R_putn HO_191002.out ((ji7) : Int) (rd x191002_1 (ji10))
        rw [← Ny193.out] at HP17
        have HQ17 := Aside0.mk HP17
        clear HP17
        refine start_ (n := 20) (S := fun w' => w'.cell? ⟨gb190, 0, none⟩ = some (.int .i64 a0_0) ∧ w'.cell? ⟨gb190, 1, none⟩ = some (.int .i64 a0_1) ∧ w'.cell? ⟨gb190, 2, none⟩ = some (.slice (some ⟨go13, 0, none⟩) x191002_1.length co4) ∧ w'.cell? ⟨go13, ((ji10)).toNat, none⟩ = some (.int .i64 (rd x191002_1 (ji10)))) (ds := [19]) #[false, false, false, false, false, false, false, false, false, false, false, false, false, false, false, false, false, false, false, false] (by kernel_rfl) rfl rfl ⟨(blk_cell BK190.out 0).trans rfl, (blk_cell BK190.out 1).trans rfl, (blk_cell BK190.out 2).trans rfl, hx192_0⟩ (fun hHeld => ?_); refine with_tabW spec_l03Swap.tab5 spec_l03Swap.bits5 (fun HT_ HW_ => ?_)
        generalize wr.drew = w16 at HO_191002 BK190 HK HB GG13 HQ17 hf13_0 hx13_0 hx191_0 hx192_0 hHeld ⊢
        refine Cy.pu 0 24 HT_ ?_
        refine Cy.pu 2 26 HT_ ?_
        refine Cy.pu 3 27 HT_ ?_
        refine Cy.pu 6 30 HT_ ?_
        refine Cy.pu 8 32 HT_ ?_
        refine Cy.pu 10 34 HT_ ?_
        refine Cy.pu 11 35 HT_ ?_
        refine Cy.pu 14 38 HT_ ?_
        refine Cy.tk 1 25 HT_ HW_ hHeld ?_
        refine Cy.tk 4 28 HT_ HW_ hHeld ?_
        refine Cy.pu 5 29 HT_ ?_
        refine Cy.pu 7 31 HT_ ?_
        refine Cy.tk 9 33 HT_ HW_ hHeld ?_
        refine Cy.tk 12 36 HT_ HW_ hHeld ?_
        refine Cy.pu 13 37 HT_ ?_
        refine Cy.pu 15 39 HT_ ?_
        refine Cy.pu 16 40 HT_ ?_
        refine Cy.tk 17 41 HT_ HW_ hHeld ?_
        refine Cy.pu 18 42 HT_ ?_
        refine last_ (i := 19) (N := none) #[true, true, true, true, true, true, true, true, true, true, true, true, true, true, true, true, true, true, true, true] rfl rfl (one_of HT_.out (by kernel_rfl)) (by decide) (fun K hK => ?_)
        refine skip_ (w1 := ?_) (by rfl) rfl ?_ ?_
        rotate_left
        ·go_simp
         rfl
        refine hK.out _ _ ?_
        clear hK K
        refine done_ (done_of HT_.out (by kernel_rfl)) ?_
        have n0_ : Aside0 (Kd.R (Kd.int .i64) 2 (w16.setCell ⟨go13, ((ji7) : Int).toNat, none⟩ (.int .i64 (rd x191002_1 (ji10)))) w0.heap.size (fun k_ => (P0_2_ k_ ∨ w.heap.size ≤ k_)) (.slice (some ⟨go13, 0, none⟩) x191002_1.length co4) y193) := ⟨by (with_reducible repeat (first | apply Kd.R_alloc | apply Kd.R_drewN | apply Kd.R_drew)); exact HQ17.out⟩
        have n1_ : Aside0 ((w16.setCell ⟨go13, ((ji7) : Int).toNat, none⟩ (.int .i64 (rd x191002_1 (ji10)))).heap[gb190]? = some (.cells #[.int .i64 a0_0, .int .i64 a0_1, .slice (some ⟨go13, 0, none⟩) x191002_1.length co4] 27 (0, 0))) := ⟨by (with_reducible repeat (first | refine blk_drewN ?_ _ | refine blk_drew ?_ | refine blk_alloc ?_ _)); refine blk_far ?_ (by have h_ := Kd.R_ne HO_191002.out BK190.out (by decide); intro e_; exact h_ (by rw [e_]; rfl)) _; (with_reducible repeat (first | refine blk_drewN ?_ _ | refine blk_drew ?_ | refine blk_alloc ?_ _)); exact BK190.out⟩
        have n2_ : Aside0 (Kept w (w16.setCell ⟨go13, ((ji7) : Int).toNat, none⟩ (.int .i64 (rd x191002_1 (ji10)))) (fun k_ => P0_2_ k_)) := ⟨by repeat (first | (with_reducible first | exact HK.out | apply Kept.alloc | apply Kept.drewN | apply Kept.drew | refine Kept.setCell ?_ HMgo13.out _ | refine Kept.setCell ?_ (.inr GW190.out) _) | exact HK.out)⟩
        have n3_ : Aside0 (Below w0.heap.size w0 (w16.setCell ⟨go13, ((ji7) : Int).toNat, none⟩ (.int .i64 (rd x191002_1 (ji10))))) := ⟨by repeat (first | (with_reducible first | exact HB.out | apply below_alloc | apply pw_below_drewN | apply below_drew1 | refine below_set ?_ GB13.out | refine below_set ?_ GE190.out) | exact HB.out)⟩
        (try clear HO_191002)
        (try clear BK190)
        (try clear HK)
        (try clear HB)
        generalize (w16.setCell ⟨go13, ((ji7) : Int).toNat, none⟩ (.int .i64 (rd x191002_1 (ji10)))) = w18 at n0_ n1_ n2_ n3_ ⊢
        have HO_191002 := n0_
        have BK190 := n1_
        have HK := n2_
        have HB := n3_
        clear n0_ n1_ n2_ n3_
        obtain ⟨hcz19_0, hcz19_1, hcz19_2, hfz19_0, hfz19_1, hfz19_2⟩ := Cy.z3 BK190.out
        have p14 : 0 ≤ ((ji10) : Int) := of_decide_eq_true (by first | (with_reducible assumption) | assumption)
        have q14 : ((ji10) : Int) < ((x191002_1.length : Int) : Int) := of_decide_eq_true (by first | (with_reducible assumption) | assumption)
        obtain ⟨hx14_0, hf14_0⟩ := Kd.R_celln 0 HO_191002.out ((ji10) : Int) p14 q14
        replace p14 := eq_true p14
        replace q14 := eq_true q14
        obtain ⟨hy20_, hz20_⟩ := Kd.R_celln 0 HO_191002.out ((ji10) : Int) (of_decide_eq_true (by first | (with_reducible assumption) | assumption)) (of_decide_eq_true (by first | (with_reducible assumption) | assumption))
        have HP20 := Kd.R_putg HO_191002.out ((ji10) : Int) (rd x191002_1 (ji7))
        try go_wp2_with (first | ((with_reducible refine gate_store (t := 2) (p := 52) rfl ?_); refine store_event (t := 2) (p := 52) (v := ?vo_w21) (w1 := (w18.setCell ⟨go13, ((ji10) : Int).toNat, none⟩ (.int .i64 (rd x191002_1 (ji7))))) ?hg ?ho ?hn ?hr ?_; (case ho => rfl); (case hg => rfl); (case hn => rfl); (case hr => first | (go_simp; done) | (go_simp; rfl)); intro w21 hw; have hg : w18.grownBy w21 (some go13) := (by rw [hw]; exact HP20.2); have hp_ : Kd.R (Kd.int .i64) 2 w21 w0.heap.size (fun k_ => (P0_2_ k_ ∨ w.heap.size ≤ k_)) (.slice (some ⟨go13, 0, none⟩) x191002_1.length co4) y194 := (by rw [hw, Ny194.out]; exact HP20.1); clear HP20; have n_ := Cy.a4 hp_ (blk_grown (g := gb190) (o := .cells #[.int .i64 a0_0, .int .i64 a0_1, .slice (some ⟨go13, 0, none⟩) x191002_1.length co4] 27 (0, 0)) (Cz.b BK190.out) hg (Kd.R_ne HO_191002.out BK190.out (by decide))) (by rw [hw]; exact below_set (HB.out) GB13.out : Below w0.heap.size w0 w21) (Kept.of_grown (S := (fun k_ => P0_2_ k_)) hg (by repeat (first | (with_reducible first | exact HK.out | apply Kept.alloc | apply Kept.drewN | apply Kept.drew | refine Kept.setCell ?_ (.inr GW190.out) _) | exact HK.out)) (fun k_ e_ => (HO_191002.out.1 k_ e_))); clear HO_191002 BK190 HB HK; obtain ⟨HO_191002, BK190, HB, HK⟩ := n_; clear hg hw hp_))
        (try simp only [← hl191002_1])
        go_roundg k1
        case measure => have := HK1.out; omega
        case rel => exact ⟨(wrap64 (x6_1 + 1)), (y194), (by first | rfl | (simp; done) | (simp [*]; done)), H', ⟨by have := HK1.out; omega⟩, ⟨by (try simp only [hl191002_1]); (with_reducible repeat (first | apply Kd.R_alloc | apply Kd.R_drewN | apply Kd.R_drew)); exact HO_191002.out⟩, ⟨by (try simp only [hl191002_1]); (with_reducible repeat (first | refine blk_drewN ?_ _ | refine blk_drew ?_ | refine blk_alloc ?_ _)); exact BK190.out⟩, ⟨by repeat (first | (with_reducible first | exact HK.out | apply Kept.alloc | apply Kept.drewN | apply Kept.drew | refine Kept.setCell ?_ (.inr GW190.out) _) | exact HK.out)⟩, ⟨Cz.w HB.out⟩⟩
       ·rw [if_neg c12] at H
        exact absurd H (by simp)
      ·rw [if_neg c11] at H
       exact absurd H (by simp)
     ·rw [if_neg c9] at H
      exact absurd H (by simp)
    ·rw [if_neg c8] at H
     exact absurd H (by simp)
   ·rw [if_neg c6] at H
    have c6b0 : decide (x6_1 < a0_1) = false := decide_eq_false c6
    clear c6
    obtain rfl := Option.some.inj H
    obtain ⟨hcz22_0, hcz22_1, hcz22_2, hfz22_0, hfz22_1, hfz22_2⟩ := Cy.z3 BK190.out
    go_wp2
    first | go_end0 | ((try simp only [Exit.inBlock, Exit.then]); refine bodyPost_ret (results_none rfl _ _ _) rfl ?_)
    exact ⟨by first | rfl | (simp [errW_none, errW_some] <;> rfl) | (simp [*, errW_none, errW_some] <;> rfl), (by first | exact (Cz.r HO_191002.out) | (simp only [hl191002_1]; exact (Cz.r HO_191002.out))), Cz.w HB.out, by repeat (first | (with_reducible first | exact HK.out | apply Kept.alloc | apply Kept.drewN | apply Kept.drew | refine Kept.setCell ?_ (.inr GW190.out) _) | exact HK.out)⟩
def spec_l03Add.l0 : Nat → Int → Int → Int → Int → Int → Int → List Int → Option (List Int)
 | 0, _, _, _, _, _, _, _ => none
 | k + 1, x1, x2, x3, x8, x196000, x196001, x196002 => if x8 < x196001 then (if 0 ≤ (wrap64 ((wrap64 (x1 * x196001)) + x8)) then (if (wrap64 ((wrap64 (x1 * x196001)) + x8)) < (x196002.length : Int) then (if 0 ≤ (wrap64 ((wrap64 (x2 * x196001)) + x8)) then (if (wrap64 ((wrap64 (x2 * x196001)) + x8)) < (x196002.length : Int) then ((spec_l02Mul.f k (rd x196002 (wrap64 ((wrap64 (x2 * x196001)) + x8))) x3).bind fun t198 => (spec_l03Add.l0 k x1 x2 x3 (wrap64 (x8 + 1)) x196000 x196001 (x196002.set ((wrap64 ((wrap64 (x1 * x196001)) + x8)) : Int).toNat (Go.bits .xor .i64 (rd x196002 (wrap64 ((wrap64 (x1 * x196001)) + x8))) t198)))) else (none)) else (none)) else (none)) else (none)) else (some x196002)
def spec_l03Add.f (k : Nat) (a0_0 : Int) (a0_1 : Int) (l0_2 : List Int) (a1 : Int) (a2 : Int) (a3 : Int) : Option (List Int) := spec_l03Add.l0 k a1 a2 a3 0 a0_0 a0_1 l0_2
def spec_l03Add.T4 : Bool × List (List Nat × List Nat) := (true, [([], []), ([0], [0]), ([], []), ([], []), ([3], [3]), ([2, 4], [2, 4]), ([], []), ([5, 6], [5, 6]), ([], []), ([8], [8]), ([], []), ([], []), ([11], [11]), ([10, 12], [10, 12]), ([], []), ([13, 14], [13, 14]), ([9, 15], [9, 15]), ([16], [16]), ([], []), ([18], [18]), ([], []), ([], []), ([21], [21]), ([20, 22], [20, 22]), ([], []), ([23, 24], [23, 24]), ([19, 25], [19, 25]), ([26], [26]), ([], []), ([27, 28], [27, 28]), ([17, 29], [17, 29]), ([1, 7, 0, 1, 2, 3, 4, 5, 6, 7, 8, 9, 10, 11, 12, 13, 14, 15, 16, 17, 18, 19, 20, 21, 22, 23, 24, 25, 26, 27, 28, 29, 30], [1, 7]), ([31, 30, 29, 0, 1, 2, 3, 4, 5, 6, 7, 8, 9, 10, 11, 12, 13, 14, 15, 16, 17, 18, 19, 20, 21, 22, 23, 24, 25, 26, 27, 28, 29, 30], [30, 31])])
def spec_l03Add.B4 : List Nat := [0, 1, 0, 0, 8, 28, 0, 124, 0, 256, 0, 0, 2048, 7168, 0, 31744, 65280, 130816, 0, 262144, 0, 0, 2097152, 7340032, 0, 32505856, 66846720, 133955584, 0, 536608768, 1073741568, 2147483647, 4294967295]
theorem spec_l03Add.tab4 : rtab .any (opsOf Try.f136 4) = spec_l03Add.T4 := by kernel_rfl
theorem spec_l03Add.bits4 : waitsOk spec_l03Add.T4.2 spec_l03Add.B4 = true := by kernel_rfl
set_option maxHeartbeats 8000000 in
set_option maxRecDepth 100000 in
theorem spec_l03Add.calls (k : Nat) (a0_0 : Int) (a0_1 : Int) (P0_2_ : Nat → Prop) (u9000_ : Value) (l0_2 : List Int) (a1 : Int) (a2 : Int) (a3 : Int) (r : List Int) (w0 w : World) (hB : Below w0.heap.size w0 w) (ho0_2 : Kd.R (Kd.int .i64) 2 w w0.heap.size P0_2_ u9000_ l0_2) (h : spec_l03Add.f k a0_0 a0_1 l0_2 a1 a2 a3 = some r) :
  Calls Try.prog 136 #[.agg #[.int .i64 a0_0, .int .i64 a0_1, u9000_], .int .i64 a1, .int .i64 a2, .int .i64 a3] w fun e w' => e = .returned (.tuple #[]) ∧ Kd.R (Kd.int .i64) 2 w' w0.heap.size (fun k_ => (P0_2_ k_ ∨ w.heap.size ≤ k_)) u9000_ r ∧ Below w0.heap.size w0 w' ∧ Kept w w' (fun k_ => P0_2_ k_) := by
 have hu27 := Try.underlying27
 have HO0_2 := Aside0.mk (show Kd.R (Kd.int .i64) 2 w w0.heap.size (fun k_ => (P0_2_ k_ ∨ w.heap.size ≤ k_)) u9000_ l0_2 from Kd.R_mono ho0_2 (fun k_ hk => (.inl hk)))
 have HK := Aside0.mk (Kept.refl w (fun k_ => P0_2_ k_))
 have HW0 := Aside0.mk hB.size
 have HB := Aside0.mk hB
 clear hB
 have H : (spec_l03Add.l0 k a1 a2 a3 0 a0_0 a0_1 l0_2) = some r := h
 clear h
 have H' := Aside0.mk H
 clear H
 obtain ⟨Ao5, co5, eo5⟩ := Kd.R_slice HO0_2.out
 subst eo5
 go_enter Try.func136, Try.ntmps136
 go_wp2_with (first | ((with_reducible refine gate_dst (N := 4) rfl ?_); refine box_event ?hg (N := 4) ?hd (cs := #[.int .i64 a0_0, .int .i64 a0_1, .slice Ao5 l0_2.length co5]) (t := 27) ?hr ?_; (case hd => rfl); (case hg => rfl); (case hr => first | (go_simp; done) | (go_simp; rfl)); intro gb195 hg w6 hbox hb; have n_ := Cy.a6 (Kd.R_below (Cz.r HO0_2.out) hb) (Kept.below (S := (fun k_ => P0_2_ k_)) (by repeat (first | (with_reducible first | exact HK.out | apply Kept.alloc | apply Kept.drewN | apply Kept.drew) | exact HK.out)) hb) (below_step (Cz.w HB.out) hb) hbox (by rw [hg]; exact (by first | exact HK.out.1 | exact (show Kept w _ (fun k_ => P0_2_ k_) from by repeat (first | (with_reducible first | exact HK.out | apply Kept.alloc | apply Kept.drewN | apply Kept.drew) | exact HK.out)).1) : w.heap.size ≤ gb195) (by rw [hg]; exact (below_size (Cz.w HB.out)) : w0.heap.size ≤ gb195); clear HO0_2 HK HB; obtain ⟨HO0_2, HK, HB, BK195, GW195, GE195⟩ := n_; clear hb hbox hg))
 go_loopg [8] k (fun kq v8 w' => ∃ (x8_1 : Int) (x196002_1 : List Int), v8 = .int .i64 x8_1 ∧ Aside0 (spec_l03Add.l0 kq a1 a2 a3 x8_1 a0_0 a0_1 x196002_1 = some r) ∧ Aside0 (kq ≤ k) ∧ Aside0 (Kd.R (Kd.int .i64) 2 w' w0.heap.size (fun k_ => (P0_2_ k_ ∨ w.heap.size ≤ k_)) (.slice Ao5 l0_2.length co5) x196002_1) ∧ Aside0 (w'.heap[gb195]? = some (.cells #[.int .i64 a0_0, .int .i64 a0_1, (.slice Ao5 l0_2.length co5)] 27 (0, 0))) ∧ Aside0 (Kept w w' (fun k_ => P0_2_ k_)) ∧ Aside0 (Below w0.heap.size w0 w'))
 case atStart => exact ⟨(0), (l0_2), (by first | rfl | (simp; done) | (simp [*]; done)), H', ⟨Nat.le_refl _⟩, ⟨Cz.r HO0_2.out⟩, ⟨Cz.b BK195.out⟩, ⟨by repeat (first | (with_reducible first | exact HK.out | apply Kept.alloc | apply Kept.drewN | apply Kept.drew | refine Kept.setCell ?_ (.inr GW195.out) _) | exact HK.out)⟩, ⟨Cz.w HB.out⟩⟩
 case round =>
  clear H'
  try clear c1
  try clear p2
  obtain ⟨x8_1, x196002_1, rfl, HA, HK1, HO_196002, BK195, HK, HB⟩ := hrel
  have hl196002_1 := (Kd.R_reads' HO_196002.out).1
  rw [hl196002_1] at HO_196002
  (try simp only [hl196002_1])
  (try simp only [hl196002_1] at BK195)
  cases gk with
  | zero => exact absurd HA.out (by simp [spec_l03Add.l0])
  | succ k1 =>
   have H := HA.out
   clear HA
   simp only [spec_l03Add.l0] at H
   by_cases c7 : x8_1 < a0_1
   ·rw [if_pos c7] at H
    have c7b0 : decide (x8_1 < a0_1) = true := decide_eq_true c7
    clear c7
    obtain ⟨ji8, hji8⟩ : ∃ j_ : Int, (wrap64 ((wrap64 (a1 * a0_1)) + x8_1)) = j_ := ⟨_, rfl⟩
    replace H : (if 0 ≤ (ji8) then (if (ji8) < (x196002_1.length : Int) then (if 0 ≤ (wrap64 ((wrap64 (a2 * a0_1)) + x8_1)) then (if (wrap64 ((wrap64 (a2 * a0_1)) + x8_1)) < (x196002_1.length : Int) then ((spec_l02Mul.f k1 (rd x196002_1 (wrap64 ((wrap64 (a2 * a0_1)) + x8_1))) a3).bind fun t198 => (spec_l03Add.l0 k1 a1 a2 a3 (wrap64 (x8_1 + 1)) a0_0 a0_1 (x196002_1.set ((ji8) : Int).toNat (Go.bits .xor .i64 (rd x196002_1 (ji8)) t198)))) else (none)) else (none)) else (none)) else (none)) = some r := by first | (rw [hji8] at H; exact H) | (simp only [hji8] at H ⊢; exact H)
    have hji8w : (IntKind.i64.wrap ((wrap64 (a1 * a0_1)) + x8_1)) = ji8 := (i64_w _).trans hji8
    by_cases c9 : 0 ≤ (ji8)
    ·rw [if_pos c9] at H
     have c9b0 : decide (0 ≤ (ji8)) = true := decide_eq_true c9
     clear c9
     by_cases c10 : (ji8) < (x196002_1.length : Int)
     ·rw [if_pos c10] at H
      have c10b0 : decide ((ji8) < (x196002_1.length : Int)) = true := decide_eq_true c10
      clear c10
      obtain ⟨ji11, hji11⟩ : ∃ j_ : Int, (wrap64 ((wrap64 (a2 * a0_1)) + x8_1)) = j_ := ⟨_, rfl⟩
      replace H : (if 0 ≤ (ji11) then (if (ji11) < (x196002_1.length : Int) then ((spec_l02Mul.f k1 (rd x196002_1 (ji11)) a3).bind fun t198 => (spec_l03Add.l0 k1 a1 a2 a3 (wrap64 (x8_1 + 1)) a0_0 a0_1 (x196002_1.set ((ji8) : Int).toNat (Go.bits .xor .i64 (rd x196002_1 (ji8)) t198)))) else (none)) else (none)) = some r := by first | (rw [hji11] at H; exact H) | (simp only [hji11] at H ⊢; exact H)
      have hji11w : (IntKind.i64.wrap ((wrap64 (a2 * a0_1)) + x8_1)) = ji11 := (i64_w _).trans hji11
      by_cases c12 : 0 ≤ (ji11)
      ·rw [if_pos c12] at H
       have c12b0 : decide (0 ≤ (ji11)) = true := decide_eq_true c12
       clear c12
       by_cases c13 : (ji11) < (x196002_1.length : Int)
       ·rw [if_pos c13] at H
        have c13b0 : decide ((ji11) < (x196002_1.length : Int)) = true := decide_eq_true c13
        clear c13
        replace H := Option.bind_eq_some_iff.mp H
        obtain ⟨t198, A140, H⟩ := H
        replace H : (spec_l03Add.l0 k1 a1 a2 a3 (wrap64 (x8_1 + 1)) a0_0 a0_1 (x196002_1.set ((ji8) : Int).toNat (Go.bits .xor .i64 (rd x196002_1 (ji8)) t198))) = some r := H
        have A14 := Aside0.mk A140
        clear A140
        obtain ⟨y199, hy199⟩ : ∃ y_ : List Int, y_ = (x196002_1.set ((ji8) : Int).toNat (Go.bits .xor .i64 (rd x196002_1 (ji8)) t198)) := ⟨_, rfl⟩
        replace H : (spec_l03Add.l0 k1 a1 a2 a3 (wrap64 (x8_1 + 1)) a0_0 a0_1 y199) = some r := by first | (rw [hy199]; with_reducible exact H) | (have H2_ := (Option.bind_some _ _).symm.trans H; rw [hy199]; with_reducible exact H2_) | (have H2_ := (Option.bind_some _ _).symm.trans H; with_reducible exact H2_) | with_reducible exact H | (rw [hy199]; exact H) | exact H
        have Ny199 := Aside0.mk hy199
        clear hy199
        have H' := Aside0.mk H
        clear H
        obtain ⟨hcz16_0, hcz16_1, hcz16_2, hfz16_0, hfz16_1, hfz16_2⟩ := Cy.z3 BK195.out
        try go_wp2
        have n_ := Cy.a4 (Kd.R_drew HO_196002.out) (blk_drew BK195.out) (Kept.drew HK.out) (below_drew1 HB.out)
        clear HO_196002 BK195 HK HB
        obtain ⟨HO_196002, BK195, HK, HB⟩ := n_
        have p196 : 0 ≤ ((ji8) : Int) := of_decide_eq_true (by first | (with_reducible assumption) | assumption)
        have q196 : (ji8) < (x196002_1.length : Int) := of_decide_eq_true (by first | (with_reducible assumption) | assumption)
        obtain ⟨ad196, e196, hx196_0⟩ := Kd.at_int (Kd.R_reads' HO_196002.out).2.2 (ji8) p196 q196
        cases e196
        replace p196 := eq_true p196
        replace q196 := eq_true q196
        have p197 : 0 ≤ ((ji11) : Int) := of_decide_eq_true (by first | (with_reducible assumption) | assumption)
        have q197 : (ji11) < (x196002_1.length : Int) := of_decide_eq_true (by first | (with_reducible assumption) | assumption)
        obtain ⟨ad197, e197, hx197_0⟩ := Kd.at_int (Kd.R_reads' HO_196002.out).2.2 (ji11) p197 q197
        obtain rfl : ad196 = ad197 := (by injection e197)
        replace p197 := eq_true p197
        replace q197 := eq_true q197
        refine start_ (n := 33) (S := fun w' => w'.cell? ⟨gb195, 0, none⟩ = some (.int .i64 a0_0) ∧ w'.cell? ⟨gb195, 1, none⟩ = some (.int .i64 a0_1) ∧ w'.cell? ⟨gb195, 2, none⟩ = some (.slice (some ad196) x196002_1.length co5) ∧ w'.cell? (ad196.add ((ji8)).toNat) = some (.int .i64 (rd x196002_1 (ji8))) ∧ w'.cell? (ad196.add ((ji11)).toNat) = some (.int .i64 (rd x196002_1 (ji11)))) (ds := [32]) #[false, false, false, false, false, false, false, false, false, false, false, false, false, false, false, false, false, false, false, false, false, false, false, false, false, false, false, false, false, false, false, false, false] (by kernel_rfl) rfl rfl ⟨(blk_cell BK195.out 0).trans rfl, (blk_cell BK195.out 1).trans rfl, (blk_cell BK195.out 2).trans rfl, hx196_0, hx197_0⟩ (fun hHeld => ?_); refine with_tabW spec_l03Add.tab4 spec_l03Add.bits4 (fun HT_ HW_ => ?_)
        generalize wr.drew = w17 at HO_196002 BK195 HK HB hx196_0 hx197_0 hHeld ⊢
        refine Cy.pu 0 15 HT_ ?_
        refine Cy.pu 2 17 HT_ ?_
        refine Cy.pu 3 18 HT_ ?_
        refine Cy.pu 6 21 HT_ ?_
        refine Cy.pu 8 23 HT_ ?_
        refine Cy.pu 10 25 HT_ ?_
        refine Cy.pu 11 26 HT_ ?_
        refine Cy.pu 14 29 HT_ ?_
        refine Cy.pu 18 33 HT_ ?_
        refine Cy.pu 20 35 HT_ ?_
        refine Cy.pu 21 36 HT_ ?_
        refine Cy.pu 24 39 HT_ ?_
        refine Cy.pu 28 43 HT_ ?_
        refine Cy.tk 1 16 HT_ HW_ hHeld ?_
        refine Cy.tk 4 19 HT_ HW_ hHeld ?_
        refine Cy.pu 5 20 HT_ ?_
        refine Cy.pu 7 22 HT_ ?_
        refine Cy.tk 9 24 HT_ HW_ hHeld ?_
        refine Cy.tk 12 27 HT_ HW_ hHeld ?_
        refine Cy.pu 13 28 HT_ ?_
        refine Cy.pu 15 30 HT_ ?_
        refine Cy.pu 16 31 HT_ ?_
        refine Cy.tk 17 32 HT_ HW_ hHeld ?_
        refine Cy.tk 19 34 HT_ HW_ hHeld ?_
        refine Cy.tk 22 37 HT_ HW_ hHeld ?_
        refine Cy.pu 23 38 HT_ ?_
        refine Cy.pu 25 40 HT_ ?_
        refine Cy.pu 26 41 HT_ ?_
        refine Cy.tk 27 42 HT_ HW_ hHeld ?_
        refine one_ (i := 29) (N := some 44) #[true, true, true, true, true, true, true, true, true, true, true, true, true, true, true, true, true, true, true, true, true, true, true, true, true, true, true, true, true, true, false, false, false] rfl rfl (one_of HT_.out (by kernel_rfl)) (by decide) (fun K hK => ?_)
        refine goes_ Try.func86 (by kernel_rfl) rfl #[.int .i64 (rd x196002_1 (ji11)), .int .i64 a3] (by rfl) rfl rfl (by (try simp only [List.map_toArray, List.map_cons, List.map_nil]); first | done | (simp only [hji11]; rfl) | rfl | (simp only [List.length_drop, List.length_take]; rfl)) ?_
        with_reducible refine (spec_l02Mul.calls k1 (rd x196002_1 (ji11)) a3 t198 _ A14.out).mono ?_
        rintro e w' ⟨rfl, ⟨nd, rfl⟩⟩
        refine ⟨_, rfl, ?_⟩
        have p15 : 0 ≤ ((ji8) : Int) := of_decide_eq_true (by first | (with_reducible assumption) | assumption)
        have q15 : ((ji8) : Int) < ((x196002_1.length : Int) : Int) := of_decide_eq_true (by first | (with_reducible assumption) | assumption)
        obtain ⟨go15, co15, eo15, gb15, gl15, cl15, HG15⟩ := Kd.R_form HO_196002.out (by omega)
        (first | cases eo15 | (injection eo15 with ea_ en_ ec_; (first | subst ea_ | (injection ea_ with ea_; subst ea_)); subst ec_; clear en_))
        have GB15 := Aside0.mk gb15
        have GG15 := Aside0.mk HG15
        clear gb15 gl15 HG15
        have HMgo15 := Aside0.mk (show (P0_2_ go15 ∨ w.heap.size ≤ go15) from (HO_196002.out.1 _ rfl))
        (first | simp only [add_plain] at hx196_0 | skip)
        (first | simp only [add_plain] at hx197_0 | skip)
        obtain ⟨hx15_0, hf15_0⟩ := Kd.R_celln 0 HO_196002.out ((ji8) : Int) p15 q15
        replace p15 := eq_true p15
        replace q15 := eq_true q15
        have HP18 := Kd.R_putn HO_196002.out ((ji8) : Int) (Go.bits .xor .i64 (rd x196002_1 (ji8)) t198)
        rw [← Ny199.out] at HP18
        have HQ18 := Aside0.mk HP18
        clear HP18
        refine hK.out _ _ ⟨(blk_cell BK195.out 0).trans rfl, (blk_cell BK195.out 1).trans rfl, (blk_cell BK195.out 2).trans rfl, hHeld.2.2.2.1, hHeld.2.2.2.2⟩ (fun hHeld => ?_)
        clear hK K
        refine norm_ (a' := ?_) ?_ ?_
        rotate_left
        ·show Act.put _ (some 44) _ = _
         simp only [Act.put, List.setIfInBounds_toArray, List.set_cons_zero, List.set_cons_succ, i64_w, i32_w]
         rfl
        refine Cy.pu 30 45 HT_ ?_
        refine Cy.pu 31 46 HT_ ?_
        refine last_ (i := 32) (N := none) #[true, true, true, true, true, true, true, true, true, true, true, true, true, true, true, true, true, true, true, true, true, true, true, true, true, true, true, true, true, true, true, true, true] rfl rfl (one_of HT_.out (by kernel_rfl)) (by decide) (fun K hK => ?_)
        refine skip_ (w1 := ?_) (by rfl) rfl ?_ ?_
        rotate_left
        ·go_simp
         rfl
        refine hK.out _ _ ?_
        clear hK K
        refine done_ (done_of HT_.out (by kernel_rfl)) ?_
        try go_wp2
        (try simp only [← hl196002_1])
        go_roundg k1
        case measure => have := HK1.out; omega
        case rel => exact ⟨(wrap64 (x8_1 + 1)), (y199), (by first | rfl | (simp; done) | (simp [*]; done)), H', ⟨by have := HK1.out; omega⟩, ⟨by (try simp only [hl196002_1]); (with_reducible repeat (first | apply Kd.R_alloc | apply Kd.R_drewN | apply Kd.R_drew)); exact HQ18.out⟩, ⟨by (try simp only [hl196002_1]); (with_reducible repeat (first | refine blk_drewN ?_ _ | refine blk_drew ?_ | refine blk_alloc ?_ _)); refine blk_far ?_ (by have h_ := Kd.R_ne HO_196002.out BK195.out (by decide); intro e_; exact h_ (by rw [e_]; rfl)) _; (with_reducible repeat (first | refine blk_drewN ?_ _ | refine blk_drew ?_ | refine blk_alloc ?_ _)); exact BK195.out⟩, ⟨by repeat (first | (with_reducible first | exact HK.out | apply Kept.alloc | apply Kept.drewN | apply Kept.drew | refine Kept.setCell ?_ HMgo15.out _ | refine Kept.setCell ?_ (.inr GW195.out) _) | exact HK.out)⟩, ⟨by repeat (first | (with_reducible first | exact HB.out | apply below_alloc | apply pw_below_drewN | apply below_drew1 | refine below_set ?_ GB15.out | refine below_set ?_ GE195.out) | exact HB.out)⟩⟩
       ·rw [if_neg c13] at H
        exact absurd H (by simp)
      ·rw [if_neg c12] at H
       exact absurd H (by simp)
     ·rw [if_neg c10] at H
      exact absurd H (by simp)
    ·rw [if_neg c9] at H
     exact absurd H (by simp)
   ·rw [if_neg c7] at H
    have c7b0 : decide (x8_1 < a0_1) = false := decide_eq_false c7
    clear c7
    obtain rfl := Option.some.inj H
    obtain ⟨hcz19_0, hcz19_1, hcz19_2, hfz19_0, hfz19_1, hfz19_2⟩ := Cy.z3 BK195.out
    go_wp2
    first | go_end0 | ((try simp only [Exit.inBlock, Exit.then]); refine bodyPost_ret (results_none rfl _ _ _) rfl ?_)
    exact ⟨by first | rfl | (simp [errW_none, errW_some] <;> rfl) | (simp [*, errW_none, errW_some] <;> rfl), (by first | exact (Cz.r HO_196002.out) | (simp only [hl196002_1]; exact (Cz.r HO_196002.out))), Cz.w HB.out, by repeat (first | (with_reducible first | exact HK.out | apply Kept.alloc | apply Kept.drewN | apply Kept.drew | refine Kept.setCell ?_ (.inr GW195.out) _) | exact HK.out)⟩
end Go.Proofs.Ytlololbhlnapkaa.XFnExactDecode

/- Plain functions of what the law reaches, proofs that the calls come to them, and the law's row: written by a program of this session (xprint.py) over the kit's print. No conditions beyond each lemma's own. -/
import Derived.Test.YtlololbhlnapkaaKyCy
import Derived.Test.YtlololbhlnapkaaKyXFnExactDecodex0
import Derived.Test.YtlololbhlnapkaaKyXFnExactDecodex1
namespace Go.Proofs.Ytlololbhlnapkaa.XFnExactDecode
open Go.RowKit Go.Proofs.YtlololbhlnapkaaW.PrintWords Go.Proofs.YtlololbhlnapkaaW.PrintLast Go.Proofs.YtlololbhlnapkaaW.PrintMore
attribute [local go_sem] max2_int min2_int max_two min_two max_three min_three max_four min_four   -- for this text's walks alone
set_option linter.unusedVariables false
set_option linter.unusedSimpArgs false
def spec_l03Unit.l0 : Nat → Int → Int → Int → Int → List Int → Option (Int × Int × List Int)
  | 0, _, _, _, _, _ => none
  | k + 1, x0, x4, x127000, x127001, x127002 => if x4 < x0 then (if 0 ≤ (wrap64 ((wrap64 (x4 * x0)) + x4)) then (if (wrap64 ((wrap64 (x4 * x0)) + x4)) < (x127002.length : Int) then (spec_l03Unit.l0 k x0 (wrap64 (x4 + 1)) x127000 x127001 (x127002.set ((wrap64 ((wrap64 (x4 * x0)) + x4)) : Int).toNat 1)) else (none)) else (none)) else (some (x127000, x127001, x127002))
def spec_l03Unit.f (k : Nat) (a0 : Int) : Option (Int × Int × List Int) := if 0 ≤ (wrap64 (a0 * a0)) then (if (wrap64 (a0 * a0) : Int).toNat ≤ 35184372088832 then (spec_l03Unit.l0 k a0 0 a0 a0 (List.replicate (wrap64 (a0 * a0) : Int).toNat 0)) else (none)) else (none)
set_option maxHeartbeats 8000000 in
set_option maxRecDepth 100000 in
theorem spec_l03Unit.calls (k : Nat) (a0 : Int) (r1 : Int) (r2 : Int) (r3 : List Int) (w : World) (h : spec_l03Unit.f k a0 = some (r1, r2, r3)) :
  Calls Try.prog 77 #[.int .i64 a0] w fun e w' => ∃ v2_ : Value, e = .returned (.agg #[.int .i64 r1, .int .i64 r2, v2_]) ∧ Kd.R (Kd.int .i64) 2 w' w.heap.size (fun _ => True) v2_ r3 ∧ Below w.heap.size w w' := by
 have hu27 := Try.underlying27
 have HB := Aside0.mk (Below.refl w.heap.size w)
 have H : (if 0 ≤ (wrap64 (a0 * a0)) then (if (wrap64 (a0 * a0) : Int).toNat ≤ 35184372088832 then (spec_l03Unit.l0 k a0 0 a0 a0 (List.replicate (wrap64 (a0 * a0) : Int).toNat 0)) else (none)) else (none)) = some (r1, r2, r3) := h
 clear h
 obtain ⟨ji2, hji2⟩ : ∃ j_ : Int, (wrap64 (a0 * a0)) = j_ := ⟨_, rfl⟩
 replace H : (if 0 ≤ (ji2) then (if (ji2 : Int).toNat ≤ 35184372088832 then (spec_l03Unit.l0 k a0 0 a0 a0 (List.replicate (ji2 : Int).toNat 0)) else (none)) else (none)) = some (r1, r2, r3) := by first | (rw [hji2] at H; exact H) | (simp only [hji2] at H ⊢; exact H)
 have hji2w : (IntKind.i64.wrap (a0 * a0)) = ji2 := (i64_w _).trans hji2
 by_cases c3 : 0 ≤ (ji2)
 ·rw [if_pos c3] at H
  have c3b0 := eq_true c3
  have c3b1 : decide (0 ≤ (ji2)) = true := decide_eq_true c3
  clear c3
  by_cases c4 : (ji2 : Int).toNat ≤ 35184372088832
  ·rw [if_pos c4] at H
   have c4b0 := eq_true c4
   have c4b1 : decide ((ji2 : Int).toNat ≤ 35184372088832) = true := decide_eq_true c4
   clear c4
   obtain ⟨y123, hy123⟩ : ∃ y_ : List Int, y_ = (List.replicate (ji2 : Int).toNat 0) := ⟨_, rfl⟩
   replace H : (spec_l03Unit.l0 k a0 0 a0 a0 y123) = some (r1, r2, r3) := by first | (rw [hy123]; with_reducible exact H) | (have H2_ := (Option.bind_some _ _).symm.trans H; rw [hy123]; with_reducible exact H2_) | (have H2_ := (Option.bind_some _ _).symm.trans H; with_reducible exact H2_) | with_reducible exact H | (rw [hy123]; exact H) | exact H
   have Ny123 := Aside0.mk hy123
   clear hy123
   have H' := Aside0.mk H
   clear H
   go_enter Try.func77, Try.ntmps77
   go_wp2_with (first | ((with_reducible refine gate_dst (N := 2) rfl ?_); refine box_event ?hg (N := 2) ?hd (cs := #[.int .i64 0, .int .i64 0, .slice none 0 0]) (t := 27) ?hr ?_; (case hd => rfl); (case hg => rfl); (case hr => first | (go_simp; done) | (go_simp; rfl)); intro gb122 hg w5 hbox hb; have n_ := Cy.a4 (below_step (Cz.w HB.out) hb) hbox (Cy.gw hg HB.out) (Cy.gw hg HB.out); clear HB; obtain ⟨HB, BK122, GW122, GE122⟩ := n_; clear hb hbox hg) | ((with_reducible refine gate_dst (N := 10) rfl ?_); refine Kd.R_make (Kd.int .i64) _ 2 rfl (N := 10) rfl 22 _ _ rfl ji2 rfl rfl Try.underlying22 (.int .i64 0) 8 info2 rfl (by decide) (by omega) 0 (ok := fun _ => True) (okp := fun _ => True) rfl (fun _ hk => hk) trivial (of_decide_eq_true (by first | (with_reducible assumption) | assumption)) (Nat.le_trans (Nat.mul_le_mul_right _ (of_decide_eq_true (by first | (with_reducible assumption) | assumption) : ji2.toNat ≤ 35184372088832)) (by omega)) (Below.refl _ _) (Nat.le_refl _) ?_; intro v124 w6 ho7 hb hg_ hnew_; clear hg_ hnew_; (first | rw [← Ny123.out] at ho7 | (simp only [Int.reduceToNat] at ho7; rw [← Ny123.out] at ho7)); have n_ := Cy.a3 (Kd.R_lower ho7 (below_size (Cz.w HB.out))) (blk_below (g := gb122) (o := .cells #[.int .i64 0, .int .i64 0, .slice none 0 0] 27 (0, 0)) (Cz.b BK122.out) hb) (below_step (Cz.w HB.out) hb); clear BK122 HB; obtain ⟨HO125, BK122, HB⟩ := n_; clear hb ho7; obtain ⟨Ao8, co8, eo8⟩ := Kd.R_slice HO125.out; subst eo8) | ((with_reducible refine gate_dst (N := 3) rfl ?_); refine box_event ?hg (N := 3) ?hd (cs := #[.int .i64 0, .int .i64 0, .slice none 0 0]) (t := 27) ?hr ?_; (case hd => rfl); (case hg => rfl); (case hr => first | (go_simp; done) | (go_simp; rfl)); intro gb126 hg w9 hbox hb; have n_ := Cy.a8 (Kd.R_below (Cz.r HO125.out) hb) (blk_below (g := gb122) (o := .cells #[.int .i64 0, .int .i64 0, .slice none 0 0] 27 (0, 0)) (Cz.b BK122.out) hb) (below_step (Cz.w HB.out) hb) hbox (Cy.gw hg HB.out) (Cy.gw hg HB.out) (by rw [hg]; exact Nat.ne_of_lt (blk_lt (g := gb122) (o := .cells #[.int .i64 0, .int .i64 0, .slice none 0 0] 27 (0, 0)) (Cz.b BK122.out)) : gb122 ≠ gb126) (by rw [hg]; exact Nat.ne_of_gt (blk_lt (g := gb122) (o := .cells #[.int .i64 0, .int .i64 0, .slice none 0 0] 27 (0, 0)) (Cz.b BK122.out)) : gb126 ≠ gb122); clear HO125 BK122 HB; obtain ⟨HO125, BK122, HB, BK126, GW126, GE126, NB122_126, NB126_122⟩ := n_; clear hb hbox hg; have hnb10 := NB126_122.out; have hnc10 := NB122_126.out; obtain ⟨hcz11_0, hcz11_1, hcz11_2, hfz11_0, hfz11_1, hfz11_2⟩ := Cy.z3 BK126.out))
   go_loopg [4] k (fun kq v4 w' => ∃ (x4_1 : Int) (x127002_1 : List Int) (u127002 : Value), v4 = .int .i64 x4_1 ∧ Aside0 (spec_l03Unit.l0 kq a0 x4_1 a0 a0 x127002_1 = some (r1, r2, r3)) ∧ Aside0 (kq ≤ k) ∧ Aside0 (Kd.R (Kd.int .i64) 2 w' w.heap.size (fun _ => True) u127002 x127002_1) ∧ Aside0 (w'.heap[gb122]? = some (.cells #[.int .i64 0, .int .i64 0, (.slice none 0 0)] 27 (0, 0))) ∧ Aside0 (w'.heap[gb126]? = some (.cells #[.int .i64 a0, .int .i64 a0, u127002] 27 (0, 0))) ∧ Aside0 (Below w.heap.size w w'))
   case atStart => exact ⟨(0), (y123), (.slice Ao8 y123.length co8), (by first | rfl | (simp; done) | (simp [*]; done)), H', ⟨Nat.le_refl _⟩, ⟨by (with_reducible repeat (first | apply Kd.R_alloc | apply Kd.R_drewN | apply Kd.R_drew)); exact Kd.R_mono (Kd.R_far (p := ⟨gb126, 2, none⟩) (Kd.R_far (p := ⟨gb126, 1, none⟩) (Kd.R_far (p := ⟨gb126, 0, none⟩) (Kd.R_types HO125.out BK126.out (by decide)) (fun _ hk => hk.2) (.int .i64 a0)) (fun _ hk => hk.2) (.int .i64 a0)) (fun _ hk => hk.2) (.slice Ao8 y123.length co8)) (fun _ hk => trivial)⟩, ⟨Cz.f BK122.out NB122_126.out⟩, ⟨Cz.p3 BK126.out⟩, ⟨Cz.w HB.out⟩⟩
   case round =>
    clear H'
    try clear c1
    try clear p2
    try clear c3
    try clear c3b0
    try clear c3b1
    try clear c4
    try clear c4b0
    try clear c4b1
    try clear p6
    try clear c7
    try clear c10
    try clear hcz11_0
    try clear hcz11_1
    try clear hcz11_2
    try clear hfz11_0
    try clear hfz11_1
    try clear hfz11_2
    obtain ⟨x4_1, x127002_1, u127002, rfl, HA, HK1, HO_127002, BK122, BK126, HB⟩ := hrel
    cases gk with
    | zero => exact absurd HA.out (by simp [spec_l03Unit.l0])
    | succ k1 =>
     have H := HA.out
     clear HA
     simp only [spec_l03Unit.l0] at H
     by_cases c12 : x4_1 < a0
     ·rw [if_pos c12] at H
      have c12b0 : decide (x4_1 < a0) = true := decide_eq_true c12
      clear c12
      obtain ⟨ji13, hji13⟩ : ∃ j_ : Int, (wrap64 ((wrap64 (x4_1 * a0)) + x4_1)) = j_ := ⟨_, rfl⟩
      replace H : (if 0 ≤ (ji13) then (if (ji13) < (x127002_1.length : Int) then (spec_l03Unit.l0 k1 a0 (wrap64 (x4_1 + 1)) a0 a0 (x127002_1.set ((ji13) : Int).toNat 1)) else (none)) else (none)) = some (r1, r2, r3) := by first | (rw [hji13] at H; exact H) | (simp only [hji13] at H ⊢; exact H)
      have hji13w : (IntKind.i64.wrap ((wrap64 (x4_1 * a0)) + x4_1)) = ji13 := (i64_w _).trans hji13
      by_cases c14 : 0 ≤ (ji13)
      ·rw [if_pos c14] at H
       have c14b0 : decide (0 ≤ (ji13)) = true := decide_eq_true c14
       clear c14
       by_cases c15 : (ji13) < (x127002_1.length : Int)
       ·rw [if_pos c15] at H
        have c15b0 : decide ((ji13) < (x127002_1.length : Int)) = true := decide_eq_true c15
        clear c15
        obtain ⟨y127, hy127⟩ : ∃ y_ : List Int, y_ = (x127002_1.set ((ji13) : Int).toNat 1) := ⟨_, rfl⟩
        replace H : (spec_l03Unit.l0 k1 a0 (wrap64 (x4_1 + 1)) a0 a0 y127) = some (r1, r2, r3) := by first | (rw [hy127]; with_reducible exact H) | (have H2_ := (Option.bind_some _ _).symm.trans H; rw [hy127]; with_reducible exact H2_) | (have H2_ := (Option.bind_some _ _).symm.trans H; with_reducible exact H2_) | with_reducible exact H | (rw [hy127]; exact H) | exact H
        have Ny127 := Aside0.mk hy127
        clear hy127
        have H' := Aside0.mk H
        clear H
        have hnb17 := NB126_122.out
        have hnc17 := NB122_126.out
        obtain ⟨hcz18_0, hcz18_1, hcz18_2, hfz18_0, hfz18_1, hfz18_2⟩ := Cy.z3 BK126.out
        have p16 : 0 ≤ ((ji13) : Int) := of_decide_eq_true (by first | (with_reducible assumption) | assumption)
        have q16 : ((ji13) : Int) < ((x127002_1.length : Int) : Int) := of_decide_eq_true (by first | (with_reducible assumption) | assumption)
        obtain ⟨go16, co16, eo16, gb16, gl16, cl16, HG16⟩ := Kd.R_form HO_127002.out (by omega)
        (first | cases eo16 | (injection eo16 with ea_ en_ ec_; (first | subst ea_ | (injection ea_ with ea_; subst ea_)); subst ec_; clear en_))
        have GB16 := Aside0.mk gb16
        have GG16 := Aside0.mk HG16
        clear gb16 gl16 HG16
        obtain ⟨hx16_0, hf16_0⟩ := Kd.R_celln 0 HO_127002.out ((ji13) : Int) p16 q16
        replace p16 := eq_true p16
        replace q16 := eq_true q16
        have HP19 := Kd.R_putg HO_127002.out ((ji13) : Int) 1
        go_wp2_with (first | ((with_reducible refine gate_store (t := 2) (p := 24) rfl ?_); refine store_event (t := 2) (p := 24) (v := ?vo_w20) (w1 := (wr.setCell ⟨go16, ((ji13) : Int).toNat, none⟩ (.int .i64 1))) ?hg ?ho ?hn ?hr ?_; (case ho => rfl); (case hg => rfl); (case hn => rfl); (case hr => first | (go_simp; done) | (go_simp; rfl)); intro w20 hw; have hg : wr.grownBy w20 (some go16) := (by rw [hw]; exact HP19.2); have hp_ : Kd.R (Kd.int .i64) 2 w20 w.heap.size (fun _ => True) (.slice (some ⟨go16, 0, none⟩) x127002_1.length co16) y127 := (by rw [hw, Ny127.out]; exact HP19.1); clear HP19; have n_ := Cy.a4 hp_ (blk_grown (g := gb122) (o := .cells #[.int .i64 0, .int .i64 0, .slice none 0 0] 27 (0, 0)) (Cz.b BK122.out) hg (Kd.R_ne HO_127002.out BK122.out (by decide))) (blk_grown (g := gb126) (o := .cells #[.int .i64 a0, .int .i64 a0, .slice (some ⟨go16, 0, none⟩) x127002_1.length co16] 27 (0, 0)) (Cz.b BK126.out) hg (Kd.R_ne HO_127002.out BK126.out (by decide))) (by rw [hw]; exact below_set (HB.out) GB16.out : Below w.heap.size w w20); clear HO_127002 BK122 BK126 HB; obtain ⟨HO_127002, BK122, BK126, HB⟩ := n_; clear hg hw hp_))
        go_roundg k1
        case measure => have := HK1.out; omega
        case rel => exact ⟨(wrap64 (x4_1 + 1)), (y127), (.slice (some ⟨go16, 0, none⟩) x127002_1.length co16), (by first | rfl | (simp; done) | (simp [*]; done)), H', ⟨by have := HK1.out; omega⟩, ⟨Cz.r HO_127002.out⟩, ⟨Cz.b BK122.out⟩, ⟨Cz.b BK126.out⟩, ⟨Cz.w HB.out⟩⟩
       ·rw [if_neg c15] at H
        exact absurd H (by simp)
      ·rw [if_neg c14] at H
       exact absurd H (by simp)
     ·rw [if_neg c12] at H
      have c12b0 : decide (x4_1 < a0) = false := decide_eq_false c12
      clear c12
      simp only [Option.some.injEq, Prod.mk.injEq] at H
      obtain ⟨rfl, rfl, rfl⟩ := H
      have hnb21 := NB126_122.out
      have hnc21 := NB122_126.out
      obtain ⟨hcz22_0, hcz22_1, hcz22_2, hfz22_0, hfz22_1, hfz22_2⟩ := Cy.z3 BK126.out
      obtain ⟨hcz23_0, hcz23_1, hcz23_2, hfz23_0, hfz23_1, hfz23_2⟩ := Cy.z3 BK122.out
      obtain ⟨Ao24, co24, eo24⟩ := Kd.R_slice HO_127002.out
      subst eo24
      go_wp2
      refine bodyPost_ret (results_cell_row rfl _ _ gb122 27 #[.int .i64 a0, .int .i64 a0, .slice Ao24 x127002_1.length co24] (0, 0) _ rfl (Cz.p3 BK122.out) Try.underlying27 rfl (by kernel_rfl)) rfl ?_
      exact ⟨_, by first | rfl | (simp [errW_none, errW_some] <;> rfl) | (simp only [← hji2]; first | rfl | (simp [errW_none, errW_some] <;> rfl)) | (simp [*, errW_none, errW_some] <;> rfl), by (with_reducible repeat (first | apply Kd.R_alloc | apply Kd.R_drewN | apply Kd.R_drew)); exact Kd.R_mono (Kd.R_far (p := ⟨gb122, 2, none⟩) (Kd.R_far (p := ⟨gb122, 1, none⟩) (Kd.R_far (p := ⟨gb122, 0, none⟩) (Kd.R_types HO_127002.out BK122.out (by decide)) (fun _ hk => hk.2) (.int .i64 a0)) (fun _ hk => hk.2) (.int .i64 a0)) (fun _ hk => hk.2) (.slice Ao24 x127002_1.length co24)) (fun _ hk => trivial), Cz.w HB.out⟩
  ·rw [if_neg c4] at H
   exact absurd H (by simp)
 ·rw [if_neg c3] at H
  exact absurd H (by simp)
def spec_l02Byte.f (a0 : Int) : Option (Bool) := if a0 ≥ 0 then (some (decide (a0 ≤ 255))) else (some false)
set_option maxHeartbeats 8000000 in
set_option maxRecDepth 100000 in
theorem spec_l02Byte.calls (a0 : Int) (r : Bool) (w : World) (h : spec_l02Byte.f a0 = some r) :
  Calls Try.prog 65 #[.int .i64 a0] w fun e w' => e = .returned (.bool r) ∧ Drawn0 w w' := by
 have H : (if a0 ≥ 0 then (some (decide (a0 ≤ 255))) else (some false)) = some r := h
 clear h
 by_cases c2 : a0 ≥ 0
 ·rw [if_pos c2] at H
  have c2b0 : decide (0 ≤ a0) = true := decide_eq_true c2
  clear c2
  obtain rfl := Option.some.inj H
  go_enter Try.func65, Try.ntmps65
  go_wp2
  go_ret
  exact ⟨by first | rfl | (simp; done) | (simp [*]; done), by repeat (first | exact Drawn0.refl _ | apply Drawn0.step)⟩
 ·rw [if_neg c2] at H
  have c2b0 : decide (0 ≤ a0) = false := decide_eq_false c2
  clear c2
  obtain rfl := Option.some.inj H
  go_enter Try.func65, Try.ntmps65
  go_wp2
  go_ret
  exact ⟨by first | rfl | (simp; done) | (simp [*]; done), by repeat (first | exact Drawn0.refl _ | apply Drawn0.step)⟩
def spec_l02Mul.l0 : Nat → Int → Int → Int → Option (Int)
 | 0, _, _, _ => none
 | k + 1, x0, x1, x5 => if x1 > 0 then (if (Int.tmod x1 2) = 1 then (if (wrap64 (2 * x0)) > 255 then (spec_l02Mul.l0 k (Go.bits .xor .i64 (wrap64 (2 * x0)) 285) (wrap64 (Int.tdiv x1 2)) (Go.bits .xor .i64 x5 x0)) else (spec_l02Mul.l0 k (wrap64 (2 * x0)) (wrap64 (Int.tdiv x1 2)) (Go.bits .xor .i64 x5 x0))) else (if (wrap64 (2 * x0)) > 255 then (spec_l02Mul.l0 k (Go.bits .xor .i64 (wrap64 (2 * x0)) 285) (wrap64 (Int.tdiv x1 2)) x5) else (spec_l02Mul.l0 k (wrap64 (2 * x0)) (wrap64 (Int.tdiv x1 2)) x5))) else (some x5)
def spec_l02Mul.f (k : Nat) (a0 : Int) (a1 : Int) : Option (Int) := spec_l02Mul.l0 k a0 a1 0
set_option maxHeartbeats 8000000 in
set_option maxRecDepth 100000 in
theorem spec_l02Mul.calls (k : Nat) (a0 : Int) (a1 : Int) (r : Int) (w : World) (h : spec_l02Mul.f k a0 a1 = some r) :
  Calls Try.prog 86 #[.int .i64 a0, .int .i64 a1] w fun e w' => e = .returned (.int .i64 r) ∧ Drawn0 w w' := by
 have H : (spec_l02Mul.l0 k a0 a1 0) = some r := h
 clear h
 have H' := Aside0.mk H
 clear H
 go_enter Try.func86, Try.ntmps86
 go_wp2
 go_loopg [0, 1, 5] k (fun kq v0 v1 v5 w' => ∃ (x0_1 : Int) (x1_1 : Int) (x5_1 : Int), v0 = .int .i64 x0_1 ∧ v1 = .int .i64 x1_1 ∧ v5 = .int .i64 x5_1 ∧ Aside0 (spec_l02Mul.l0 kq x0_1 x1_1 x5_1 = some r) ∧ Aside0 (kq ≤ k) ∧ Drawn0 w w')
 case atStart => exact ⟨(a0), (a1), (0), (by first | rfl | (simp; done) | (simp [*]; done)), (by first | rfl | (simp; done) | (simp [*]; done)), (by first | rfl | (simp; done) | (simp [*]; done)), H', ⟨Nat.le_refl _⟩, by repeat (first | exact Drawn0.refl _ | apply Drawn0.step)⟩
 case round =>
  clear H'
  try clear p2
  obtain ⟨x0_1, x1_1, x5_1, rfl, rfl, rfl, HA, HK1, ⟨m1, rfl⟩⟩ := hrel
  cases gk with
  | zero => exact absurd HA.out (by simp [spec_l02Mul.l0])
  | succ k1 =>
   have H := HA.out
   clear HA
   simp only [spec_l02Mul.l0] at H
   by_cases c3 : x1_1 > 0
   ·rw [if_pos c3] at H
    have c3b0 : decide (0 < x1_1) = true := decide_eq_true c3
    clear c3
    by_cases c4 : (Int.tmod x1_1 2) = 1
    ·rw [if_pos c4] at H
     have c4b0 : ((Int.tmod x1_1 2) == 1) = true := beq_iff_eq.mpr c4
     have c4b1 : ((Int.tmod x1_1 2) != 1) = false := bne_eq_false_iff_eq.mpr c4
     clear c4
     by_cases c5 : (wrap64 (2 * x0_1)) > 255
     ·rw [if_pos c5] at H
      have c5b0 : decide (255 < (wrap64 (2 * x0_1))) = true := decide_eq_true c5
      clear c5
      have H' := Aside0.mk H
      clear H
      go_wp2
      go_roundg k1
      case measure => have := HK1.out; omega
      case rel => exact ⟨(Go.bits .xor .i64 (wrap64 (2 * x0_1)) 285), (wrap64 (Int.tdiv x1_1 2)), (Go.bits .xor .i64 x5_1 x0_1), (by first | rfl | (simp; done) | (simp [*]; done)), (by first | rfl | (simp; done) | (simp [*]; done)), (by first | rfl | (simp; done) | (simp [*]; done)), H', ⟨by have := HK1.out; omega⟩, by repeat (first | exact Drawn0.refl _ | apply Drawn0.step)⟩
     ·rw [if_neg c5] at H
      have c5b0 : decide (255 < (wrap64 (2 * x0_1))) = false := decide_eq_false c5
      clear c5
      have H' := Aside0.mk H
      clear H
      go_wp2
      go_roundg k1
      case measure => have := HK1.out; omega
      case rel => exact ⟨(wrap64 (2 * x0_1)), (wrap64 (Int.tdiv x1_1 2)), (Go.bits .xor .i64 x5_1 x0_1), (by first | rfl | (simp; done) | (simp [*]; done)), (by first | rfl | (simp; done) | (simp [*]; done)), (by first | rfl | (simp; done) | (simp [*]; done)), H', ⟨by have := HK1.out; omega⟩, by repeat (first | exact Drawn0.refl _ | apply Drawn0.step)⟩
    ·rw [if_neg c4] at H
     have c4b0 : ((Int.tmod x1_1 2) == 1) = false := beq_eq_false_iff_ne.mpr c4
     have c4b1 : ((Int.tmod x1_1 2) != 1) = true := bne_iff_ne.mpr c4
     by_cases c6 : (wrap64 (2 * x0_1)) > 255
     ·rw [if_pos c6] at H
      have c6b0 : decide (255 < (wrap64 (2 * x0_1))) = true := decide_eq_true c6
      clear c6
      have H' := Aside0.mk H
      clear H
      go_wp2
      go_roundg k1
      case measure => have := HK1.out; omega
      case rel => exact ⟨(Go.bits .xor .i64 (wrap64 (2 * x0_1)) 285), (wrap64 (Int.tdiv x1_1 2)), (x5_1), (by first | rfl | (simp; done) | (simp [*]; done)), (by first | rfl | (simp; done) | (simp [*]; done)), (by first | rfl | (simp; done) | (simp [*]; done)), H', ⟨by have := HK1.out; omega⟩, by repeat (first | exact Drawn0.refl _ | apply Drawn0.step)⟩
     ·rw [if_neg c6] at H
      have c6b0 : decide (255 < (wrap64 (2 * x0_1))) = false := decide_eq_false c6
      clear c6
      have H' := Aside0.mk H
      clear H
      go_wp2
      go_roundg k1
      case measure => have := HK1.out; omega
      case rel => exact ⟨(wrap64 (2 * x0_1)), (wrap64 (Int.tdiv x1_1 2)), (x5_1), (by first | rfl | (simp; done) | (simp [*]; done)), (by first | rfl | (simp; done) | (simp [*]; done)), (by first | rfl | (simp; done) | (simp [*]; done)), H', ⟨by have := HK1.out; omega⟩, by repeat (first | exact Drawn0.refl _ | apply Drawn0.step)⟩
   ·rw [if_neg c3] at H
    have c3b0 : decide (0 < x1_1) = false := decide_eq_false c3
    clear c3
    obtain rfl := Option.some.inj H
    go_wp2
    go_ret
    exact ⟨by first | rfl | (simp; done) | (simp [*]; done), by repeat (first | exact Drawn0.refl _ | apply Drawn0.step)⟩
def spec_l02Pow.l0 : Nat → Int → Int → Int → Option (Int)
 | 0, _, _, _ => none
 | k + 1, x0, x1, x5 => if x1 > 0 then (if (Int.tmod x1 2) = 1 then ((spec_l02Mul.f k x5 x0).bind fun t128 => ((spec_l02Mul.f k x0 x0).bind fun t129 => (spec_l02Pow.l0 k t129 (wrap64 (Int.tdiv x1 2)) t128))) else ((spec_l02Mul.f k x0 x0).bind fun t130 => (spec_l02Pow.l0 k t130 (wrap64 (Int.tdiv x1 2)) x5))) else (some x5)
def spec_l02Pow.f (k : Nat) (a0 : Int) (a1 : Int) : Option (Int) := spec_l02Pow.l0 k a0 a1 1
set_option maxHeartbeats 8000000 in
set_option maxRecDepth 100000 in
theorem spec_l02Pow.calls (k : Nat) (a0 : Int) (a1 : Int) (r : Int) (w : World) (h : spec_l02Pow.f k a0 a1 = some r) :
  Calls Try.prog 124 #[.int .i64 a0, .int .i64 a1] w fun e w' => e = .returned (.int .i64 r) ∧ Drawn0 w w' := by
 have H : (spec_l02Pow.l0 k a0 a1 1) = some r := h
 clear h
 have H' := Aside0.mk H
 clear H
 go_enter Try.func124, Try.ntmps124
 go_wp2
 go_loopg [0, 1, 5] k (fun kq v0 v1 v5 w' => ∃ (x0_1 : Int) (x1_1 : Int) (x5_1 : Int), v0 = .int .i64 x0_1 ∧ v1 = .int .i64 x1_1 ∧ v5 = .int .i64 x5_1 ∧ Aside0 (spec_l02Pow.l0 kq x0_1 x1_1 x5_1 = some r) ∧ Aside0 (kq ≤ k) ∧ Drawn0 w w')
 case atStart => exact ⟨(a0), (a1), (1), (by first | rfl | (simp; done) | (simp [*]; done)), (by first | rfl | (simp; done) | (simp [*]; done)), (by first | rfl | (simp; done) | (simp [*]; done)), H', ⟨Nat.le_refl _⟩, by repeat (first | exact Drawn0.refl _ | apply Drawn0.step)⟩
 case round =>
  clear H'
  try clear c1
  try clear p2
  obtain ⟨x0_1, x1_1, x5_1, rfl, rfl, rfl, HA, HK1, ⟨m1, rfl⟩⟩ := hrel
  cases gk with
  | zero => exact absurd HA.out (by simp [spec_l02Pow.l0])
  | succ k1 =>
   have H := HA.out
   clear HA
   simp only [spec_l02Pow.l0] at H
   by_cases c3 : x1_1 > 0
   ·rw [if_pos c3] at H
    have c3b0 : decide (0 < x1_1) = true := decide_eq_true c3
    clear c3
    by_cases c4 : (Int.tmod x1_1 2) = 1
    ·rw [if_pos c4] at H
     have c4b0 : ((Int.tmod x1_1 2) == 1) = true := beq_iff_eq.mpr c4
     have c4b1 : ((Int.tmod x1_1 2) != 1) = false := bne_eq_false_iff_eq.mpr c4
     clear c4
     replace H := Option.bind_eq_some_iff.mp H
     obtain ⟨t128, A50, H⟩ := H
     replace H : ((spec_l02Mul.f k1 x0_1 x0_1).bind fun t129 => (spec_l02Pow.l0 k1 t129 (wrap64 (Int.tdiv x1_1 2)) t128)) = some r := H
     have A5 := Aside0.mk A50
     clear A50
     replace H := Option.bind_eq_some_iff.mp H
     obtain ⟨t129, A60, H⟩ := H
     replace H : (spec_l02Pow.l0 k1 t129 (wrap64 (Int.tdiv x1_1 2)) t128) = some r := H
     have A6 := Aside0.mk A60
     clear A60
     have H' := Aside0.mk H
     clear H
     go_wp2_with (first | ((with_reducible refine gate_callee (f := 86) rfl ?_); refine goesL_ (some 15) rfl rfl Try.func86 (by kernel_rfl) rfl #[.int .i64 x5_1, .int .i64 x0_1] rfl Cy.ls ?_; (with_reducible refine (spec_l02Mul.calls k1 x5_1 x0_1 t128 _ A5.out).mono ?_); rintro e w' ⟨rfl, ⟨nd, rfl⟩⟩; refine ⟨_, rfl, ?_⟩) | ((with_reducible refine gate_callee (f := 86) rfl ?_); refine goesL_ (some 18) rfl rfl Try.func86 (by kernel_rfl) rfl #[.int .i64 x0_1, .int .i64 x0_1] rfl Cy.ls ?_; (with_reducible refine (spec_l02Mul.calls k1 x0_1 x0_1 t129 _ A6.out).mono ?_); rintro e w' ⟨rfl, ⟨nd, rfl⟩⟩; refine ⟨_, rfl, ?_⟩))
     go_roundg k1
     case measure => have := HK1.out; omega
     case rel => exact ⟨(t129), (wrap64 (Int.tdiv x1_1 2)), (t128), (by first | rfl | (simp; done) | (simp [*]; done)), (by first | rfl | (simp; done) | (simp [*]; done)), (by first | rfl | (simp; done) | (simp [*]; done)), H', ⟨by have := HK1.out; omega⟩, by repeat (first | exact Drawn0.refl _ | apply Drawn0.step)⟩
    ·rw [if_neg c4] at H
     have c4b0 : ((Int.tmod x1_1 2) == 1) = false := beq_eq_false_iff_ne.mpr c4
     have c4b1 : ((Int.tmod x1_1 2) != 1) = true := bne_iff_ne.mpr c4
     replace H := Option.bind_eq_some_iff.mp H
     obtain ⟨t130, A70, H⟩ := H
     replace H : (spec_l02Pow.l0 k1 t130 (wrap64 (Int.tdiv x1_1 2)) x5_1) = some r := H
     have A7 := Aside0.mk A70
     clear A70
     have H' := Aside0.mk H
     clear H
     go_wp2_with (first | ((with_reducible refine gate_callee (f := 86) rfl ?_); refine goesL_ (some 18) rfl rfl Try.func86 (by kernel_rfl) rfl #[.int .i64 x0_1, .int .i64 x0_1] rfl Cy.ls ?_; (with_reducible refine (spec_l02Mul.calls k1 x0_1 x0_1 t130 _ A7.out).mono ?_); rintro e w' ⟨rfl, ⟨nd, rfl⟩⟩; refine ⟨_, rfl, ?_⟩))
     go_roundg k1
     case measure => have := HK1.out; omega
     case rel => exact ⟨(t130), (wrap64 (Int.tdiv x1_1 2)), (x5_1), (by first | rfl | (simp; done) | (simp [*]; done)), (by first | rfl | (simp; done) | (simp [*]; done)), (by first | rfl | (simp; done) | (simp [*]; done)), H', ⟨by have := HK1.out; omega⟩, by repeat (first | exact Drawn0.refl _ | apply Drawn0.step)⟩
   ·rw [if_neg c3] at H
    have c3b0 : decide (0 < x1_1) = false := decide_eq_false c3
    clear c3
    obtain rfl := Option.some.inj H
    go_wp2
    go_ret
    exact ⟨by first | rfl | (simp; done) | (simp [*]; done), by repeat (first | exact Drawn0.refl _ | apply Drawn0.step)⟩
def spec_FieldInv.f (k : Nat) (a0 : Int) : Option (Int) := (spec_l02Byte.f a0).bind fun t131 => (if t131 = true then (if a0 = 0 then (some 0) else ((spec_l02Pow.f k a0 254).bind fun t132 => (some t132))) else (some 0))
set_option maxHeartbeats 8000000 in
set_option maxRecDepth 100000 in
theorem spec_FieldInv.calls (k : Nat) (a0 : Int) (r : Int) (w : World) (h : spec_FieldInv.f k a0 = some r) :
  Calls Try.prog 78 #[.int .i64 a0] w fun e w' => e = .returned (.int .i64 r) ∧ Drawn0 w w' := by
 have H : ((spec_l02Byte.f a0).bind fun t131 => (if t131 = true then (if a0 = 0 then (some 0) else ((spec_l02Pow.f k a0 254).bind fun t132 => (some t132))) else (some 0))) = some r := h
 clear h
 replace H := Option.bind_eq_some_iff.mp H
 obtain ⟨t131, A20, H⟩ := H
 replace H : (if t131 = true then (if a0 = 0 then (some 0) else ((spec_l02Pow.f k a0 254).bind fun t132 => (some t132))) else (some 0)) = some r := H
 have A2 := Aside0.mk A20
 clear A20
 by_cases c3 : t131 = true
 ·subst c3
  have H1 : (if a0 = 0 then (some 0) else ((spec_l02Pow.f k a0 254).bind fun t132 => (some t132))) = some r := by rw [if_pos rfl] at H; exact H
  clear H
  have H := H1
  clear H1
  by_cases c4 : a0 = 0
  ·rw [if_pos c4] at H
   have c4b0 : (a0 == 0) = true := beq_iff_eq.mpr c4
   have c4b1 : (a0 != 0) = false := bne_eq_false_iff_eq.mpr c4
   clear c4
   obtain rfl := Option.some.inj H
   go_enter Try.func78, Try.ntmps78
   go_wp2_with (first | ((with_reducible refine gate_callee (f := 65) rfl ?_); refine goesL_ (some 4) rfl rfl Try.func65 (by kernel_rfl) rfl #[.int .i64 a0] rfl Cy.ls ?_; (with_reducible refine (spec_l02Byte.calls a0 true _ A2.out).mono ?_); rintro e w' ⟨rfl, ⟨nd, rfl⟩⟩; refine ⟨_, rfl, ?_⟩))
   go_ret
   exact ⟨by first | rfl | (simp; done) | (simp [*]; done), by repeat (first | exact Drawn0.refl _ | apply Drawn0.step)⟩
  ·rw [if_neg c4] at H
   have c4b0 : (a0 == 0) = false := beq_eq_false_iff_ne.mpr c4
   have c4b1 : (a0 != 0) = true := bne_iff_ne.mpr c4
   replace H := Option.bind_eq_some_iff.mp H
   obtain ⟨t132, A50, H⟩ := H
   replace H : (some t132) = some r := H
   have A5 := Aside0.mk A50
   clear A50
   obtain rfl := Option.some.inj H
   go_enter Try.func78, Try.ntmps78
   go_wp2_with (first | ((with_reducible refine gate_callee (f := 65) rfl ?_); refine goesL_ (some 4) rfl rfl Try.func65 (by kernel_rfl) rfl #[.int .i64 a0] rfl Cy.ls ?_; (with_reducible refine (spec_l02Byte.calls a0 true _ A2.out).mono ?_); rintro e w' ⟨rfl, ⟨nd, rfl⟩⟩; refine ⟨_, rfl, ?_⟩) | ((with_reducible refine gate_callee (f := 124) rfl ?_); refine goesL_ (some 11) rfl rfl Try.func124 (by kernel_rfl) rfl #[.int .i64 a0, .int .i64 254] rfl Cy.ls ?_; (with_reducible refine (spec_l02Pow.calls k a0 254 t132 _ A5.out).mono ?_); rintro e w' ⟨rfl, ⟨nd, rfl⟩⟩; refine ⟨_, rfl, ?_⟩))
   go_ret
   exact ⟨by first | rfl | (simp; done) | (simp [*]; done), by repeat (first | exact Drawn0.refl _ | apply Drawn0.step)⟩
 ·replace c3 := Bool.eq_false_iff.mpr c3
  subst c3
  have H1 : (some 0) = some r := by rw [if_neg (show ¬ (false = true) by decide)] at H; exact H
  clear H
  have H := H1
  clear H1
  obtain rfl := Option.some.inj H
  go_enter Try.func78, Try.ntmps78
  go_wp2_with (first | ((with_reducible refine gate_callee (f := 65) rfl ?_); refine goesL_ (some 4) rfl rfl Try.func65 (by kernel_rfl) rfl #[.int .i64 a0] rfl Cy.ls ?_; (with_reducible refine (spec_l02Byte.calls a0 false _ A2.out).mono ?_); rintro e w' ⟨rfl, ⟨nd, rfl⟩⟩; refine ⟨_, rfl, ?_⟩))
  go_ret
  exact ⟨by first | rfl | (simp; done) | (simp [*]; done), by repeat (first | exact Drawn0.refl _ | apply Drawn0.step)⟩
mutual
def spec_Cauchy.l0 : Nat → Int → Int → Int → Int → Int → List Int → Option (Int × Int × List Int × Int)
 | 0, _, _, _, _, _, _ => none
 | k + 1, x0, x1, x6, x147000, x147001, x147002 => if x6 < x1 then (spec_Cauchy.l1 k x0 x1 x6 0 x147000 x147001 x147002) else (some (x147000, x147001, x147002, 0))
def spec_Cauchy.l1 : Nat → Int → Int → Int → Int → Int → Int → List Int → Option (Int × Int × List Int × Int)
 | 0, _, _, _, _, _, _, _ => none
 | k + 1, x0, x1, x6, x7, x147000, x147001, x147002 => if x7 < x0 then ((spec_FieldInv.f k (Go.bits .xor .i64 (wrap64 (x0 + x6)) x7)).bind fun t147 => (if x147002.length < 17592186044416 then (spec_Cauchy.l1 k x0 x1 x6 (wrap64 (x7 + 1)) x147000 x147001 (x147002 ++ [t147])) else (none))) else (spec_Cauchy.l0 k x0 x1 (wrap64 (x6 + 1)) x147000 x147001 x147002)
end
def spec_Cauchy.f (k : Nat) (a0 : Int) (a1 : Int) : Option (Int × Int × List Int × Int) := (spec_CodeRight.f a0 a1).bind fun t134 => (if t134 = true then ((spec_l03Unit.f k a0).bind fun bt141 => (spec_Cauchy.l0 k a0 a1 0 (wrap64 (a0 + a1)) bt141.2.1 bt141.2.2)) else (none))
def spec_Cauchy.T11 : Bool × List (List Nat × List Nat) := (true, [([], []), ([0], [0]), ([], []), ([], []), ([2, 3], [2, 3]), ([], []), ([4, 5], [4, 5]), ([6], [6]), ([7], [7]), ([1, 8, 7], [1, 8]), ([0, 1, 2, 3, 4, 5, 6, 7, 8, 9], []), ([10, 9, 9, 0, 1, 2, 3, 4, 5, 6, 7, 8, 9], [9, 10])])
def spec_Cauchy.B11 : List Nat := [0, 1, 0, 0, 12, 0, 60, 124, 252, 511, 1023, 2047]
theorem spec_Cauchy.tab11 : rtab .any (opsOf Try.f25 11) = spec_Cauchy.T11 := by kernel_rfl
theorem spec_Cauchy.bits11 : waitsOk spec_Cauchy.T11.2 spec_Cauchy.B11 = true := by kernel_rfl
set_option maxHeartbeats 8000000 in
set_option maxRecDepth 100000 in
theorem spec_Cauchy.calls (k : Nat) (a0 : Int) (a1 : Int) (r1 : Int) (r2 : Int) (r3 : List Int) (r4 : Int) (w : World) (h : spec_Cauchy.f k a0 a1 = some (r1, r2, r3, r4)) :
  Calls Try.prog 25 #[.int .i64 a0, .int .i64 a1] w fun e w' => ∃ v2_ : Value, e = .returned (.agg #[.int .i64 r1, .int .i64 r2, v2_, .int .i64 r4]) ∧ Kd.R (Kd.int .i64) 2 w' w.heap.size (fun _ => True) v2_ r3 ∧ Below w.heap.size w w' := by
 have hu35 := Try.underlying35
 have hu27 := Try.underlying27
 have HB := Aside0.mk (Below.refl w.heap.size w)
 have H : ((spec_CodeRight.f a0 a1).bind fun t134 => (if t134 = true then ((spec_l03Unit.f k a0).bind fun bt141 => (spec_Cauchy.l0 k a0 a1 0 (wrap64 (a0 + a1)) bt141.2.1 bt141.2.2)) else (none))) = some (r1, r2, r3, r4) := h
 clear h
 replace H := Option.bind_eq_some_iff.mp H
 obtain ⟨t134, A30, H⟩ := H
 replace H : (if t134 = true then ((spec_l03Unit.f k a0).bind fun bt141 => (spec_Cauchy.l0 k a0 a1 0 (wrap64 (a0 + a1)) bt141.2.1 bt141.2.2)) else (none)) = some (r1, r2, r3, r4) := H
 have A3 := Aside0.mk A30
 clear A30
 by_cases c4 : t134 = true
 ·subst c4
  have H1 : ((spec_l03Unit.f k a0).bind fun bt141 => (spec_Cauchy.l0 k a0 a1 0 (wrap64 (a0 + a1)) bt141.2.1 bt141.2.2)) = some (r1, r2, r3, r4) := by rw [if_pos rfl] at H; exact H
  clear H
  have H := H1
  clear H1
  replace H := Option.bind_eq_some_iff.mp H
  obtain ⟨⟨t141, t142, t143⟩, A50, H⟩ := H
  replace H : (spec_Cauchy.l0 k a0 a1 0 (wrap64 (a0 + a1)) t142 t143) = some (r1, r2, r3, r4) := H
  have A5 := Aside0.mk A50
  clear A50
  have H' := Aside0.mk H
  clear H
  go_enter Try.func25, Try.ntmps25
  go_wp2_with (first | ((with_reducible refine gate_dst (N := 4) rfl ?_); refine box_event ?hg (N := 4) ?hd (cs := #[.int .i64 0, .int .i64 0, .slice none 0 0, .int .i64 0]) (t := 35) ?hr ?_; (case hd => rfl); (case hg => rfl); (case hr => first | (go_simp; done) | (go_simp; rfl)); intro gb133 hg w6 hbox hb; have n_ := Cy.a4 (below_step (Cz.w HB.out) hb) hbox (Cy.gw hg HB.out) (Cy.gw hg HB.out); clear HB; obtain ⟨HB, BK133, GW133, GE133⟩ := n_; clear hb hbox hg) | ((with_reducible refine gate_callee (f := 22) rfl ?_); refine goesL_ (some 10) rfl rfl Try.func22 (by kernel_rfl) rfl #[.int .i64 a0, .int .i64 a1] rfl Cy.ls ?_; (with_reducible refine (spec_CodeRight.calls a0 a1 true _ A3.out).mono ?_); rintro e w' ⟨rfl, ⟨nd, rfl⟩⟩; refine ⟨_, rfl, ?_⟩; (try (rw [drewN_self w6]; generalize hq_ : World.drewN w6 _ = w6; have n0_ : Aside0 (w6.heap[gb133]? = some (.cells #[.int .i64 0, .int .i64 0, .slice none 0 0, .int .i64 0] 35 (0, 0))) := ⟨by rw [← hq_]; exact (Cz.b BK133.out)⟩; have n1_ : Aside0 (Below w.heap.size w w6) := ⟨by rw [← hq_]; exact (Cz.w HB.out)⟩; clear BK133 HB hq_; have BK133 := n0_; have HB := n1_; clear n0_ n1_))) | ((with_reducible refine gate_callee (f := 77) rfl ?_); refine goesL_ (some 14) rfl rfl Try.func77 (by kernel_rfl) rfl #[.int .i64 a0] rfl Cy.ls ?_; (with_reducible refine (spec_l03Unit.calls k a0 t141 t142 t143 _ A5.out).mono ?_); rintro e w7 ⟨v144, rfl, ho0, hb⟩; refine ⟨_, rfl, ?_⟩; have n_ := Cy.a3 (Kd.R_lower ho0 (below_size (Cz.w HB.out))) (blk_below (g := gb133) (o := .cells #[.int .i64 0, .int .i64 0, .slice none 0 0, .int .i64 0] 35 (0, 0)) (Cz.b BK133.out) hb) (below_step (Cz.w HB.out) hb); clear BK133 HB; obtain ⟨HO145, BK133, HB⟩ := n_; (try clear hb); (try clear hb2); (try clear hk); (try clear hi); (try clear ho0)) | ((with_reducible refine gate_dst (N := 5) rfl ?_); refine box_event ?hg (N := 5) ?hd (cs := #[.int .i64 0, .int .i64 0, .slice none 0 0]) (t := 27) ?hr ?_; (case hd => rfl); (case hg => rfl); (case hr => first | (go_simp; done) | (go_simp; rfl)); intro gb146 hg w8 hbox hb; have n_ := Cy.a8 (Kd.R_below (Cz.r HO145.out) hb) (blk_below (g := gb133) (o := .cells #[.int .i64 0, .int .i64 0, .slice none 0 0, .int .i64 0] 35 (0, 0)) (Cz.b BK133.out) hb) (below_step (Cz.w HB.out) hb) hbox (Cy.gw hg HB.out) (Cy.gw hg HB.out) (by rw [hg]; exact Nat.ne_of_lt (blk_lt (g := gb133) (o := .cells #[.int .i64 0, .int .i64 0, .slice none 0 0, .int .i64 0] 35 (0, 0)) (Cz.b BK133.out)) : gb133 ≠ gb146) (by rw [hg]; exact Nat.ne_of_gt (blk_lt (g := gb133) (o := .cells #[.int .i64 0, .int .i64 0, .slice none 0 0, .int .i64 0] 35 (0, 0)) (Cz.b BK133.out)) : gb146 ≠ gb133); clear HO145 BK133 HB; obtain ⟨HO145, BK133, HB, BK146, GW146, GE146, NB133_146, NB146_133⟩ := n_; clear hb hbox hg; have hnb9 := NB146_133.out; have hnc9 := NB133_146.out; obtain ⟨hcz10_0, hcz10_1, hcz10_2, hfz10_0, hfz10_1, hfz10_2⟩ := Cy.z3 BK146.out; obtain ⟨Ao11, co11, eo11⟩ := Kd.R_slice HO145.out; subst eo11))
  go_loopg [6] k (fun kq v6 w' => ∃ (x6_1 : Int) (x147002_1 : List Int) (u147002 : Value), v6 = .int .i64 x6_1 ∧ Aside0 (spec_Cauchy.l0 kq a0 a1 x6_1 (wrap64 (a0 + a1)) t142 x147002_1 = some (r1, r2, r3, r4)) ∧ Aside0 (kq ≤ k) ∧ Aside0 (Kd.R (Kd.int .i64) 2 w' w.heap.size (fun _ => True) u147002 x147002_1) ∧ Aside0 (w'.heap[gb133]? = some (.cells #[.int .i64 0, .int .i64 0, (.slice none 0 0), .int .i64 0] 35 (0, 0))) ∧ Aside0 (w'.heap[gb146]? = some (.cells #[.int .i64 (wrap64 (a0 + a1)), .int .i64 t142, u147002] 27 (0, 0))) ∧ Aside0 (Below w.heap.size w w'))
  case atStart => exact ⟨(0), (t143), (.slice Ao11 t143.length co11), (by first | rfl | (simp; done) | (simp [*]; done)), H', ⟨Nat.le_refl _⟩, ⟨by (with_reducible repeat (first | apply Kd.R_alloc | apply Kd.R_drewN | apply Kd.R_drew)); exact Kd.R_mono (Kd.R_far (p := ⟨gb146, 0, none⟩) (Kd.R_far (p := ⟨gb146, 2, none⟩) (Kd.R_far (p := ⟨gb146, 1, none⟩) (Kd.R_far (p := ⟨gb146, 0, none⟩) (Kd.R_types HO145.out BK146.out (by decide)) (fun _ hk => hk.2) (.int .i64 t141)) (fun _ hk => hk.2) (.int .i64 t142)) (fun _ hk => hk.2) (.slice Ao11 t143.length co11)) (fun _ hk => hk.2) (.int .i64 (wrap64 (a0 + a1)))) (fun _ hk => trivial)⟩, ⟨Cz.f BK133.out NB133_146.out⟩, ⟨by (with_reducible repeat (first | refine blk_drewN ?_ _ | refine blk_drew ?_ | refine blk_alloc ?_ _)); refine blk_put (cs := #[.int .i64 t141, .int .i64 t142, .slice Ao11 t143.length co11]) ?_ 0 _ rfl; (with_reducible repeat (first | refine blk_drewN ?_ _ | refine blk_drew ?_ | refine blk_alloc ?_ _)); refine blk_put (cs := #[.int .i64 t141, .int .i64 t142, .slice none 0 0]) ?_ 2 _ rfl; (with_reducible repeat (first | refine blk_drewN ?_ _ | refine blk_drew ?_ | refine blk_alloc ?_ _)); refine blk_put (cs := #[.int .i64 t141, .int .i64 0, .slice none 0 0]) ?_ 1 _ rfl; (with_reducible repeat (first | refine blk_drewN ?_ _ | refine blk_drew ?_ | refine blk_alloc ?_ _)); refine blk_put (cs := #[.int .i64 0, .int .i64 0, .slice none 0 0]) ?_ 0 _ rfl; (with_reducible repeat (first | refine blk_drewN ?_ _ | refine blk_drew ?_ | refine blk_alloc ?_ _)); exact BK146.out⟩, ⟨Cz.w HB.out⟩⟩
  case round =>
   clear H'
   try clear c2
   try clear p2
   try clear c4
   try clear p6
   try clear c7
   try clear c9
   try clear hcz10_0
   try clear hcz10_1
   try clear hcz10_2
   try clear hfz10_0
   try clear hfz10_1
   try clear hfz10_2
   obtain ⟨x6_1, x147002_1, u147002, rfl, HA, HK1, HO_147002, BK133, BK146, HB⟩ := hrel
   cases gk with
   | zero => exact absurd HA.out (by simp [spec_Cauchy.l0])
   | succ k1 =>
    have H := HA.out
    clear HA
    simp only [spec_Cauchy.l0] at H
    by_cases c12 : x6_1 < a1
    ·rw [if_pos c12] at H
     have c12b0 : decide (x6_1 < a1) = true := decide_eq_true c12
     clear c12
     have H' := Aside0.mk H
     clear H
     go_wp2
     go_loopg [7] k1 (fun kq v7 w' => ∃ (x7_2 : Int) (x147002_2 : List Int) (u147002 : Value), v7 = .int .i64 x7_2 ∧ Aside0 (spec_Cauchy.l1 kq a0 a1 x6_1 x7_2 (wrap64 (a0 + a1)) t142 x147002_2 = some (r1, r2, r3, r4)) ∧ Aside0 (kq ≤ k1) ∧ Aside0 (Kd.R (Kd.int .i64) 2 w' w.heap.size (fun _ => True) u147002 x147002_2) ∧ Aside0 (w'.heap[gb133]? = some (.cells #[.int .i64 0, .int .i64 0, (.slice none 0 0), .int .i64 0] 35 (0, 0))) ∧ Aside0 (w'.heap[gb146]? = some (.cells #[.int .i64 (wrap64 (a0 + a1)), .int .i64 t142, u147002] 27 (0, 0))) ∧ Aside0 (Below w.heap.size w w'))
     case atStart => exact ⟨(0), (x147002_1), (u147002), (by first | rfl | (simp; done) | (simp [*]; done)), H', ⟨Nat.le_refl _⟩, ⟨Cz.r HO_147002.out⟩, ⟨Cz.b BK133.out⟩, ⟨Cz.b BK146.out⟩, ⟨Cz.w HB.out⟩⟩
     case round =>
      clear H'
      try clear c1
      try clear c2
      try clear p2
      try clear c4
      try clear p6
      try clear c7
      try clear c9
      try clear c12
      try clear c12b0
      try clear hcz10_0
      try clear hcz10_1
      try clear hcz10_2
      try clear hfz10_0
      try clear hfz10_1
      try clear hfz10_2
      try clear p2
      try clear p6
      obtain ⟨x7_2, x147002_2, u147002, rfl, HA, HK2, HO_147002, BK133, BK146, HB⟩ := hrel
      cases gk with
      | zero => exact absurd HA.out (by simp [spec_Cauchy.l1])
      | succ k2 =>
       have H := HA.out
       clear HA
       simp only [spec_Cauchy.l1] at H
       by_cases c13 : x7_2 < a0
       ·rw [if_pos c13] at H
        have c13b0 : decide (x7_2 < a0) = true := decide_eq_true c13
        clear c13
        replace H := Option.bind_eq_some_iff.mp H
        obtain ⟨t147, A140, H⟩ := H
        replace H : (if x147002_2.length < 17592186044416 then (spec_Cauchy.l1 k2 a0 a1 x6_1 (wrap64 (x7_2 + 1)) (wrap64 (a0 + a1)) t142 (x147002_2 ++ [t147])) else (none)) = some (r1, r2, r3, r4) := H
        have A14 := Aside0.mk A140
        clear A140
        by_cases c15 : x147002_2.length < 17592186044416
        ·rw [if_pos c15] at H
         have LMc15 := Aside0.mk c15
         clear c15
         obtain ⟨y148, hy148⟩ : ∃ y_ : List Int, y_ = (x147002_2 ++ [t147]) := ⟨_, rfl⟩
         replace H : (spec_Cauchy.l1 k2 a0 a1 x6_1 (wrap64 (x7_2 + 1)) (wrap64 (a0 + a1)) t142 y148) = some (r1, r2, r3, r4) := by first | (rw [hy148]; with_reducible exact H) | (have H2_ := (Option.bind_some _ _).symm.trans H; rw [hy148]; with_reducible exact H2_) | (have H2_ := (Option.bind_some _ _).symm.trans H; with_reducible exact H2_) | with_reducible exact H | (rw [hy148]; exact H) | exact H
         have Ny148 := Aside0.mk hy148
         clear hy148
         have H' := Aside0.mk H
         clear H
         try go_wp2
         have n_ := Cy.a4 (Kd.R_drew HO_147002.out) (blk_drew BK133.out) (blk_drew BK146.out) (below_drew1 HB.out)
         clear HO_147002 BK133 BK146 HB
         obtain ⟨HO_147002, BK133, BK146, HB⟩ := n_
         refine start_ (n := 12) (S := fun w' => w'.cell? ⟨gb146, 0, none⟩ = some (.int .i64 (wrap64 (a0 + a1))) ∧ w'.cell? ⟨gb146, 1, none⟩ = some (.int .i64 t142) ∧ w'.cell? ⟨gb146, 2, none⟩ = some (u147002)) (ds := [11]) #[false, false, false, false, false, false, false, false, false, false, false, false] (by kernel_rfl) rfl rfl ⟨(blk_cell BK146.out 0).trans rfl, (blk_cell BK146.out 1).trans rfl, (blk_cell BK146.out 2).trans rfl⟩ (fun hHeld => ?_); refine with_tabW spec_Cauchy.tab11 spec_Cauchy.bits11 (fun HT_ HW_ => ?_)
         generalize wr.drew = w16 at HO_147002 BK133 BK146 HB hHeld ⊢
         refine Cy.pu 0 29 HT_ ?_
         refine Cy.pu 2 31 HT_ ?_
         refine Cy.pu 3 32 HT_ ?_
         refine Cy.pu 4 33 HT_ ?_
         refine Cy.pu 5 34 HT_ ?_
         refine Cy.pu 6 35 HT_ ?_
         refine Cy.tk 1 30 HT_ HW_ hHeld ?_
         refine one_ (i := 7) (N := some 36) #[true, true, true, true, true, true, true, true, false, false, false, false] rfl rfl (one_of HT_.out (by kernel_rfl)) (by decide) (fun K hK => ?_)
         refine goes_ Try.func78 (by kernel_rfl) rfl #[.int .i64 (Go.bits .xor .i64 (wrap64 (a0 + x6_1)) x7_2)] (by rfl) rfl rfl Cy.ls ?_
         with_reducible refine (spec_FieldInv.calls k2 (Go.bits .xor .i64 (wrap64 (a0 + x6_1)) x7_2) t147 _ A14.out).mono ?_
         rintro e w' ⟨rfl, ⟨nd, rfl⟩⟩
         refine ⟨_, rfl, ?_⟩
         refine hK.out _ _ ⟨(blk_cell BK146.out 0).trans rfl, (blk_cell BK146.out 1).trans rfl, (blk_cell BK146.out 2).trans rfl⟩ (fun hHeld => ?_)
         clear hK K
         refine norm_ (a' := ?_) ?_ ?_
         rotate_left
         ·show Act.put _ (some 36) _ = _
          simp only [Act.put, List.setIfInBounds_toArray, List.set_cons_zero, List.set_cons_succ, i64_w, i32_w]
          rfl
         refine one_ (i := 8) (N := some 37) #[true, true, true, true, true, true, true, true, true, false, false, false] rfl rfl (one_of HT_.out (by kernel_rfl)) (by decide) (fun K hK => ?_)
         refine value_ (w1 := ?_) (v := ?_) (by rfl) rfl ?_ ?_
         rotate_left 2
         ·go_simp
          constructor
          ·rfl
          ·rfl
         refine hK.out _ _ ⟨(blk_cell (blk_alloc BK146.out _) 0).trans rfl, (blk_cell (blk_alloc BK146.out _) 1).trans rfl, (blk_cell (blk_alloc BK146.out _) 2).trans rfl⟩ (fun hHeld => ?_)
         clear hK K
         refine norm_ (a' := ?_) ?_ ?_
         rotate_left
         ·show Act.put _ (some 37) _ = _
          simp only [Act.put, List.setIfInBounds_toArray, List.set_cons_zero, List.set_cons_succ, i64_w, i32_w]
          rfl
         refine one_ (i := 9) (N := some 38) #[true, true, true, true, true, true, true, true, true, true, false, false] rfl rfl (one_of HT_.out (by kernel_rfl)) (by decide) (fun K hK => ?_)
         refine Kd.R_append_step (Kd.int .i64) (w0 := w) w.heap.size (by rfl) (.tmp 30) (.tmp 37) 22 2 (.int .i64 0) 8 rfl Try.underlying22 info2 rfl (by decide) (by omega) u147002 x147002_2 t147 [.int .i64 t147] (fun _ => True) (fun _ => False) rfl rfl ?aP (fun _ hk => hk.elim) ?aF ?aO ?aB ?aS ?aL ?_
         (case aP => exact rfl)
         (case aB => exact (Cz.w HB.out))
         (case aF => exact (fun _ _ => trivial))
         (case aO => exact (Cz.r HO_147002.out))
         (case aS => exact (below_size (Cz.w HB.out)))
         (case aL => have := LMc15.out; omega)
         intro v149 w17 ho hb hg hat
         rw [← Ny148.out] at ho
         have n_ := Cy.a4 (blk_grown (g := gb133) (o := .cells #[.int .i64 0, .int .i64 0, .slice none 0 0, .int .i64 0] 35 (0, 0)) (Cz.b BK133.out) hg (Kd.R_ne HO_147002.out BK133.out (by decide))) (blk_grown (g := gb146) (o := .cells #[.int .i64 (wrap64 (a0 + a1)), .int .i64 t142, u147002] 27 (0, 0)) (Cz.b BK146.out) hg (Kd.R_ne HO_147002.out BK146.out (by decide))) hb ho
         clear BK133 BK146 HB HO_147002
         obtain ⟨BK133, BK146, HB, HO150⟩ := n_
         clear ho hb hg hat
         obtain ⟨Ao18, co18, eo18⟩ := Kd.R_slice HO150.out
         (first | subst eo18 | (injection eo18 with f1_ f2_ f3_; have f4_ := f1_.symm; have f5_ := f3_.symm; clear f1_ f2_ f3_; subst f4_; subst f5_))
         refine hK.out _ _ ⟨(blk_cell BK146.out 0).trans rfl, (blk_cell BK146.out 1).trans rfl, (blk_cell BK146.out 2).trans rfl⟩ (fun hHeld => ?_)
         clear hK K
         refine norm_ (a' := ?_) ?_ ?_
         rotate_left
         ·show Act.put _ (some 38) _ = _
          simp only [Act.put, List.setIfInBounds_toArray, List.set_cons_zero, List.set_cons_succ, i64_w, i32_w]
          rfl
         refine Cy.pu 10 39 HT_ ?_
         refine last_ (i := 11) (N := none) #[true, true, true, true, true, true, true, true, true, true, true, true] rfl rfl (one_of HT_.out (by kernel_rfl)) (by decide) (fun K hK => ?_)
         have hs19 : w17.cell? ⟨gb146, 2, none⟩ = some (u147002) := (blk_cell BK146.out 2).trans rfl
         have hfs19 := blk_frozen BK146.out 2
         have hns19_0 := NB133_146.out
         have hms19_0 := NB146_133.out
         refine skip_ (w1 := ?_) (by rfl) rfl ?_ ?_
         rotate_left
         ·go_simp
          rfl
         refine hK.out _ _ ?_
         clear hK K
         refine done_ (done_of HT_.out (by kernel_rfl)) ?_
         try go_wp2
         go_roundg k2
         case measure => have := HK1.out; have := HK2.out; omega
         case rel => exact ⟨(wrap64 (x7_2 + 1)), (y148), (.slice Ao18 y148.length co18), (by first | rfl | (simp; done) | (simp [*]; done)), H', ⟨by have := HK1.out; have := HK2.out; omega⟩, ⟨by (with_reducible repeat (first | apply Kd.R_alloc | apply Kd.R_drewN | apply Kd.R_drew)); exact Kd.R_mono (Kd.R_far (p := ⟨gb146, 2, none⟩) (Kd.R_types HO150.out BK146.out (by decide)) (fun _ hk => hk.2) (.slice Ao18 y148.length co18)) (fun _ hk => trivial)⟩, ⟨Cz.f BK133.out NB133_146.out⟩, ⟨by (with_reducible repeat (first | refine blk_drewN ?_ _ | refine blk_drew ?_ | refine blk_alloc ?_ _)); refine blk_put (cs := #[.int .i64 (wrap64 (a0 + a1)), .int .i64 t142, u147002]) ?_ 2 _ rfl; (with_reducible repeat (first | refine blk_drewN ?_ _ | refine blk_drew ?_ | refine blk_alloc ?_ _)); exact BK146.out⟩, ⟨Cz.w HB.out⟩⟩
        ·rw [if_neg c15] at H
         exact absurd H (by simp)
       ·rw [if_neg c13] at H
        have c13b0 : decide (x7_2 < a0) = false := decide_eq_false c13
        clear c13
        have H' := Aside0.mk H
        clear H
        go_wp2
        go_roundg k2
        case measure => have := HK1.out; have := HK2.out; omega
        case rel => exact ⟨(wrap64 (x6_1 + 1)), (x147002_2), (u147002), (by first | rfl | (simp; done) | (simp [*]; done)), H', ⟨by have := HK1.out; have := HK2.out; omega⟩, ⟨Cz.r HO_147002.out⟩, ⟨Cz.b BK133.out⟩, ⟨Cz.b BK146.out⟩, ⟨Cz.w HB.out⟩⟩
    ·rw [if_neg c12] at H
     have c12b0 : decide (x6_1 < a1) = false := decide_eq_false c12
     clear c12
     simp only [Option.some.injEq, Prod.mk.injEq] at H
     obtain ⟨rfl, rfl, rfl, rfl⟩ := H
     have hnb20 := NB146_133.out
     have hnc20 := NB133_146.out
     obtain ⟨hcz21_0, hcz21_1, hcz21_2, hfz21_0, hfz21_1, hfz21_2⟩ := Cy.z3 BK146.out
     obtain ⟨Ao22, co22, eo22⟩ := Kd.R_slice HO_147002.out
     subst eo22
     obtain ⟨hcz23_0, hcz23_1, hcz23_2, hcz23_3, hfz23_0, hfz23_1, hfz23_2, hfz23_3⟩ := Cy.z4 BK133.out
     go_wp2
     refine bodyPost_ret (results_cell_row rfl _ _ gb133 35 #[.int .i64 (wrap64 (a0 + a1)), .int .i64 t142, .slice Ao22 x147002_1.length co22, .int .i64 0] (0, 0) _ rfl (Cz.p4 BK133.out) Try.underlying35 rfl (by kernel_rfl)) rfl ?_
     exact ⟨_, by first | rfl | (simp [errW_none, errW_some] <;> rfl) | (simp [*, errW_none, errW_some] <;> rfl), by (with_reducible repeat (first | apply Kd.R_alloc | apply Kd.R_drewN | apply Kd.R_drew)); exact Kd.R_mono (Kd.R_far (p := ⟨gb133, 3, none⟩) (Kd.R_far (p := ⟨gb133, 2, none⟩) (Kd.R_far (p := ⟨gb133, 1, none⟩) (Kd.R_far (p := ⟨gb133, 0, none⟩) (Kd.R_types HO_147002.out BK133.out (by decide)) (fun _ hk => hk.2) (.int .i64 (wrap64 (a0 + a1)))) (fun _ hk => hk.2) (.int .i64 t142)) (fun _ hk => hk.2) (.slice Ao22 x147002_1.length co22)) (fun _ hk => hk.2) (.int .i64 0)) (fun _ hk => trivial), Cz.w HB.out⟩
 ·replace c4 := Bool.eq_false_iff.mpr c4
  subst c4
  have H1 : (none) = some (r1, r2, r3, r4) := by rw [if_neg (show ¬ (false = true) by decide)] at H; exact H
  clear H
  have H := H1
  clear H1
  exact absurd H (by simp)
end Go.Proofs.Ytlololbhlnapkaa.XFnExactDecode

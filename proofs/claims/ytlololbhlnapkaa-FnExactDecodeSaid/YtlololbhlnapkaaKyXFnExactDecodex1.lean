/- Plain functions of what the law reaches, proofs that the calls come to them, and the law's row: written by a program of this session (xprint.py) over the kit's print. No conditions beyond each lemma's own. -/
import Derived.Test.YtlololbhlnapkaaKyCy
import Derived.Test.YtlololbhlnapkaaKyXFnExactDecodex0
namespace Go.Proofs.Ytlololbhlnapkaa.XFnExactDecode
open Go.RowKit Go.Proofs.YtlololbhlnapkaaW.PrintWords Go.Proofs.YtlololbhlnapkaaW.PrintLast Go.Proofs.YtlololbhlnapkaaW.PrintMore
attribute [local go_sem] max2_int min2_int max_two min_two max_three min_three max_four min_four   -- for this text's walks alone
set_option linter.unusedVariables false
set_option linter.unusedSimpArgs false
def laws_szShard.f (a0_0 : Bool) (a0_1 : ByteArray) (a1 : Int) : Option (Int) := if (wrap64 (a1 - (a0_1.size : Int))) < 0 then (some (-1)) else (some (wrap64 (a1 - (a0_1.size : Int))))
set_option maxHeartbeats 8000000 in
set_option maxRecDepth 100000 in
theorem laws_szShard.calls (a0_0 : Bool) (a0_1 : ByteArray) (a1 : Int) (r : Int) (w : World) (h : laws_szShard.f a0_0 a0_1 a1 = some r) :
  Calls Try.prog 105 #[.agg #[.bool a0_0, .string a0_1], .int .i64 a1] w fun e w' => e = .returned (.int .i64 r) ∧ Below w.heap.size w w' := by
 have hu111 := Try.underlying111
 have HB := Aside0.mk (Below.refl w.heap.size w)
 have H : (if (wrap64 (a1 - (a0_1.size : Int))) < 0 then (some (-1)) else (some (wrap64 (a1 - (a0_1.size : Int))))) = some r := h
 clear h
 by_cases c3 : (wrap64 (a1 - (a0_1.size : Int))) < 0
 ·rw [if_pos c3] at H
  have c3b0 : decide ((wrap64 (a1 - (a0_1.size : Int))) < 0) = true := decide_eq_true c3
  clear c3
  obtain rfl := Option.some.inj H
  go_enter Try.func105, Try.ntmps105
  go_wp2_with (first | ((with_reducible refine gate_dst (N := 2) rfl ?_); refine box_event ?hg (N := 2) ?hd (cs := #[.bool a0_0, .string a0_1]) (t := 111) ?hr ?_; (case hd => rfl); (case hg => rfl); (case hr => first | (go_simp; done) | (go_simp; rfl)); intro gb101 hg w4 hbox hb; have n_ := Cy.a4 (below_step (Cz.w HB.out) hb) hbox (Cy.gw hg HB.out) (Cy.gw hg HB.out); clear HB; obtain ⟨HB, BK101, GW101, GE101⟩ := n_; clear hb hbox hg; obtain ⟨hcz5_0, hcz5_1, hfz5_0, hfz5_1⟩ := Cy.z2 BK101.out))
  go_ret
  exact ⟨by first | rfl | (simp [errW_none, errW_some] <;> rfl) | (simp [*, errW_none, errW_some] <;> rfl), Cz.w HB.out⟩
 ·rw [if_neg c3] at H
  have c3b0 : decide ((wrap64 (a1 - (a0_1.size : Int))) < 0) = false := decide_eq_false c3
  clear c3
  obtain rfl := Option.some.inj H
  go_enter Try.func105, Try.ntmps105
  go_wp2_with (first | ((with_reducible refine gate_dst (N := 2) rfl ?_); refine box_event ?hg (N := 2) ?hd (cs := #[.bool a0_0, .string a0_1]) (t := 111) ?hr ?_; (case hd => rfl); (case hg => rfl); (case hr => first | (go_simp; done) | (go_simp; rfl)); intro gb101 hg w6 hbox hb; have n_ := Cy.a4 (below_step (Cz.w HB.out) hb) hbox (Cy.gw hg HB.out) (Cy.gw hg HB.out); clear HB; obtain ⟨HB, BK101, GW101, GE101⟩ := n_; clear hb hbox hg; obtain ⟨hcz7_0, hcz7_1, hfz7_0, hfz7_1⟩ := Cy.z2 BK101.out))
  go_ret
  exact ⟨by first | rfl | (simp [errW_none, errW_some] <;> rfl) | (simp [*, errW_none, errW_some] <;> rfl), Cz.w HB.out⟩
def laws_szShardS.l0 : Nat → List (S111) → Int → Int → Option (Int)
 | 0, _, _, _ => none
 | k + 1, x0, x1, x5 => if x5 < (x0.length : Int) then (if 0 ≤ x5 then ((laws_szShard.f ((rd_T111 x0 x5).f0) ((rd_T111 x0 x5).f1) x1).bind fun t103 => (if t103 < 0 then (some (-1)) else (laws_szShardS.l0 k x0 t103 (wrap64 (x5 + 1))))) else (none)) else (some x1)
def laws_szShardS.f (k : Nat) (l0 : List (S111)) (a1 : Int) : Option (Int) := if (wrap64 (a1 - (l0.length : Int))) < 0 then (some (-1)) else (laws_szShardS.l0 k l0 (wrap64 (a1 - (l0.length : Int))) 0)
set_option maxHeartbeats 8000000 in
set_option maxRecDepth 100000 in
theorem laws_szShardS.calls (k : Nat) (A0 : Option Addr) (c0 : Nat) (l0 : List (S111)) (a1 : Int) (r : Int) (w : World) (hr0 : Kd.C k111 w A0 l0.length l0) (hc0 : l0.length ≤ c0) (h : laws_szShardS.f k l0 a1 = some r) :
  Calls Try.prog 55 #[.slice A0 l0.length c0, .int .i64 a1] w fun e w' => e = .returned (.int .i64 r) ∧ Below w.heap.size w w' := by
 have hu111 := Try.underlying111
 have HR0 := Aside0.mk hr0
 have HC0 := Aside0.mk hc0
 clear hr0 hc0
 have HB := Aside0.mk (Below.refl w.heap.size w)
 have H : (if (wrap64 (a1 - (l0.length : Int))) < 0 then (some (-1)) else (laws_szShardS.l0 k l0 (wrap64 (a1 - (l0.length : Int))) 0)) = some r := h
 clear h
 by_cases c3 : (wrap64 (a1 - (l0.length : Int))) < 0
 ·rw [if_pos c3] at H
  have c3b0 : decide ((wrap64 (a1 - (l0.length : Int))) < 0) = true := decide_eq_true c3
  clear c3
  obtain rfl := Option.some.inj H
  go_enter Try.func55, Try.ntmps55
  go_wp2
  go_ret
  exact ⟨by first | rfl | (simp [errW_none, errW_some] <;> rfl) | (simp [*, errW_none, errW_some] <;> rfl), Cz.w HB.out⟩
 ·rw [if_neg c3] at H
  have c3b0 : decide ((wrap64 (a1 - (l0.length : Int))) < 0) = false := decide_eq_false c3
  clear c3
  have H' := Aside0.mk H
  clear H
  go_enter Try.func55, Try.ntmps55
  go_wp2
  go_loopg [1, 5] k (fun kq v1 v5 w' => ∃ (x1_1 : Int) (x5_1 : Int), v1 = .int .i64 x1_1 ∧ v5 = .int .i64 x5_1 ∧ Aside0 (laws_szShardS.l0 kq l0 x1_1 x5_1 = some r) ∧ Aside0 (kq ≤ k) ∧ Aside0 (Below w.heap.size w w'))
  case atStart => exact ⟨(wrap64 (a1 - (l0.length : Int))), (0), (by first | rfl | (simp; done) | (simp [*]; done)), (by first | rfl | (simp; done) | (simp [*]; done)), H', ⟨Nat.le_refl _⟩, ⟨Cz.w HB.out⟩⟩
  case round =>
   clear H'
   try clear p2
   try clear c3
   try clear c3b0
   obtain ⟨x1_1, x5_1, rfl, rfl, HA, HK1, HB⟩ := hrel
   cases gk with
   | zero => exact absurd HA.out (by simp [laws_szShardS.l0])
   | succ k1 =>
    have H := HA.out
    clear HA
    simp only [laws_szShardS.l0] at H
    by_cases c4 : x5_1 < (l0.length : Int)
    ·rw [if_pos c4] at H
     have c4b0 : decide (x5_1 < (l0.length : Int)) = true := decide_eq_true c4
     clear c4
     by_cases c5 : 0 ≤ x5_1
     ·rw [if_pos c5] at H
      have c5b0 : decide (0 ≤ x5_1) = true := decide_eq_true c5
      clear c5
      replace H := Option.bind_eq_some_iff.mp H
      obtain ⟨t103, A60, H⟩ := H
      replace H : (if t103 < 0 then (some (-1)) else (laws_szShardS.l0 k1 l0 t103 (wrap64 (x5_1 + 1)))) = some r := H
      have A6 := Aside0.mk A60
      clear A60
      by_cases c7 : t103 < 0
      ·rw [if_pos c7] at H
       have c7b0 : decide (t103 < 0) = true := decide_eq_true c7
       clear c7
       obtain rfl := Option.some.inj H
       have p102 : 0 ≤ (x5_1 : Int) := of_decide_eq_true (by first | (with_reducible assumption) | assumption)
       have q102 : x5_1 < (l0.length : Int) := of_decide_eq_true (by first | (with_reducible assumption) | assumption)
       obtain ⟨ad102, e102, hx102_0, hx102_1⟩ := at_T111 HR0.out x5_1 p102 q102
       cases e102
       replace hx102_0 := (HB.out.cell (World.block_lt_of_cell? w _ hx102_0)).trans hx102_0
       replace hx102_1 := (HB.out.cell (World.block_lt_of_cell? w _ hx102_1)).trans hx102_1
       replace p102 := eq_true p102
       replace q102 := eq_true q102
       go_wp2_with (first | ((with_reducible refine gate_callee (f := 105) rfl ?_); refine goesL_ (some 23) rfl rfl Try.func105 (by kernel_rfl) rfl #[.agg #[.bool ((rd_T111 l0 x5_1).f0), .string ((rd_T111 l0 x5_1).f1)], .int .i64 x1_1] rfl Cy.ls ?_; (with_reducible refine (laws_szShard.calls ((rd_T111 l0 x5_1).f0) ((rd_T111 l0 x5_1).f1) x1_1 t103 _ A6.out).mono ?_); rintro e w8 ⟨rfl, hb⟩; refine ⟨_, rfl, ?_⟩; replace HB := Aside0.mk (below_step (Cz.w HB.out) hb); (try clear hb); (try clear hb2); (try clear hk); (try clear hi)))
       go_ret
       exact ⟨by first | rfl | (simp [errW_none, errW_some] <;> rfl) | (simp [*, errW_none, errW_some] <;> rfl), Cz.w HB.out⟩
      ·rw [if_neg c7] at H
       have c7b0 : decide (t103 < 0) = false := decide_eq_false c7
       clear c7
       have H' := Aside0.mk H
       clear H
       have p102 : 0 ≤ (x5_1 : Int) := of_decide_eq_true (by first | (with_reducible assumption) | assumption)
       have q102 : x5_1 < (l0.length : Int) := of_decide_eq_true (by first | (with_reducible assumption) | assumption)
       obtain ⟨ad102, e102, hx102_0, hx102_1⟩ := at_T111 HR0.out x5_1 p102 q102
       cases e102
       replace hx102_0 := (HB.out.cell (World.block_lt_of_cell? w _ hx102_0)).trans hx102_0
       replace hx102_1 := (HB.out.cell (World.block_lt_of_cell? w _ hx102_1)).trans hx102_1
       replace p102 := eq_true p102
       replace q102 := eq_true q102
       go_wp2_with (first | ((with_reducible refine gate_callee (f := 105) rfl ?_); refine goesL_ (some 23) rfl rfl Try.func105 (by kernel_rfl) rfl #[.agg #[.bool ((rd_T111 l0 x5_1).f0), .string ((rd_T111 l0 x5_1).f1)], .int .i64 x1_1] rfl Cy.ls ?_; (with_reducible refine (laws_szShard.calls ((rd_T111 l0 x5_1).f0) ((rd_T111 l0 x5_1).f1) x1_1 t103 _ A6.out).mono ?_); rintro e w9 ⟨rfl, hb⟩; refine ⟨_, rfl, ?_⟩; replace HB := Aside0.mk (below_step (Cz.w HB.out) hb); (try clear hb); (try clear hb2); (try clear hk); (try clear hi)))
       go_roundg k1
       case measure => have := HK1.out; omega
       case rel => exact ⟨(t103), (wrap64 (x5_1 + 1)), (by first | rfl | (simp; done) | (simp [*]; done)), (by first | rfl | (simp; done) | (simp [*]; done)), H', ⟨by have := HK1.out; omega⟩, ⟨Cz.w HB.out⟩⟩
     ·rw [if_neg c5] at H
      exact absurd H (by simp)
    ·rw [if_neg c4] at H
     have c4b0 : decide (x5_1 < (l0.length : Int)) = false := decide_eq_false c4
     clear c4
     obtain rfl := Option.some.inj H
     go_wp2
     go_ret
     exact ⟨by first | rfl | (simp [errW_none, errW_some] <;> rfl) | (simp [*, errW_none, errW_some] <;> rfl), Cz.w HB.out⟩
def laws_toShard.f (a0_0 : Bool) (a0_1 : ByteArray) : Option (Bool × ByteArray) := some (a0_0, a0_1)
set_option maxHeartbeats 8000000 in
set_option maxRecDepth 100000 in
theorem laws_toShard.calls (a0_0 : Bool) (a0_1 : ByteArray) (r1 : Bool) (r2 : ByteArray) (w : World) (h : laws_toShard.f a0_0 a0_1 = some (r1, r2)) :
  Calls Try.prog 107 #[.agg #[.bool a0_0, .string a0_1]] w fun e w' => e = .returned (.agg #[.bool r1, .string r2]) ∧ Below w.heap.size w w' := by
 have hu111 := Try.underlying111
 have hu112 := Try.underlying112
 have HB := Aside0.mk (Below.refl w.heap.size w)
 have H : (some (a0_0, a0_1)) = some (r1, r2) := h
 clear h
 simp only [Option.some.injEq, Prod.mk.injEq] at H
 obtain ⟨rfl, rfl⟩ := H
 go_enter Try.func107, Try.ntmps107
 go_wp2_with (first | ((with_reducible refine gate_dst (N := 1) rfl ?_); refine box_event ?hg (N := 1) ?hd (cs := #[.bool a0_0, .string a0_1]) (t := 111) ?hr ?_; (case hd => rfl); (case hg => rfl); (case hr => first | (go_simp; done) | (go_simp; rfl)); intro gb104 hg w2 hbox hb; have n_ := Cy.a4 (below_step (Cz.w HB.out) hb) hbox (Cy.gw hg HB.out) (Cy.gw hg HB.out); clear HB; obtain ⟨HB, BK104, GW104, GE104⟩ := n_; clear hb hbox hg) | ((with_reducible refine gate_dst (N := 2) rfl ?_); refine box_event ?hg (N := 2) ?hd (cs := #[.bool false, .string (⟨#[]⟩ : ByteArray)]) (t := 112) ?hr ?_; (case hd => rfl); (case hg => rfl); (case hr => first | (go_simp; done) | (go_simp; rfl)); intro gb105 hg w3 hbox hb; have n_ := Cy.a7 (blk_below (g := gb104) (o := .cells #[.bool a0_0, .string a0_1] 111 (0, 0)) (Cz.b BK104.out) hb) (below_step (Cz.w HB.out) hb) hbox (Cy.gw hg HB.out) (Cy.gw hg HB.out) (by rw [hg]; exact Nat.ne_of_lt (blk_lt (g := gb104) (o := .cells #[.bool a0_0, .string a0_1] 111 (0, 0)) (Cz.b BK104.out)) : gb104 ≠ gb105) (by rw [hg]; exact Nat.ne_of_gt (blk_lt (g := gb104) (o := .cells #[.bool a0_0, .string a0_1] 111 (0, 0)) (Cz.b BK104.out)) : gb105 ≠ gb104); clear BK104 HB; obtain ⟨BK104, HB, BK105, GW105, GE105, NB104_105, NB105_104⟩ := n_; clear hb hbox hg) | ((with_reducible refine gate_dst (N := 3) rfl ?_); refine box_event ?hg (N := 3) ?hd (cs := #[.bool false, .string (⟨#[]⟩ : ByteArray)]) (t := 112) ?hr ?_; (case hd => rfl); (case hg => rfl); (case hr => first | (go_simp; done) | (go_simp; rfl)); intro gb106 hg w4 hbox hb; have n_ := Cy.a10 (blk_below (g := gb104) (o := .cells #[.bool a0_0, .string a0_1] 111 (0, 0)) (Cz.b BK104.out) hb) (blk_below (g := gb105) (o := .cells #[.bool false, .string (⟨#[]⟩ : ByteArray)] 112 (0, 0)) (Cz.b BK105.out) hb) (below_step (Cz.w HB.out) hb) hbox (Cy.gw hg HB.out) (Cy.gw hg HB.out) (by rw [hg]; exact Nat.ne_of_lt (blk_lt (g := gb104) (o := .cells #[.bool a0_0, .string a0_1] 111 (0, 0)) (Cz.b BK104.out)) : gb104 ≠ gb106) (by rw [hg]; exact Nat.ne_of_gt (blk_lt (g := gb104) (o := .cells #[.bool a0_0, .string a0_1] 111 (0, 0)) (Cz.b BK104.out)) : gb106 ≠ gb104) (by rw [hg]; exact Nat.ne_of_lt (blk_lt (g := gb105) (o := .cells #[.bool false, .string (⟨#[]⟩ : ByteArray)] 112 (0, 0)) (Cz.b BK105.out)) : gb105 ≠ gb106) (by rw [hg]; exact Nat.ne_of_gt (blk_lt (g := gb105) (o := .cells #[.bool false, .string (⟨#[]⟩ : ByteArray)] 112 (0, 0)) (Cz.b BK105.out)) : gb106 ≠ gb105); clear BK104 BK105 HB; obtain ⟨BK104, BK105, HB, BK106, GW106, GE106, NB104_106, NB106_104, NB105_106, NB106_105⟩ := n_; clear hb hbox hg; have hnb5 := NB104_105.out; have hnc5 := NB105_104.out; have hnb6 := NB104_106.out; have hnc6 := NB106_104.out; obtain ⟨hcz7_0, hcz7_1, hfz7_0, hfz7_1⟩ := Cy.z2 BK104.out; have hnb8 := NB106_105.out; have hnc8 := NB105_106.out; obtain ⟨hcz9_0, hcz9_1, hfz9_0, hfz9_1⟩ := Cy.z2 BK106.out; obtain ⟨hcz10_0, hcz10_1, hfz10_0, hfz10_1⟩ := Cy.z2 BK105.out))
 refine bodyPost_ret (results_cell_row rfl _ _ gb105 112 #[.bool a0_0, .string a0_1] (0, 0) _ rfl (by (with_reducible repeat (first | refine blk_drewN ?_ _ | refine blk_drew ?_ | refine blk_alloc ?_ _)); refine blk_put (cs := #[.bool a0_0, .string (⟨#[]⟩ : ByteArray)]) ?_ 1 _ rfl; (with_reducible repeat (first | refine blk_drewN ?_ _ | refine blk_drew ?_ | refine blk_alloc ?_ _)); refine blk_put (cs := #[.bool false, .string (⟨#[]⟩ : ByteArray)]) ?_ 0 _ rfl; (with_reducible repeat (first | refine blk_drewN ?_ _ | refine blk_drew ?_ | refine blk_alloc ?_ _)); refine blk_far ?_ NB105_106.out _; (with_reducible repeat (first | refine blk_drewN ?_ _ | refine blk_drew ?_ | refine blk_alloc ?_ _)); refine blk_far ?_ NB105_106.out _; (with_reducible repeat (first | refine blk_drewN ?_ _ | refine blk_drew ?_ | refine blk_alloc ?_ _)); exact BK105.out) Try.underlying112 rfl (by kernel_rfl)) rfl ?_
 exact ⟨by first | rfl | (simp [errW_none, errW_some] <;> rfl) | (simp [*, errW_none, errW_some] <;> rfl), Cz.w HB.out⟩
def laws_toShardS.l0 : Nat → List (S111) → List (S112) → Int → Option ((List (S112)))
 | 0, _, _, _ => none
 | k + 1, x0, x3, x4 => if x4 < (x0.length : Int) then (if 0 ≤ x4 then ((laws_toShard.f ((rd_T111 x0 x4).f0) ((rd_T111 x0 x4).f1)).bind fun bt111 => (if x4 < (x3.length : Int) then (laws_toShardS.l0 k x0 (x3.set (x4 : Int).toNat (⟨bt111.1, bt111.2⟩ : S112)) (wrap64 (x4 + 1))) else (none))) else (none)) else (some x3)
def laws_toShardS.f (k : Nat) (l0 : List (S111)) : Option ((List (S112))) := if 0 ≤ (l0.length : Int) then (if ((l0.length : Int) : Int).toNat ≤ 11728124029610 then (laws_toShardS.l0 k l0 (List.replicate ((l0.length : Int) : Int).toNat z112) 0) else (none)) else (none)
set_option maxHeartbeats 8000000 in
set_option maxRecDepth 100000 in
theorem laws_toShardS.calls (k : Nat) (A0 : Option Addr) (c0 : Nat) (l0 : List (S111)) (r : List (S112)) (w : World) (hr0 : Kd.C k111 w A0 l0.length l0) (hc0 : l0.length ≤ c0) (h : laws_toShardS.f k l0 = some r) :
  Calls Try.prog 57 #[.slice A0 l0.length c0] w fun e w' => ∃ v0_ : Value, e = .returned (v0_) ∧ Kd.R k112 112 w' w.heap.size (fun _ => True) v0_ r ∧ Below w.heap.size w w' := by
 have hu111 := Try.underlying111
 have hu112 := Try.underlying112
 have HR0 := Aside0.mk hr0
 have HC0 := Aside0.mk hc0
 clear hr0 hc0
 have HB := Aside0.mk (Below.refl w.heap.size w)
 have H : (if 0 ≤ (l0.length : Int) then (if ((l0.length : Int) : Int).toNat ≤ 11728124029610 then (laws_toShardS.l0 k l0 (List.replicate ((l0.length : Int) : Int).toNat z112) 0) else (none)) else (none)) = some r := h
 clear h
 by_cases c2 : 0 ≤ (l0.length : Int)
 ·rw [if_pos c2] at H
  have c2b0 := eq_true c2
  have c2b1 : decide (0 ≤ (l0.length : Int)) = true := decide_eq_true c2
  clear c2
  by_cases c3 : ((l0.length : Int) : Int).toNat ≤ 11728124029610
  ·rw [if_pos c3] at H
   have c3b0 := eq_true c3
   have c3b1 : decide (((l0.length : Int) : Int).toNat ≤ 11728124029610) = true := decide_eq_true c3
   clear c3
   obtain ⟨y107, hy107⟩ : ∃ y_ : List (S112), y_ = (List.replicate ((l0.length : Int) : Int).toNat z112) := ⟨_, rfl⟩
   replace H : (laws_toShardS.l0 k l0 y107 0) = some r := by first | (rw [hy107]; with_reducible exact H) | (have H2_ := (Option.bind_some _ _).symm.trans H; rw [hy107]; with_reducible exact H2_) | (have H2_ := (Option.bind_some _ _).symm.trans H; with_reducible exact H2_) | with_reducible exact H | (rw [hy107]; exact H) | exact H
   have Ny107 := Aside0.mk hy107
   clear hy107
   have H' := Aside0.mk H
   clear H
   go_enter Try.func57, Try.ntmps57
   go_wp2_with (first | ((with_reducible refine gate_dst (N := 7) rfl ?_); refine Kd.R_make k112 _ 112 rfl (N := 7) rfl 69 _ _ rfl (l0.length : Int) rfl rfl Try.underlying69 (.agg #[(.bool false), (.string ⟨#[]⟩)]) 24 info112 rfl (by decide) (by omega) z112 (ok := fun _ => True) (okp := fun _ => True) (k112_mkM _ _ _ z112 ) (fun _ hk => hk) trivial (of_decide_eq_true (by first | (with_reducible assumption) | assumption)) (Nat.le_trans (Nat.mul_le_mul_right _ (of_decide_eq_true (by first | (with_reducible assumption) | assumption) : (l0.length : Int).toNat ≤ 11728124029610)) (by omega)) (Below.refl _ _) (Nat.le_refl _) ?_; intro v108 w4 ho5 hb hg_ hnew_; clear hg_ hnew_; (first | rw [← Ny107.out] at ho5 | (simp only [Int.reduceToNat] at ho5; rw [← Ny107.out] at ho5)); have n_ := Cy.a2 (Kd.R_lower ho5 (below_size (Cz.w HB.out))) (below_step (Cz.w HB.out) hb); clear HB; obtain ⟨HO109, HB⟩ := n_; clear hb ho5))
   go_loopg [4] k (fun kq v4 w' => ∃ (x3_1 : List (S112)) (x4_1 : Int), v4 = .int .i64 x4_1 ∧ Aside0 (laws_toShardS.l0 kq l0 x3_1 x4_1 = some r) ∧ Aside0 (kq ≤ k) ∧ Aside0 (Kd.R k112 112 w' w.heap.size (fun _ => True) v108 x3_1) ∧ Aside0 (Below w.heap.size w w'))
   case atStart => exact ⟨(y107), (0), (by first | rfl | (simp; done) | (simp [*]; done)), H', ⟨Nat.le_refl _⟩, ⟨Cz.r HO109.out⟩, ⟨Cz.w HB.out⟩⟩
   case round =>
    clear H'
    try clear c2
    try clear c2b0
    try clear c2b1
    try clear p2
    try clear c3
    try clear c3b0
    try clear c3b1
    try clear c5
    obtain ⟨x3_1, x4_1, rfl, HA, HK1, HO_3, HB⟩ := hrel
    cases gk with
    | zero => exact absurd HA.out (by simp [laws_toShardS.l0])
    | succ k1 =>
     have H := HA.out
     clear HA
     simp only [laws_toShardS.l0] at H
     by_cases c6 : x4_1 < (l0.length : Int)
     ·rw [if_pos c6] at H
      have c6b0 : decide (x4_1 < (l0.length : Int)) = true := decide_eq_true c6
      clear c6
      by_cases c7 : 0 ≤ x4_1
      ·rw [if_pos c7] at H
       have c7b0 : decide (0 ≤ x4_1) = true := decide_eq_true c7
       clear c7
       replace H := Option.bind_eq_some_iff.mp H
       obtain ⟨⟨t111, t112⟩, A80, H⟩ := H
       replace H : (if x4_1 < (x3_1.length : Int) then (laws_toShardS.l0 k1 l0 (x3_1.set (x4_1 : Int).toNat (⟨t111, t112⟩ : S112)) (wrap64 (x4_1 + 1))) else (none)) = some r := H
       have A8 := Aside0.mk A80
       clear A80
       by_cases c9 : x4_1 < (x3_1.length : Int)
       ·rw [if_pos c9] at H
        have c9b0 : decide (x4_1 < (x3_1.length : Int)) = true := decide_eq_true c9
        clear c9
        obtain ⟨y113, hy113⟩ : ∃ y_ : List (S112), y_ = (x3_1.set (x4_1 : Int).toNat (⟨t111, t112⟩ : S112)) := ⟨_, rfl⟩
        replace H : (laws_toShardS.l0 k1 l0 y113 (wrap64 (x4_1 + 1))) = some r := by first | (rw [hy113]; with_reducible exact H) | (have H2_ := (Option.bind_some _ _).symm.trans H; rw [hy113]; with_reducible exact H2_) | (have H2_ := (Option.bind_some _ _).symm.trans H; with_reducible exact H2_) | with_reducible exact H | (rw [hy113]; exact H) | exact H
        have Ny113 := Aside0.mk hy113
        clear hy113
        have H' := Aside0.mk H
        clear H
        have p110 : 0 ≤ (x4_1 : Int) := of_decide_eq_true (by first | (with_reducible assumption) | assumption)
        have q110 : x4_1 < (l0.length : Int) := of_decide_eq_true (by first | (with_reducible assumption) | assumption)
        obtain ⟨ad110, e110, hx110_0, hx110_1⟩ := at_T111 HR0.out x4_1 p110 q110
        cases e110
        replace hx110_0 := (HB.out.cell (World.block_lt_of_cell? w _ hx110_0)).trans hx110_0
        replace hx110_1 := (HB.out.cell (World.block_lt_of_cell? w _ hx110_1)).trans hx110_1
        replace p110 := eq_true p110
        replace q110 := eq_true q110
        go_wp2_with (first | ((with_reducible refine gate_callee (f := 107) rfl ?_); refine goesL_ (some 20) rfl rfl Try.func107 (by kernel_rfl) rfl #[.agg #[.bool ((rd_T111 l0 x4_1).f0), .string ((rd_T111 l0 x4_1).f1)]] rfl Cy.ls ?_; (with_reducible refine (laws_toShard.calls ((rd_T111 l0 x4_1).f0) ((rd_T111 l0 x4_1).f1) t111 t112 _ A8.out).mono ?_); rintro e w11 ⟨rfl, hb⟩; refine ⟨_, rfl, ?_⟩; have n_ := Cy.a2 (Kd.R_below (Cz.r HO_3.out) hb) (below_step (Cz.w HB.out) hb); clear HO_3 HB; obtain ⟨HO_3, HB⟩ := n_; (try clear hb); (try clear hb2); (try clear hk); (try clear hi); have p10 : 0 ≤ (x4_1 : Int) := of_decide_eq_true (by first | (with_reducible assumption) | assumption); have q10 : (x4_1 : Int) < ((x3_1.length : Int) : Int) := of_decide_eq_true (by first | (with_reducible assumption) | assumption); obtain ⟨go10, co10, eo10, gb10, gl10, cl10, HG10⟩ := Kd.R_form HO_3.out (by omega); (first | cases eo10 | (injection eo10 with ea_ en_ ec_; (first | subst ea_ | (injection ea_ with ea_; subst ea_)); subst ec_; clear en_)); have GB10 := Aside0.mk gb10; have GG10 := Aside0.mk HG10; clear gb10 gl10 HG10; obtain ⟨ce10, hcl10, hM10, hcc10, hfr10⟩ := Kd.R_elem HO_3.out z112 (x4_1 : Int) p10 q10; obtain rfl := k112_openM hM10; have hx10_0 : w11.cell? ⟨go10, (x4_1 : Int).toNat * 2, none⟩ = some (.bool ((rd_T112 x3_1 x4_1).f0)) := hcc10 0 _ rfl; have hx10_1 : w11.cell? ⟨go10, (x4_1 : Int).toNat * 2 + 1, none⟩ = some (.string ((rd_T112 x3_1 x4_1).f1)) := hcc10 1 _ rfl; have hf10_0 : w11.frozen? ⟨go10, (x4_1 : Int).toNat * 2, none⟩ = false := hfr10 0; have hf10_1 : w11.frozen? ⟨go10, (x4_1 : Int).toNat * 2 + 1, none⟩ = false := hfr10 1; clear hcl10 hcc10 hfr10 hM10; replace p10 := eq_true p10; replace q10 := eq_true q10; have HX12 := Aside0.mk (show Kd.R k112 112 w11 w.heap.size (fun _ => True) (.slice (some ⟨go10, 0, none⟩) x3_1.length co10) x3_1 from (Cz.r HO_3.out)); obtain ⟨ce12, hcl12, hM12, hcc12, hfr12⟩ := Kd.R_elem HX12.out z112 (x4_1 : Int) (of_decide_eq_true (by first | (with_reducible assumption) | assumption)) (by have h_ : (x4_1 : Int) < ((x3_1.length : Int) : Int) := of_decide_eq_true (by first | (with_reducible assumption) | assumption); first | exact h_ | (have e_ := (Kd.R_reads' HO_3.out).1; omega) | simpa using h_); obtain rfl := k112_openM hM12; have HP12 := Kd.R_seg HX12.out (x4_1 : Int) (of_decide_eq_true (by first | (with_reducible assumption) | assumption)) (by have h_ : (x4_1 : Int) < ((x3_1.length : Int) : Int) := of_decide_eq_true (by first | (with_reducible assumption) | assumption); first | exact h_ | (have e_ := (Kd.R_reads' HO_3.out).1; omega) | simpa using h_) (seg := [.bool t111, .string t112]) (j := 0) hcl12 hcc12 (show 2 ≤ 2 from by decide) (x' := (⟨t111, t112⟩ : S112)) (k112_mkM _ _ _ (⟨t111, t112⟩ : S112) ) (fun _ hk => hk); have hx12_0 := hcc12 0 _ rfl; (try simp only [show (k112).sz = 2 from rfl, Nat.mul_one, Nat.add_zero] at hx12_0); have hf12_0 := hfr12 0; (try simp only [show (k112).sz = 2 from rfl, Nat.mul_one, Nat.add_zero] at hf12_0); have hx12_1 := hcc12 1 _ rfl; (try simp only [show (k112).sz = 2 from rfl, Nat.mul_one, Nat.add_zero] at hx12_1); have hf12_1 := hfr12 1; (try simp only [show (k112).sz = 2 from rfl, Nat.mul_one, Nat.add_zero] at hf12_1); clear hcl12 hcc12 hfr12 hM12) | ((with_reducible refine gate_store (t := 112) (p := 21) rfl ?_); refine store_event (t := 112) (p := 21) (v := ?vo_w13) (w1 := ((w11.setCell ⟨go10, (x4_1 : Int).toNat * 2, none⟩ (.bool t111)).setCell ⟨go10, (x4_1 : Int).toNat * 2 + 1, none⟩ (.string t112))) ?hg ?ho ?hn ?hr ?_; (case ho => rfl); (case hg => rfl); (case hn => rfl); (case hr => first | (go_simp; done) | (go_simp; rfl)); intro w13 hw; have hg : w11.grownBy w13 (some go10) := (by rw [hw]; exact HP12.2); have hp_ : Kd.R k112 112 w13 w.heap.size (fun _ => True) (.slice (some ⟨go10, 0, none⟩) x3_1.length co10) y113 := (by rw [hw, Ny113.out]; exact HP12.1); clear HP12; have n_ := Cy.a2 hp_ (by rw [hw]; exact below_set (below_set (HB.out) GB10.out) GB10.out : Below w.heap.size w w13); clear HO_3 HB; obtain ⟨HO_3, HB⟩ := n_; clear hg hw hp_))
        go_roundg k1
        case measure => have := HK1.out; omega
        case rel => exact ⟨(y113), (wrap64 (x4_1 + 1)), (by first | rfl | (simp; done) | (simp [*]; done)), H', ⟨by have := HK1.out; omega⟩, ⟨Cz.r HO_3.out⟩, ⟨Cz.w HB.out⟩⟩
       ·rw [if_neg c9] at H
        exact absurd H (by simp)
      ·rw [if_neg c7] at H
       exact absurd H (by simp)
     ·rw [if_neg c6] at H
      have c6b0 : decide (x4_1 < (l0.length : Int)) = false := decide_eq_false c6
      clear c6
      obtain rfl := Option.some.inj H
      go_wp2
      go_ret
      exact ⟨_, by first | rfl | (simp [errW_none, errW_some] <;> rfl) | (simp [*, errW_none, errW_some] <;> rfl), Cz.r HO_3.out, Cz.w HB.out⟩
  ·rw [if_neg c3] at H
   exact absurd H (by simp)
 ·rw [if_neg c2] at H
  exact absurd H (by simp)
def laws_eqShard.f (a0_0 : Bool) (a0_1 : ByteArray) (a1_0 : Bool) (a1_1 : ByteArray) : Option (Bool) := if (a0_0 != a1_0) = true then (none) else (if a0_1.toList = a1_1.toList then (some true) else (none))
set_option maxHeartbeats 8000000 in
set_option maxRecDepth 100000 in
theorem laws_eqShard.calls (a0_0 : Bool) (a0_1 : ByteArray) (a1_0 : Bool) (a1_1 : ByteArray) (r : Bool) (w : World) (h : laws_eqShard.f a0_0 a0_1 a1_0 a1_1 = some r) :
  Calls Try.prog 115 #[.agg #[.bool a0_0, .string a0_1], .agg #[.bool a1_0, .string a1_1]] w fun e w' => e = .returned (.bool r) ∧ Below w.heap.size w w' := by
 have hu112 := Try.underlying112
 have HB := Aside0.mk (Below.refl w.heap.size w)
 have H : (if (a0_0 != a1_0) = true then (none) else (if a0_1.toList = a1_1.toList then (some true) else (none))) = some r := h
 clear h
 by_cases c3 : (a0_0 != a1_0) = true
 ·rw [if_pos c3] at H
  exact absurd H (by simp)
 ·rw [if_neg c3] at H
  have c3b0 : (a0_0 != a1_0) = false := by simpa using c3
  (try (have c3b1 : decide (a0_0 = a1_0) = true := by simpa using c3))
  (try (have c3b2 : (a0_0 == a1_0) = true := by simpa using c3))
  clear c3
  by_cases c4 : a0_1.toList = a1_1.toList
  ·rw [if_pos c4] at H
   have c4b0 : (a0_1.toList == a1_1.toList) = true := beq_iff_eq.mpr c4
   have c4b1 : (a0_1.toList != a1_1.toList) = false := bne_eq_false_iff_eq.mpr c4
   clear c4
   obtain rfl := Option.some.inj H
   go_enter Try.func115, Try.ntmps115
   go_wp2_with (first | ((with_reducible refine gate_dst (N := 2) rfl ?_); refine box_event ?hg (N := 2) ?hd (cs := #[.bool a0_0, .string a0_1]) (t := 112) ?hr ?_; (case hd => rfl); (case hg => rfl); (case hr => first | (go_simp; done) | (go_simp; rfl)); intro gb114 hg w5 hbox hb; have n_ := Cy.a4 (below_step (Cz.w HB.out) hb) hbox (Cy.gw hg HB.out) (Cy.gw hg HB.out); clear HB; obtain ⟨HB, BK114, GW114, GE114⟩ := n_; clear hb hbox hg) | ((with_reducible refine gate_dst (N := 3) rfl ?_); refine box_event ?hg (N := 3) ?hd (cs := #[.bool a1_0, .string a1_1]) (t := 112) ?hr ?_; (case hd => rfl); (case hg => rfl); (case hr => first | (go_simp; done) | (go_simp; rfl)); intro gb115 hg w6 hbox hb; have n_ := Cy.a7 (blk_below (g := gb114) (o := .cells #[.bool a0_0, .string a0_1] 112 (0, 0)) (Cz.b BK114.out) hb) (below_step (Cz.w HB.out) hb) hbox (Cy.gw hg HB.out) (Cy.gw hg HB.out) (by rw [hg]; exact Nat.ne_of_lt (blk_lt (g := gb114) (o := .cells #[.bool a0_0, .string a0_1] 112 (0, 0)) (Cz.b BK114.out)) : gb114 ≠ gb115) (by rw [hg]; exact Nat.ne_of_gt (blk_lt (g := gb114) (o := .cells #[.bool a0_0, .string a0_1] 112 (0, 0)) (Cz.b BK114.out)) : gb115 ≠ gb114); clear BK114 HB; obtain ⟨BK114, HB, BK115, GW115, GE115, NB114_115, NB115_114⟩ := n_; clear hb hbox hg; have hnb7 := NB114_115.out; have hnc7 := NB115_114.out; obtain ⟨hcz8_0, hcz8_1, hfz8_0, hfz8_1⟩ := Cy.z2 BK114.out; obtain ⟨hcz9_0, hcz9_1, hfz9_0, hfz9_1⟩ := Cy.z2 BK115.out))
   go_ret
   exact ⟨by first | rfl | (simp [errW_none, errW_some] <;> rfl) | (simp [*, errW_none, errW_some] <;> rfl), Cz.w HB.out⟩
  ·rw [if_neg c4] at H
   exact absurd H (by simp)
def laws_eqShardS.l0 : Nat → List (S112) → List (S112) → Int → Option (Bool)
 | 0, _, _, _ => none
 | k + 1, x0, x1, x5 => if x5 < (x0.length : Int) then (if 0 ≤ x5 then (if x5 < (x1.length : Int) then ((laws_eqShard.f ((rd_T112 x0 x5).f0) ((rd_T112 x0 x5).f1) ((rd_T112 x1 x5).f0) ((rd_T112 x1 x5).f1)).bind fun t118 => (if t118 = true then (laws_eqShardS.l0 k x0 x1 (wrap64 (x5 + 1))) else (none))) else (none)) else (none)) else (some true)
def laws_eqShardS.f (k : Nat) (l0 : List (S112)) (l1 : List (S112)) : Option (Bool) := if (l0.length : Int) = (l1.length : Int) then (laws_eqShardS.l0 k l0 l1 0) else (none)
def laws_eqShardS.T6 : Bool × List (List Nat × List Nat) := (true, [([], []), ([], []), ([0, 1], [0, 1]), ([2], [2]), ([], []), ([], []), ([4, 5], [4, 5]), ([6], [6]), ([3, 7], [3, 7]), ([8], [8])])
def laws_eqShardS.B6 : List Nat := [0, 0, 3, 7, 0, 0, 48, 112, 255, 511]
theorem laws_eqShardS.tab6 : rtab .any (opsOf Try.f59 6) = laws_eqShardS.T6 := by kernel_rfl
theorem laws_eqShardS.bits6 : waitsOk laws_eqShardS.T6.2 laws_eqShardS.B6 = true := by kernel_rfl
set_option maxHeartbeats 8000000 in
set_option maxRecDepth 100000 in
theorem laws_eqShardS.calls (k : Nat) (A0 : Option Addr) (c0 : Nat) (l0 : List (S112)) (A1 : Option Addr) (c1 : Nat) (l1 : List (S112)) (r : Bool) (w : World) (hr0 : Kd.C k112 w A0 l0.length l0) (hc0 : l0.length ≤ c0) (hr1 : Kd.C k112 w A1 l1.length l1) (hc1 : l1.length ≤ c1) (h : laws_eqShardS.f k l0 l1 = some r) :
  Calls Try.prog 59 #[.slice A0 l0.length c0, .slice A1 l1.length c1] w fun e w' => e = .returned (.bool r) ∧ Below w.heap.size w w' := by
 have hu112 := Try.underlying112
 have HR0 := Aside0.mk hr0
 have HC0 := Aside0.mk hc0
 clear hr0 hc0
 have HR1 := Aside0.mk hr1
 have HC1 := Aside0.mk hc1
 clear hr1 hc1
 have HB := Aside0.mk (Below.refl w.heap.size w)
 have H : (if (l0.length : Int) = (l1.length : Int) then (laws_eqShardS.l0 k l0 l1 0) else (none)) = some r := h
 clear h
 by_cases c3 : (l0.length : Int) = (l1.length : Int)
 ·rw [if_pos c3] at H
  have c3b0 : ((l0.length : Int) == (l1.length : Int)) = true := beq_iff_eq.mpr c3
  have c3b1 : ((l0.length : Int) != (l1.length : Int)) = false := bne_eq_false_iff_eq.mpr c3
  have c3b2 : (l0.length == l1.length) = true := by first | simpa using c3 | (simp at c3 ⊢; omega)
  clear c3
  have H' := Aside0.mk H
  clear H
  go_enter Try.func59, Try.ntmps59
  go_wp2
  go_loopg [5] k (fun kq v5 w' => ∃ (x5_1 : Int), v5 = .int .i64 x5_1 ∧ Aside0 (laws_eqShardS.l0 kq l0 l1 x5_1 = some r) ∧ Aside0 (kq ≤ k) ∧ Aside0 (Below w.heap.size w w'))
  case atStart => exact ⟨(0), (by first | rfl | (simp; done) | (simp [*]; done)), H', ⟨Nat.le_refl _⟩, ⟨Cz.w HB.out⟩⟩
  case round =>
   clear H'
   try clear c1
   try clear p2
   try clear c3
   try clear c3b0
   try clear c3b1
   try clear c3b2
   obtain ⟨x5_1, rfl, HA, HK1, HB⟩ := hrel
   cases gk with
   | zero => exact absurd HA.out (by simp [laws_eqShardS.l0])
   | succ k1 =>
    have H := HA.out
    clear HA
    simp only [laws_eqShardS.l0] at H
    by_cases c4 : x5_1 < (l0.length : Int)
    ·rw [if_pos c4] at H
     have c4b0 : decide (x5_1 < (l0.length : Int)) = true := decide_eq_true c4
     clear c4
     by_cases c5 : 0 ≤ x5_1
     ·rw [if_pos c5] at H
      have c5b0 : decide (0 ≤ x5_1) = true := decide_eq_true c5
      clear c5
      by_cases c6 : x5_1 < (l1.length : Int)
      ·rw [if_pos c6] at H
       have c6b0 : decide (x5_1 < (l1.length : Int)) = true := decide_eq_true c6
       clear c6
       replace H := Option.bind_eq_some_iff.mp H
       obtain ⟨t118, A70, H⟩ := H
       replace H : (if t118 = true then (laws_eqShardS.l0 k1 l0 l1 (wrap64 (x5_1 + 1))) else (none)) = some r := H
       have A7 := Aside0.mk A70
       clear A70
       by_cases c8 : t118 = true
       ·subst c8
        have H1 : (laws_eqShardS.l0 k1 l0 l1 (wrap64 (x5_1 + 1))) = some r := by rw [if_pos rfl] at H; exact H
        clear H
        have H := H1
        clear H1
        have H' := Aside0.mk H
        clear H
        try go_wp2
        replace HB := Aside0.mk (below_drew1 HB.out)
        have p116 : 0 ≤ (x5_1 : Int) := of_decide_eq_true (by first | (with_reducible assumption) | assumption)
        have q116 : x5_1 < (l0.length : Int) := of_decide_eq_true (by first | (with_reducible assumption) | assumption)
        obtain ⟨ad116, e116, hx116_0, hx116_1⟩ := at_T112 HR0.out x5_1 p116 q116
        have hw116_1 := hx116_1
        have hw116_0 := hx116_0
        cases e116
        replace hx116_0 := (HB.out.cell (World.block_lt_of_cell? w _ hx116_0)).trans hx116_0
        replace hx116_1 := (HB.out.cell (World.block_lt_of_cell? w _ hx116_1)).trans hx116_1
        replace p116 := eq_true p116
        replace q116 := eq_true q116
        have p117 : 0 ≤ (x5_1 : Int) := of_decide_eq_true (by first | (with_reducible assumption) | assumption)
        have q117 : x5_1 < (l1.length : Int) := of_decide_eq_true (by first | (with_reducible assumption) | assumption)
        obtain ⟨ad117, e117, hx117_0, hx117_1⟩ := at_T112 HR1.out x5_1 p117 q117
        have hw117_1 := hx117_1
        have hw117_0 := hx117_0
        cases e117
        replace hx117_0 := (HB.out.cell (World.block_lt_of_cell? w _ hx117_0)).trans hx117_0
        replace hx117_1 := (HB.out.cell (World.block_lt_of_cell? w _ hx117_1)).trans hx117_1
        replace p117 := eq_true p117
        replace q117 := eq_true q117
        refine start_ (n := 10) (S := fun w' => w'.cell? (ad116.add ((x5_1).toNat * 2)) = some (.bool ((rd_T112 l0 x5_1).f0)) ∧ w'.cell? ⟨(ad116.add ((x5_1).toNat * 2)).block, (ad116.add ((x5_1).toNat * 2)).off + 1, none⟩ = some (.string ((rd_T112 l0 x5_1).f1)) ∧ w'.cell? (ad117.add ((x5_1).toNat * 2)) = some (.bool ((rd_T112 l1 x5_1).f0)) ∧ w'.cell? ⟨(ad117.add ((x5_1).toNat * 2)).block, (ad117.add ((x5_1).toNat * 2)).off + 1, none⟩ = some (.string ((rd_T112 l1 x5_1).f1))) (ds := []) #[false, false, false, false, false, false, false, false, false, false] (by kernel_rfl) rfl rfl ⟨((HB.out.cell (World.block_lt_of_cell? w _ hw116_0)).trans hw116_0), ((HB.out.cell (World.block_lt_of_cell? w _ hw116_1)).trans hw116_1), ((HB.out.cell (World.block_lt_of_cell? w _ hw117_0)).trans hw117_0), ((HB.out.cell (World.block_lt_of_cell? w _ hw117_1)).trans hw117_1)⟩ (fun hHeld => ?_); refine with_tabW laws_eqShardS.tab6 laws_eqShardS.bits6 (fun HT_ HW_ => ?_)
        generalize wr.drew = w9 at HB hx116_0 hx116_1 hx117_0 hx117_1 hHeld ⊢
        refine Cy.pu 0 17 HT_ ?_
        refine Cy.pu 1 18 HT_ ?_
        refine Cy.pu 2 19 HT_ ?_
        refine Cy.pu 4 21 HT_ ?_
        refine Cy.pu 5 22 HT_ ?_
        refine Cy.pu 6 23 HT_ ?_
        refine Cy.tk 3 20 HT_ HW_ hHeld ?_
        refine Cy.tk 7 24 HT_ HW_ hHeld ?_
        refine one_ (i := 8) (N := some 25) #[true, true, true, true, true, true, true, true, true, false] rfl rfl (one_of HT_.out (by kernel_rfl)) (by decide) (fun K hK => ?_)
        refine goes_ Try.func115 (by kernel_rfl) rfl #[.agg #[.bool ((rd_T112 l0 x5_1).f0), .string ((rd_T112 l0 x5_1).f1)], .agg #[.bool ((rd_T112 l1 x5_1).f0), .string ((rd_T112 l1 x5_1).f1)]] (by rfl) rfl rfl Cy.ls ?_
        with_reducible refine (laws_eqShard.calls ((rd_T112 l0 x5_1).f0) ((rd_T112 l0 x5_1).f1) ((rd_T112 l1 x5_1).f0) ((rd_T112 l1 x5_1).f1) true _ A7.out).mono ?_
        rintro e w10 ⟨rfl, hb⟩
        refine ⟨_, rfl, ?_⟩
        replace HB := Aside0.mk (below_step (Cz.w HB.out) hb)
        (try clear hb)
        (try clear hb2)
        (try clear hk)
        (try clear hi)
        refine hK.out _ _ ⟨((HB.out.cell (World.block_lt_of_cell? w _ hw116_0)).trans hw116_0), ((HB.out.cell (World.block_lt_of_cell? w _ hw116_1)).trans hw116_1), ((HB.out.cell (World.block_lt_of_cell? w _ hw117_0)).trans hw117_0), ((HB.out.cell (World.block_lt_of_cell? w _ hw117_1)).trans hw117_1)⟩ (fun hHeld => ?_)
        clear hK K
        refine norm_ (a' := ?_) ?_ ?_
        rotate_left
        ·show Act.put _ (some 25) _ = _
         simp only [Act.put, List.setIfInBounds_toArray, List.set_cons_zero, List.set_cons_succ, i64_w, i32_w]
         rfl
        refine Cy.pu 9 26 HT_ ?_
        refine done_ (done_of HT_.out (by kernel_rfl)) ?_
        try go_wp2
        go_roundg k1
        case measure => have := HK1.out; omega
        case rel => exact ⟨(wrap64 (x5_1 + 1)), (by first | rfl | (simp; done) | (simp [*]; done)), H', ⟨by have := HK1.out; omega⟩, ⟨Cz.w HB.out⟩⟩
       ·replace c8 := Bool.eq_false_iff.mpr c8
        subst c8
        have H1 : (none) = some r := by rw [if_neg (show ¬ (false = true) by decide)] at H; exact H
        clear H
        have H := H1
        clear H1
        exact absurd H (by simp)
      ·rw [if_neg c6] at H
       exact absurd H (by simp)
     ·rw [if_neg c5] at H
      exact absurd H (by simp)
    ·rw [if_neg c4] at H
     have c4b0 : decide (x5_1 < (l0.length : Int)) = false := decide_eq_false c4
     clear c4
     obtain rfl := Option.some.inj H
     go_wp2
     go_ret
     exact ⟨by first | rfl | (simp [errW_none, errW_some] <;> rfl) | (simp [*, errW_none, errW_some] <;> rfl), Cz.w HB.out⟩
 ·rw [if_neg c3] at H
  exact absurd H (by simp)
def spec_CodeRight.f (a0 : Int) (a1 : Int) : Option (Bool) := if a0 ≥ 1 then (if a0 ≤ 8 then (if a1 ≥ 0 then (some (decide (a1 ≤ 6))) else (some false)) else (some false)) else (some false)
set_option maxHeartbeats 8000000 in
set_option maxRecDepth 100000 in
theorem spec_CodeRight.calls (a0 : Int) (a1 : Int) (r : Bool) (w : World) (h : spec_CodeRight.f a0 a1 = some r) :
  Calls Try.prog 22 #[.int .i64 a0, .int .i64 a1] w fun e w' => e = .returned (.bool r) ∧ Drawn0 w w' := by
 have H : (if a0 ≥ 1 then (if a0 ≤ 8 then (if a1 ≥ 0 then (some (decide (a1 ≤ 6))) else (some false)) else (some false)) else (some false)) = some r := h
 clear h
 by_cases c3 : a0 ≥ 1
 ·rw [if_pos c3] at H
  have c3b0 : decide (1 ≤ a0) = true := decide_eq_true c3
  clear c3
  by_cases c4 : a0 ≤ 8
  ·rw [if_pos c4] at H
   have c4b0 : decide (a0 ≤ 8) = true := decide_eq_true c4
   clear c4
   by_cases c5 : a1 ≥ 0
   ·rw [if_pos c5] at H
    have c5b0 : decide (0 ≤ a1) = true := decide_eq_true c5
    clear c5
    obtain rfl := Option.some.inj H
    go_enter Try.func22, Try.ntmps22
    go_wp2
    go_ret
    exact ⟨by first | rfl | (simp; done) | (simp [*]; done), by repeat (first | exact Drawn0.refl _ | apply Drawn0.step)⟩
   ·rw [if_neg c5] at H
    have c5b0 : decide (0 ≤ a1) = false := decide_eq_false c5
    clear c5
    obtain rfl := Option.some.inj H
    go_enter Try.func22, Try.ntmps22
    go_wp2
    go_ret
    exact ⟨by first | rfl | (simp; done) | (simp [*]; done), by repeat (first | exact Drawn0.refl _ | apply Drawn0.step)⟩
  ·rw [if_neg c4] at H
   have c4b0 : decide (a0 ≤ 8) = false := decide_eq_false c4
   clear c4
   obtain rfl := Option.some.inj H
   go_enter Try.func22, Try.ntmps22
   go_wp2
   go_ret
   exact ⟨by first | rfl | (simp; done) | (simp [*]; done), by repeat (first | exact Drawn0.refl _ | apply Drawn0.step)⟩
 ·rw [if_neg c3] at H
  have c3b0 : decide (1 ≤ a0) = false := decide_eq_false c3
  clear c3
  obtain rfl := Option.some.inj H
  go_enter Try.func22, Try.ntmps22
  go_wp2
  go_ret
  exact ⟨by first | rfl | (simp; done) | (simp [*]; done), by repeat (first | exact Drawn0.refl _ | apply Drawn0.step)⟩
def spec_l04Size.f (a0 : Int) : Option (Bool) := if a0 ≥ 0 then (some (decide (a0 ≤ 20000))) else (some false)
set_option maxHeartbeats 8000000 in
set_option maxRecDepth 100000 in
theorem spec_l04Size.calls (a0 : Int) (r : Bool) (w : World) (h : spec_l04Size.f a0 = some r) :
  Calls Try.prog 117 #[.int .i64 a0] w fun e w' => e = .returned (.bool r) ∧ Drawn0 w w' := by
 have H : (if a0 ≥ 0 then (some (decide (a0 ≤ 20000))) else (some false)) = some r := h
 clear h
 by_cases c2 : a0 ≥ 0
 ·rw [if_pos c2] at H
  have c2b0 : decide (0 ≤ a0) = true := decide_eq_true c2
  clear c2
  obtain rfl := Option.some.inj H
  go_enter Try.func117, Try.ntmps117
  go_wp2
  go_ret
  exact ⟨by first | rfl | (simp; done) | (simp [*]; done), by repeat (first | exact Drawn0.refl _ | apply Drawn0.step)⟩
 ·rw [if_neg c2] at H
  have c2b0 : decide (0 ≤ a0) = false := decide_eq_false c2
  clear c2
  obtain rfl := Option.some.inj H
  go_enter Try.func117, Try.ntmps117
  go_wp2
  go_ret
  exact ⟨by first | rfl | (simp; done) | (simp [*]; done), by repeat (first | exact Drawn0.refl _ | apply Drawn0.step)⟩
def spec_ShardSize.f (a0 : Int) (a1 : Int) : Option (Int) := (spec_CodeRight.f a0 0).bind fun t119 => (if t119 = true then ((spec_l04Size.f a1).bind fun t120 => (if t120 = true then (if a0 = 0 then (none) else (some (wrap64 (Int.tdiv (wrap64 ((wrap64 (a1 + a0)) - 1)) a0)))) else (some 0))) else (some 0))
set_option maxHeartbeats 8000000 in
set_option maxRecDepth 100000 in
theorem spec_ShardSize.calls (a0 : Int) (a1 : Int) (r : Int) (w : World) (h : spec_ShardSize.f a0 a1 = some r) :
  Calls Try.prog 101 #[.int .i64 a0, .int .i64 a1] w fun e w' => e = .returned (.int .i64 r) ∧ Drawn0 w w' := by
 have H : ((spec_CodeRight.f a0 0).bind fun t119 => (if t119 = true then ((spec_l04Size.f a1).bind fun t120 => (if t120 = true then (if a0 = 0 then (none) else (some (wrap64 (Int.tdiv (wrap64 ((wrap64 (a1 + a0)) - 1)) a0)))) else (some 0))) else (some 0))) = some r := h
 clear h
 replace H := Option.bind_eq_some_iff.mp H
 obtain ⟨t119, A30, H⟩ := H
 replace H : (if t119 = true then ((spec_l04Size.f a1).bind fun t120 => (if t120 = true then (if a0 = 0 then (none) else (some (wrap64 (Int.tdiv (wrap64 ((wrap64 (a1 + a0)) - 1)) a0)))) else (some 0))) else (some 0)) = some r := H
 have A3 := Aside0.mk A30
 clear A30
 by_cases c4 : t119 = true
 ·subst c4
  have H1 : ((spec_l04Size.f a1).bind fun t120 => (if t120 = true then (if a0 = 0 then (none) else (some (wrap64 (Int.tdiv (wrap64 ((wrap64 (a1 + a0)) - 1)) a0)))) else (some 0))) = some r := by rw [if_pos rfl] at H; exact H
  clear H
  have H := H1
  clear H1
  replace H := Option.bind_eq_some_iff.mp H
  obtain ⟨t120, A50, H⟩ := H
  replace H : (if t120 = true then (if a0 = 0 then (none) else (some (wrap64 (Int.tdiv (wrap64 ((wrap64 (a1 + a0)) - 1)) a0)))) else (some 0)) = some r := H
  have A5 := Aside0.mk A50
  clear A50
  by_cases c6 : t120 = true
  ·subst c6
   have H1 : (if a0 = 0 then (none) else (some (wrap64 (Int.tdiv (wrap64 ((wrap64 (a1 + a0)) - 1)) a0)))) = some r := by rw [if_pos rfl] at H; exact H
   clear H
   have H := H1
   clear H1
   by_cases c7 : a0 = 0
   ·rw [if_pos c7] at H
    exact absurd H (by simp)
   ·rw [if_neg c7] at H
    have c7b0 : (a0 == 0) = false := beq_eq_false_iff_ne.mpr c7
    have c7b1 : (a0 != 0) = true := bne_iff_ne.mpr c7
    obtain rfl := Option.some.inj H
    go_enter Try.func101, Try.ntmps101
    go_wp2_with (first | ((with_reducible refine gate_callee (f := 22) rfl ?_); refine goesL_ (some 6) rfl rfl Try.func22 (by kernel_rfl) rfl #[.int .i64 a0, .int .i64 0] rfl Cy.ls ?_; (with_reducible refine (spec_CodeRight.calls a0 0 true _ A3.out).mono ?_); rintro e w' ⟨rfl, ⟨nd, rfl⟩⟩; refine ⟨_, rfl, ?_⟩) | (go_at_call 117; (with_reducible refine (spec_l04Size.calls a1 true _ A5.out).mono ?_); rintro e w' ⟨rfl, ⟨nd, rfl⟩⟩))
    go_ret
    exact ⟨by first | rfl | (simp; done) | (simp [*]; done), by repeat (first | exact Drawn0.refl _ | apply Drawn0.step)⟩
  ·replace c6 := Bool.eq_false_iff.mpr c6
   subst c6
   have H1 : (some 0) = some r := by rw [if_neg (show ¬ (false = true) by decide)] at H; exact H
   clear H
   have H := H1
   clear H1
   obtain rfl := Option.some.inj H
   go_enter Try.func101, Try.ntmps101
   go_wp2_with (first | ((with_reducible refine gate_callee (f := 22) rfl ?_); refine goesL_ (some 6) rfl rfl Try.func22 (by kernel_rfl) rfl #[.int .i64 a0, .int .i64 0] rfl Cy.ls ?_; (with_reducible refine (spec_CodeRight.calls a0 0 true _ A3.out).mono ?_); rintro e w' ⟨rfl, ⟨nd, rfl⟩⟩; refine ⟨_, rfl, ?_⟩) | (go_at_call 117; (with_reducible refine (spec_l04Size.calls a1 false _ A5.out).mono ?_); rintro e w' ⟨rfl, ⟨nd, rfl⟩⟩))
   go_ret
   exact ⟨by first | rfl | (simp; done) | (simp [*]; done), by repeat (first | exact Drawn0.refl _ | apply Drawn0.step)⟩
 ·replace c4 := Bool.eq_false_iff.mpr c4
  subst c4
  have H1 : (some 0) = some r := by rw [if_neg (show ¬ (false = true) by decide)] at H; exact H
  clear H
  have H := H1
  clear H1
  obtain rfl := Option.some.inj H
  go_enter Try.func101, Try.ntmps101
  go_wp2_with (first | ((with_reducible refine gate_callee (f := 22) rfl ?_); refine goesL_ (some 6) rfl rfl Try.func22 (by kernel_rfl) rfl #[.int .i64 a0, .int .i64 0] rfl Cy.ls ?_; (with_reducible refine (spec_CodeRight.calls a0 0 false _ A3.out).mono ?_); rintro e w' ⟨rfl, ⟨nd, rfl⟩⟩; refine ⟨_, rfl, ?_⟩))
  go_ret
  exact ⟨by first | rfl | (simp; done) | (simp [*]; done), by repeat (first | exact Drawn0.refl _ | apply Drawn0.step)⟩
end Go.Proofs.Ytlololbhlnapkaa.XFnExactDecode

/- Plain functions of what the law reaches, proofs that the calls come to them, and the law's row: written by a program of this session (xprint.py) over the kit's print. No conditions beyond each lemma's own. -/
import Derived.Test.YtlololbhlnapkaaKxCy
import Derived.Test.YtlololbhlnapkaaKxXFnExactRepairx0
import Derived.Test.YtlololbhlnapkaaKxXFnExactRepairx1
import Derived.Test.YtlololbhlnapkaaKxXFnExactRepairx9
import Derived.Test.YtlololbhlnapkaaKxXFnExactRepairx10
import Derived.Test.YtlololbhlnapkaaKxXFnExactRepairx16
namespace Go.Proofs.Ytlololbhlnapkaa.XFnExactRepair
open Go.RowKit Go.Proofs.YtlololbhlnapkaaW.PrintWords Go.Proofs.YtlololbhlnapkaaW.PrintLast Go.Proofs.YtlololbhlnapkaaW.PrintMore
attribute [local go_sem] max2_int min2_int max_two min_two max_three min_three max_four min_four   -- for this text's walks alone
set_option linter.unusedVariables false
set_option linter.unusedSimpArgs false
def laws_markShardS.l0 : Nat → List (S112) → Int → Int → Option (Int × (List (S112)))
  | 0, _, _, _ => none
  | k + 1, x0, x1, x5 => if x5 < (x0.length : Int) then (if 0 ≤ x5 then ((some (x0.set (x5 : Int).toNat (⟨((Int.tmod x1 3) == 0), (rd_T112 x0 x5).f1⟩ : S112) : List (S112))).bind fun y493 => ((laws_markText.f k (wrap64 (x1 + 1))).bind fun t494 => (laws_markShardS.l0 k (y493.set (x5 : Int).toNat (⟨(rd_T112 y493 x5).f0, t494⟩ : S112)) (wrap64 ((wrap64 (x1 + 1)) + 1)) (wrap64 (x5 + 1))))) else (none)) else (some (x1, x0))
def laws_markShardS.f (k : Nat) (l0 : List (S112)) (a1 : Int) : Option (Int × (List (S112))) := laws_markShardS.l0 k l0 a1 0
set_option maxHeartbeats 8000000 in
set_option maxRecDepth 100000 in
theorem laws_markShardS.calls (k : Nat) (P0_ : Nat → Prop) (u9000_ : Value) (l0 : List (S112)) (a1 : Int) (r1 : Int) (r2 : List (S112)) (w0 w : World) (hB : Below w0.heap.size w0 w) (ho0 : Kd.R k112 112 w w0.heap.size P0_ u9000_ l0) (h : laws_markShardS.f k l0 a1 = some (r1, r2)) :
  Calls Try.prog 60 #[u9000_, .int .i64 a1] w fun e w' => e = .returned (.int .i64 r1) ∧ Kd.R k112 112 w' w0.heap.size (fun k_ => (P0_ k_ ∨ w.heap.size ≤ k_)) u9000_ r2 ∧ Below w0.heap.size w0 w' ∧ Kept w w' (fun k_ => P0_ k_) := by
 have HO0 := Aside0.mk (show Kd.R k112 112 w w0.heap.size (fun k_ => (P0_ k_ ∨ w.heap.size ≤ k_)) u9000_ l0 from Kd.R_mono ho0 (fun k_ hk => (.inl hk)))
 have HK := Aside0.mk (Kept.refl w (fun k_ => P0_ k_))
 have HW0 := Aside0.mk hB.size
 have HB := Aside0.mk hB
 clear hB
 have H : (laws_markShardS.l0 k l0 a1 0) = some (r1, r2) := h
 clear h
 have H' := Aside0.mk H
 clear H
 go_enter Try.func60, Try.ntmps60
 go_wp2
 go_loopg [1, 5] k (fun kq v1 v5 w' => ∃ (x0_1 : List (S112)) (x1_1 : Int) (x5_1 : Int), v1 = .int .i64 x1_1 ∧ v5 = .int .i64 x5_1 ∧ Aside0 (laws_markShardS.l0 kq x0_1 x1_1 x5_1 = some (r1, r2)) ∧ Aside0 (kq ≤ k) ∧ Aside0 (Kd.R k112 112 w' w0.heap.size (fun k_ => (P0_ k_ ∨ w.heap.size ≤ k_)) u9000_ x0_1) ∧ Aside0 (Kept w w' (fun k_ => P0_ k_)) ∧ Aside0 (Below w0.heap.size w0 w'))
 case atStart => exact ⟨(l0), (a1), (0), (by first | rfl | (simp; done) | (simp [*]; done)), (by first | rfl | (simp; done) | (simp [*]; done)), H', ⟨Nat.le_refl _⟩, ⟨Cz.r HO0.out⟩, ⟨by repeat (first | (with_reducible first | exact HK.out | apply Kept.alloc | apply Kept.drewN | apply Kept.drew) | exact HK.out)⟩, ⟨Cz.w HB.out⟩⟩
 case round =>
  clear H'
  try clear p2
  obtain ⟨x0_1, x1_1, x5_1, rfl, rfl, HA, HK1, HO_0, HK, HB⟩ := hrel
  cases gk with
  | zero => exact absurd HA.out (by simp [laws_markShardS.l0])
  | succ k1 =>
   have H := HA.out
   clear HA
   simp only [laws_markShardS.l0] at H
   by_cases c3 : x5_1 < (x0_1.length : Int)
   ·rw [if_pos c3] at H
    have c3b0 : decide (x5_1 < (x0_1.length : Int)) = true := decide_eq_true c3
    clear c3
    by_cases c4 : 0 ≤ x5_1
    ·rw [if_pos c4] at H
     have c4b0 : decide (0 ≤ x5_1) = true := decide_eq_true c4
     clear c4
     obtain ⟨y493, hy493⟩ : ∃ y_ : List (S112), y_ = (x0_1.set (x5_1 : Int).toNat (⟨((Int.tmod x1_1 3) == 0), (rd_T112 x0_1 x5_1).f1⟩ : S112)) := ⟨_, rfl⟩
     replace H : ((laws_markText.f k1 (wrap64 (x1_1 + 1))).bind fun t494 => (laws_markShardS.l0 k1 (y493.set (x5_1 : Int).toNat (⟨(rd_T112 y493 x5_1).f0, t494⟩ : S112)) (wrap64 ((wrap64 (x1_1 + 1)) + 1)) (wrap64 (x5_1 + 1)))) = some (r1, r2) := by first | (rw [hy493]; with_reducible exact H) | (have H2_ := (Option.bind_some _ _).symm.trans H; rw [hy493]; with_reducible exact H2_) | (have H2_ := (Option.bind_some _ _).symm.trans H; with_reducible exact H2_) | with_reducible exact H | (rw [hy493]; exact H) | exact H
     have Ny493 := Aside0.mk hy493
     clear hy493
     replace H := Option.bind_eq_some_iff.mp H
     obtain ⟨t494, A60, H⟩ := H
     replace H : (laws_markShardS.l0 k1 (y493.set (x5_1 : Int).toNat (⟨(rd_T112 y493 x5_1).f0, t494⟩ : S112)) (wrap64 ((wrap64 (x1_1 + 1)) + 1)) (wrap64 (x5_1 + 1))) = some (r1, r2) := H
     have A6 := Aside0.mk A60
     clear A60
     obtain ⟨y495, hy495⟩ : ∃ y_ : List (S112), y_ = (y493.set (x5_1 : Int).toNat (⟨(rd_T112 y493 x5_1).f0, t494⟩ : S112)) := ⟨_, rfl⟩
     replace H : (laws_markShardS.l0 k1 y495 (wrap64 ((wrap64 (x1_1 + 1)) + 1)) (wrap64 (x5_1 + 1))) = some (r1, r2) := by first | (rw [hy495]; with_reducible exact H) | (have H2_ := (Option.bind_some _ _).symm.trans H; rw [hy495]; with_reducible exact H2_) | (have H2_ := (Option.bind_some _ _).symm.trans H; with_reducible exact H2_) | with_reducible exact H | (rw [hy495]; exact H) | exact H
     have Ny495 := Aside0.mk hy495
     clear hy495
     have H' := Aside0.mk H
     clear H
     obtain ⟨Ao8, co8, eo8⟩ := Kd.R_slice HO_0.out
     subst eo8
     have p5 : 0 ≤ (x5_1 : Int) := of_decide_eq_true (by first | (with_reducible assumption) | assumption)
     have q5 : (x5_1 : Int) < ((x0_1.length : Int) : Int) := of_decide_eq_true (by first | (with_reducible assumption) | assumption)
     obtain ⟨go5, co5, eo5, gb5, gl5, cl5, HG5⟩ := Kd.R_form HO_0.out (by omega)
     (first | cases eo5 | (injection eo5 with ea_ en_ ec_; (first | subst ea_ | (injection ea_ with ea_; subst ea_)); subst ec_; clear en_))
     have GB5 := Aside0.mk gb5
     have GG5 := Aside0.mk HG5
     clear gb5 gl5 HG5
     have HMgo5 := Aside0.mk (show (P0_ go5 ∨ w.heap.size ≤ go5) from (HO_0.out.1 _ rfl))
     obtain ⟨ce5, hcl5, hM5, hcc5, hfr5⟩ := Kd.R_elem HO_0.out z112 (x5_1 : Int) p5 q5
     obtain rfl := k112_openM hM5
     have hx5_0 : wr.cell? ⟨go5, (x5_1 : Int).toNat * 2, none⟩ = some (.bool ((rd_T112 x0_1 x5_1).f0)) := hcc5 0 _ rfl
     have hx5_1 : wr.cell? ⟨go5, (x5_1 : Int).toNat * 2 + 1, none⟩ = some (.string ((rd_T112 x0_1 x5_1).f1)) := hcc5 1 _ rfl
     have hf5_0 : wr.frozen? ⟨go5, (x5_1 : Int).toNat * 2, none⟩ = false := hfr5 0
     have hf5_1 : wr.frozen? ⟨go5, (x5_1 : Int).toNat * 2 + 1, none⟩ = false := hfr5 1
     clear hcl5 hcc5 hfr5 hM5
     replace p5 := eq_true p5
     replace q5 := eq_true q5
     have HX9 := Aside0.mk (show Kd.R k112 112 wr w0.heap.size (fun k_ => (P0_ k_ ∨ w.heap.size ≤ k_)) (.slice (some ⟨go5, 0, none⟩) x0_1.length co8) x0_1 from (Cz.r HO_0.out))
     obtain ⟨ce9, hcl9, hM9, hcc9, hfr9⟩ := Kd.R_elem HX9.out z112 (x5_1 : Int) (of_decide_eq_true (by first | (with_reducible assumption) | assumption)) (by have h_ : (x5_1 : Int) < ((x0_1.length : Int) : Int) := of_decide_eq_true (by first | (with_reducible assumption) | assumption); first | exact h_ | (have e_ := (Kd.R_reads' HO_0.out).1; omega) | simpa using h_)
     obtain rfl := k112_openM hM9
     have HP9 := Kd.R_seg HX9.out (x5_1 : Int) (of_decide_eq_true (by first | (with_reducible assumption) | assumption)) (by have h_ : (x5_1 : Int) < ((x0_1.length : Int) : Int) := of_decide_eq_true (by first | (with_reducible assumption) | assumption); first | exact h_ | (have e_ := (Kd.R_reads' HO_0.out).1; omega) | simpa using h_) (seg := [.bool ((Int.tmod x1_1 3) == 0)]) (j := 0) hcl9 hcc9 (show 1 ≤ 2 from by decide) (x' := (⟨((Int.tmod x1_1 3) == 0), (rd_T112 x0_1 x5_1).f1⟩ : S112)) (k112_mkM _ _ _ (⟨((Int.tmod x1_1 3) == 0), (rd_T112 x0_1 x5_1).f1⟩ : S112) ) (fun _ hk => hk)
     have hx9_0 := hcc9 0 _ rfl
     (try simp only [show (k112).sz = 2 from rfl, Nat.mul_one, Nat.add_zero] at hx9_0)
     have hf9_0 := hfr9 0
     (try simp only [show (k112).sz = 2 from rfl, Nat.mul_one, Nat.add_zero] at hf9_0)
     clear hcl9 hcc9 hfr9 hM9
     go_wp2_with (first | ((with_reducible refine gate_store (t := 4) (p := 18) rfl ?_); refine store_event (t := 4) (p := 18) (v := ?vo_w10) (w1 := (wr.setCell ⟨go5, (x5_1 : Int).toNat * 2, none⟩ (.bool ((Int.tmod x1_1 3) == 0)))) ?hg ?ho ?hn ?hr ?_; (case ho => rfl); (case hg => rfl); (case hn => rfl); (case hr => first | (go_simp; done) | (go_simp; rfl)); intro w10 hw; have hg : wr.grownBy w10 (some go5) := (by rw [hw]; exact HP9.2); have hp_ : Kd.R k112 112 w10 w0.heap.size (fun k_ => (P0_ k_ ∨ w.heap.size ≤ k_)) (.slice (some ⟨go5, 0, none⟩) x0_1.length co8) y493 := (by rw [hw, Ny493.out]; exact HP9.1); clear HP9; have n_ := Cy.a3 hp_ (by rw [hw]; exact below_set (HB.out) GB5.out : Below w0.heap.size w0 w10) (Kept.of_grown (S := (fun k_ => P0_ k_)) hg (by repeat (first | (with_reducible first | exact HK.out | apply Kept.alloc | apply Kept.drewN | apply Kept.drew) | exact HK.out)) (fun k_ e_ => (HO_0.out.1 k_ e_))); clear HO_0 HB HK; obtain ⟨HO_0, HB, HK⟩ := n_; clear hg hw hp_) | ((with_reducible refine gate_callee (f := 116) rfl ?_); refine goesL_ (some 24) rfl rfl Try.func116 (by kernel_rfl) rfl #[.int .i64 (wrap64 (x1_1 + 1))] rfl (by (try simp only [List.map_toArray, List.map_cons, List.map_nil]); first | done | rfl | (simp only [List.length_drop, List.length_take]; rfl)) ?_; (with_reducible refine (laws_markText.calls k1 (wrap64 (x1_1 + 1)) t494 _ A6.out).mono ?_); rintro e w11 ⟨rfl, hb⟩; refine ⟨_, rfl, ?_⟩; have n_ := Cy.a3 (Kd.R_below (Cz.r HO_0.out) hb) (Kept.below (S := (fun k_ => P0_ k_)) (by repeat (first | (with_reducible first | exact HK.out | apply Kept.alloc | apply Kept.drewN | apply Kept.drew) | exact HK.out)) hb) (below_step (Cz.w HB.out) hb); clear HO_0 HK HB; obtain ⟨HO_0, HK, HB⟩ := n_; (try clear hb); (try clear hb2); (try clear hk); (try clear hi); have p7 : 0 ≤ (x5_1 : Int) := of_decide_eq_true (by first | (with_reducible assumption) | assumption); have q7 : (x5_1 : Int) < ((x0_1.length : Int) : Int) := of_decide_eq_true (by first | (with_reducible assumption) | assumption); obtain ⟨ce7, hcl7, hM7, hcc7, hfr7⟩ := Kd.R_elem HO_0.out z112 (x5_1 : Int) p7 q7; obtain rfl := k112_openM hM7; have hx7_0 : w11.cell? ⟨go5, (x5_1 : Int).toNat * 2, none⟩ = some (.bool ((rd_T112 y493 x5_1).f0)) := hcc7 0 _ rfl; have hx7_1 : w11.cell? ⟨go5, (x5_1 : Int).toNat * 2 + 1, none⟩ = some (.string ((rd_T112 y493 x5_1).f1)) := hcc7 1 _ rfl; have hf7_0 : w11.frozen? ⟨go5, (x5_1 : Int).toNat * 2, none⟩ = false := hfr7 0; have hf7_1 : w11.frozen? ⟨go5, (x5_1 : Int).toNat * 2 + 1, none⟩ = false := hfr7 1; clear hcl7 hcc7 hfr7 hM7; replace p7 := eq_true p7; replace q7 := eq_true q7; have HX12 := Aside0.mk (show Kd.R k112 112 w11 w0.heap.size (fun k_ => (P0_ k_ ∨ w.heap.size ≤ k_)) (.slice (some ⟨go5, 0, none⟩) x0_1.length co8) y493 from (Cz.r HO_0.out)); obtain ⟨ce12, hcl12, hM12, hcc12, hfr12⟩ := Kd.R_elem HX12.out z112 (x5_1 : Int) (of_decide_eq_true (by first | (with_reducible assumption) | assumption)) (by have h_ : (x5_1 : Int) < ((x0_1.length : Int) : Int) := of_decide_eq_true (by first | (with_reducible assumption) | assumption); first | exact h_ | (have e_ := (Kd.R_reads' HO_0.out).1; omega) | simpa using h_); obtain rfl := k112_openM hM12; have HP12 := Kd.R_seg HX12.out (x5_1 : Int) (of_decide_eq_true (by first | (with_reducible assumption) | assumption)) (by have h_ : (x5_1 : Int) < ((x0_1.length : Int) : Int) := of_decide_eq_true (by first | (with_reducible assumption) | assumption); first | exact h_ | (have e_ := (Kd.R_reads' HO_0.out).1; omega) | simpa using h_) (seg := [.string t494]) (j := 1) hcl12 hcc12 (show 2 ≤ 2 from by decide) (x' := (⟨(rd_T112 y493 x5_1).f0, t494⟩ : S112)) (k112_mkM _ _ _ (⟨(rd_T112 y493 x5_1).f0, t494⟩ : S112) ) (fun _ hk => hk); have hx12_1 := hcc12 1 _ rfl; (try simp only [show (k112).sz = 2 from rfl, Nat.mul_one, Nat.add_zero] at hx12_1); have hf12_1 := hfr12 1; (try simp only [show (k112).sz = 2 from rfl, Nat.mul_one, Nat.add_zero] at hf12_1); clear hcl12 hcc12 hfr12 hM12) | ((with_reducible refine gate_store (t := 9) (p := 26) rfl ?_); refine store_event (t := 9) (p := 26) (v := ?vo_w13) (w1 := (w11.setCell ⟨go5, (x5_1 : Int).toNat * 2 + 1, none⟩ (.string t494))) ?hg ?ho ?hn ?hr ?_; (case ho => rfl); (case hg => rfl); (case hn => rfl); (case hr => first | (go_simp; done) | (go_simp; rfl)); intro w13 hw; have hg : w11.grownBy w13 (some go5) := (by rw [hw]; exact HP12.2); have hp_ : Kd.R k112 112 w13 w0.heap.size (fun k_ => (P0_ k_ ∨ w.heap.size ≤ k_)) (.slice (some ⟨go5, 0, none⟩) x0_1.length co8) y495 := (by rw [hw, Ny495.out]; exact HP12.1); clear HP12; have n_ := Cy.a3 hp_ (by rw [hw]; exact below_set (HB.out) GB5.out : Below w0.heap.size w0 w13) (Kept.of_grown (S := (fun k_ => P0_ k_)) hg (by repeat (first | (with_reducible first | exact HK.out | apply Kept.alloc | apply Kept.drewN | apply Kept.drew) | exact HK.out)) (fun k_ e_ => (HO_0.out.1 k_ e_))); clear HO_0 HB HK; obtain ⟨HO_0, HB, HK⟩ := n_; clear hg hw hp_))
     go_roundg k1
     case measure => have := HK1.out; omega
     case rel => exact ⟨(y495), (wrap64 ((wrap64 (x1_1 + 1)) + 1)), (wrap64 (x5_1 + 1)), (by first | rfl | (simp; done) | (simp [*]; done)), (by first | rfl | (simp; done) | (simp [*]; done)), H', ⟨by have := HK1.out; omega⟩, ⟨Cz.r HO_0.out⟩, ⟨by repeat (first | (with_reducible first | exact HK.out | apply Kept.alloc | apply Kept.drewN | apply Kept.drew) | exact HK.out)⟩, ⟨Cz.w HB.out⟩⟩
    ·rw [if_neg c4] at H
     exact absurd H (by simp)
   ·rw [if_neg c3] at H
    have c3b0 : decide (x5_1 < (x0_1.length : Int)) = false := decide_eq_false c3
    clear c3
    simp only [Option.some.injEq, Prod.mk.injEq] at H
    obtain ⟨rfl, rfl⟩ := H
    obtain ⟨Ao14, co14, eo14⟩ := Kd.R_slice HO_0.out
    subst eo14
    go_wp2
    go_ret
    exact ⟨by first | rfl | (simp [errW_none, errW_some] <;> rfl) | (simp [*, errW_none, errW_some] <;> rfl), Cz.r HO_0.out, Cz.w HB.out, by repeat (first | (with_reducible first | exact HK.out | apply Kept.alloc | apply Kept.drewN | apply Kept.drew) | exact HK.out)⟩
def laws_FnExactRepair.j0 : Nat → Int → Int → List (S111) → Bool → List ByteArray → Int → List ByteArray → Int → Option (Bool)
 | 0, _, _, _, _, _, _, _, _ => none
 | k + 1, x0, x1, x2, x50, x505000, x505001, x513000, x513001 => if x50 = true then (none) else ((laws_markShardsOut.f k x513000 x513001 1).bind fun bt521 => ((laws_heldShardsOut.f k bt521.2 x513001 1).bind fun t523 => (if t523 < 0 then (none) else (if t523 = bt521.1 then ((laws_toShardS.f k x2).bind fun t524 => ((impl_Repair.f k x0 x1 t524).bind fun bt527 => ((laws_eqShardsOut.f k bt527.1 bt527.2 x505000 x505001).bind fun t532 => (if t532 = true then ((laws_heldShardsOut.f k bt521.2 x513001 1).bind fun t533 => (if t533 < 0 then (none) else (if t533 = bt521.1 then (some true) else (none)))) else (none))))) else (none)))))
def laws_FnExactRepair.f (k : Nat) (a0 : Int) (a1 : Int) (l2 : List (S111)) : Option (Bool) := (laws_szShardS.f k l2 1048576).bind fun t496 => (if t496 < 0 then (some true) else ((laws_toShardS.f k l2).bind fun t497 => ((spec_Repair.f k a0 a1 t497).bind fun bt500 => ((laws_toShardS.f k l2).bind fun t505 => ((impl_Repair.f k a0 a1 t505).bind fun bt508 => ((laws_eqShardsOut.f k bt508.1 bt508.2 bt500.1 bt500.2).bind fun t513 => (if t513 = true then ((laws_toShardS.f k l2).bind fun t514 => ((laws_eqShardS.f k t505 t514).bind fun t517 => (if t517 = true then ((laws_markShardS.f k t505 1).bind fun bt518 => (if bt518.1 < 0 then (laws_FnExactRepair.j0 k a0 a1 l2 true bt500.1 bt500.2 bt508.1 bt508.2) else ((laws_eqShardsOut.f k bt508.1 bt508.2 bt500.1 bt500.2).bind fun t520 => (laws_FnExactRepair.j0 k a0 a1 l2 (!t520) bt500.1 bt500.2 bt508.1 bt508.2)))) else (none)))) else (none))))))))
set_option maxHeartbeats 8000000 in
set_option maxRecDepth 100000 in
theorem laws_FnExactRepair.calls (k : Nat) (a0 : Int) (a1 : Int) (A2 : Option Addr) (c2 : Nat) (l2 : List (S111)) (r : Bool) (w : World) (hr2 : Kd.C k111 w A2 l2.length l2) (hc2 : l2.length ≤ c2) (h : laws_FnExactRepair.f k a0 a1 l2 = some r) :
  Calls Try.prog 13 #[.int .i64 a0, .int .i64 a1, .slice A2 l2.length c2] w fun e w' => e = .returned (.bool r) ∧ Below w.heap.size w w' := by
 have hu61 := Try.underlying61
 have HR2 := Aside0.mk hr2
 have HC2 := Aside0.mk hc2
 clear hr2 hc2
 have HB := Aside0.mk (Below.refl w.heap.size w)
 have H : ((laws_szShardS.f k l2 1048576).bind fun t496 => (if t496 < 0 then (some true) else ((laws_toShardS.f k l2).bind fun t497 => ((spec_Repair.f k a0 a1 t497).bind fun bt500 => ((laws_toShardS.f k l2).bind fun t505 => ((impl_Repair.f k a0 a1 t505).bind fun bt508 => ((laws_eqShardsOut.f k bt508.1 bt508.2 bt500.1 bt500.2).bind fun t513 => (if t513 = true then ((laws_toShardS.f k l2).bind fun t514 => ((laws_eqShardS.f k t505 t514).bind fun t517 => (if t517 = true then ((laws_markShardS.f k t505 1).bind fun bt518 => (if bt518.1 < 0 then (laws_FnExactRepair.j0 k a0 a1 l2 true bt500.1 bt500.2 bt508.1 bt508.2) else ((laws_eqShardsOut.f k bt508.1 bt508.2 bt500.1 bt500.2).bind fun t520 => (laws_FnExactRepair.j0 k a0 a1 l2 (!t520) bt500.1 bt500.2 bt508.1 bt508.2)))) else (none)))) else (none))))))))) = some r := h
 clear h
 replace H := Option.bind_eq_some_iff.mp H
 obtain ⟨t496, A40, H⟩ := H
 replace H : (if t496 < 0 then (some true) else ((laws_toShardS.f k l2).bind fun t497 => ((spec_Repair.f k a0 a1 t497).bind fun bt500 => ((laws_toShardS.f k l2).bind fun t505 => ((impl_Repair.f k a0 a1 t505).bind fun bt508 => ((laws_eqShardsOut.f k bt508.1 bt508.2 bt500.1 bt500.2).bind fun t513 => (if t513 = true then ((laws_toShardS.f k l2).bind fun t514 => ((laws_eqShardS.f k t505 t514).bind fun t517 => (if t517 = true then ((laws_markShardS.f k t505 1).bind fun bt518 => (if bt518.1 < 0 then (laws_FnExactRepair.j0 k a0 a1 l2 true bt500.1 bt500.2 bt508.1 bt508.2) else ((laws_eqShardsOut.f k bt508.1 bt508.2 bt500.1 bt500.2).bind fun t520 => (laws_FnExactRepair.j0 k a0 a1 l2 (!t520) bt500.1 bt500.2 bt508.1 bt508.2)))) else (none)))) else (none)))))))) = some r := H
 have A4 := Aside0.mk A40
 clear A40
 by_cases c5 : t496 < 0
 ·rw [if_pos c5] at H
  have c5b0 : decide (t496 < 0) = true := decide_eq_true c5
  clear c5
  obtain rfl := Option.some.inj H
  go_enter Try.func13, Try.ntmps13
  go_wp2_with (first | ((with_reducible refine gate_callee (f := 55) rfl ?_); refine goesL_ (some 17) rfl rfl Try.func55 (by kernel_rfl) rfl #[.slice A2 l2.length c2, .int .i64 1048576] rfl (by (try simp only [List.map_toArray, List.map_cons, List.map_nil]); first | done | rfl | (simp only [List.length_drop, List.length_take]; rfl)) ?_; (with_reducible refine (laws_szShardS.calls k _ _ l2 1048576 t496 _ ?side1 ?side2 A4.out).mono ?_); (case side1 => repeat (first | exact HR2.out | (with_reducible refine Kd.C_alloc ?_ _) | (with_reducible refine Kd.C_drewN ?_ _) | (with_reducible refine Kd.C_drew ?_))); (case side2 => exact HC2.out); rintro e w6 ⟨rfl, hb⟩; refine ⟨_, rfl, ?_⟩; replace HB := Aside0.mk (below_step (Cz.w HB.out) hb); (try clear hb); (try clear hb2); (try clear hk); (try clear hi)))
  go_ret
  exact ⟨by first | rfl | (simp [errW_none, errW_some] <;> rfl) | (simp [*, errW_none, errW_some] <;> rfl), Cz.w HB.out⟩
 ·rw [if_neg c5] at H
  have c5b0 : decide (t496 < 0) = false := decide_eq_false c5
  clear c5
  replace H := Option.bind_eq_some_iff.mp H
  obtain ⟨t497, A70, H⟩ := H
  replace H : ((spec_Repair.f k a0 a1 t497).bind fun bt500 => ((laws_toShardS.f k l2).bind fun t505 => ((impl_Repair.f k a0 a1 t505).bind fun bt508 => ((laws_eqShardsOut.f k bt508.1 bt508.2 bt500.1 bt500.2).bind fun t513 => (if t513 = true then ((laws_toShardS.f k l2).bind fun t514 => ((laws_eqShardS.f k t505 t514).bind fun t517 => (if t517 = true then ((laws_markShardS.f k t505 1).bind fun bt518 => (if bt518.1 < 0 then (laws_FnExactRepair.j0 k a0 a1 l2 true bt500.1 bt500.2 bt508.1 bt508.2) else ((laws_eqShardsOut.f k bt508.1 bt508.2 bt500.1 bt500.2).bind fun t520 => (laws_FnExactRepair.j0 k a0 a1 l2 (!t520) bt500.1 bt500.2 bt508.1 bt508.2)))) else (none)))) else (none)))))) = some r := H
  have A7 := Aside0.mk A70
  clear A70
  replace H := Option.bind_eq_some_iff.mp H
  obtain ⟨⟨t500, t503⟩, A80, H⟩ := H
  replace H : ((laws_toShardS.f k l2).bind fun t505 => ((impl_Repair.f k a0 a1 t505).bind fun bt508 => ((laws_eqShardsOut.f k bt508.1 bt508.2 t500 t503).bind fun t513 => (if t513 = true then ((laws_toShardS.f k l2).bind fun t514 => ((laws_eqShardS.f k t505 t514).bind fun t517 => (if t517 = true then ((laws_markShardS.f k t505 1).bind fun bt518 => (if bt518.1 < 0 then (laws_FnExactRepair.j0 k a0 a1 l2 true t500 t503 bt508.1 bt508.2) else ((laws_eqShardsOut.f k bt508.1 bt508.2 t500 t503).bind fun t520 => (laws_FnExactRepair.j0 k a0 a1 l2 (!t520) t500 t503 bt508.1 bt508.2)))) else (none)))) else (none))))) = some r := H
  have A8 := Aside0.mk A80
  clear A80
  replace H := Option.bind_eq_some_iff.mp H
  obtain ⟨t505, A90, H⟩ := H
  replace H : ((impl_Repair.f k a0 a1 t505).bind fun bt508 => ((laws_eqShardsOut.f k bt508.1 bt508.2 t500 t503).bind fun t513 => (if t513 = true then ((laws_toShardS.f k l2).bind fun t514 => ((laws_eqShardS.f k t505 t514).bind fun t517 => (if t517 = true then ((laws_markShardS.f k t505 1).bind fun bt518 => (if bt518.1 < 0 then (laws_FnExactRepair.j0 k a0 a1 l2 true t500 t503 bt508.1 bt508.2) else ((laws_eqShardsOut.f k bt508.1 bt508.2 t500 t503).bind fun t520 => (laws_FnExactRepair.j0 k a0 a1 l2 (!t520) t500 t503 bt508.1 bt508.2)))) else (none)))) else (none)))) = some r := H
  have A9 := Aside0.mk A90
  clear A90
  replace H := Option.bind_eq_some_iff.mp H
  obtain ⟨⟨t508, t511⟩, A100, H⟩ := H
  replace H : ((laws_eqShardsOut.f k t508 t511 t500 t503).bind fun t513 => (if t513 = true then ((laws_toShardS.f k l2).bind fun t514 => ((laws_eqShardS.f k t505 t514).bind fun t517 => (if t517 = true then ((laws_markShardS.f k t505 1).bind fun bt518 => (if bt518.1 < 0 then (laws_FnExactRepair.j0 k a0 a1 l2 true t500 t503 t508 t511) else ((laws_eqShardsOut.f k t508 t511 t500 t503).bind fun t520 => (laws_FnExactRepair.j0 k a0 a1 l2 (!t520) t500 t503 t508 t511)))) else (none)))) else (none))) = some r := H
  have A10 := Aside0.mk A100
  clear A100
  replace H := Option.bind_eq_some_iff.mp H
  obtain ⟨t513, A110, H⟩ := H
  replace H : (if t513 = true then ((laws_toShardS.f k l2).bind fun t514 => ((laws_eqShardS.f k t505 t514).bind fun t517 => (if t517 = true then ((laws_markShardS.f k t505 1).bind fun bt518 => (if bt518.1 < 0 then (laws_FnExactRepair.j0 k a0 a1 l2 true t500 t503 t508 t511) else ((laws_eqShardsOut.f k t508 t511 t500 t503).bind fun t520 => (laws_FnExactRepair.j0 k a0 a1 l2 (!t520) t500 t503 t508 t511)))) else (none)))) else (none)) = some r := H
  have A11 := Aside0.mk A110
  clear A110
  by_cases c12 : t513 = true
  ·subst c12
   have H1 : ((laws_toShardS.f k l2).bind fun t514 => ((laws_eqShardS.f k t505 t514).bind fun t517 => (if t517 = true then ((laws_markShardS.f k t505 1).bind fun bt518 => (if bt518.1 < 0 then (laws_FnExactRepair.j0 k a0 a1 l2 true t500 t503 t508 t511) else ((laws_eqShardsOut.f k t508 t511 t500 t503).bind fun t520 => (laws_FnExactRepair.j0 k a0 a1 l2 (!t520) t500 t503 t508 t511)))) else (none)))) = some r := by rw [if_pos rfl] at H; exact H
   clear H
   have H := H1
   clear H1
   replace H := Option.bind_eq_some_iff.mp H
   obtain ⟨t514, A130, H⟩ := H
   replace H : ((laws_eqShardS.f k t505 t514).bind fun t517 => (if t517 = true then ((laws_markShardS.f k t505 1).bind fun bt518 => (if bt518.1 < 0 then (laws_FnExactRepair.j0 k a0 a1 l2 true t500 t503 t508 t511) else ((laws_eqShardsOut.f k t508 t511 t500 t503).bind fun t520 => (laws_FnExactRepair.j0 k a0 a1 l2 (!t520) t500 t503 t508 t511)))) else (none))) = some r := H
   have A13 := Aside0.mk A130
   clear A130
   replace H := Option.bind_eq_some_iff.mp H
   obtain ⟨t517, A140, H⟩ := H
   replace H : (if t517 = true then ((laws_markShardS.f k t505 1).bind fun bt518 => (if bt518.1 < 0 then (laws_FnExactRepair.j0 k a0 a1 l2 true t500 t503 t508 t511) else ((laws_eqShardsOut.f k t508 t511 t500 t503).bind fun t520 => (laws_FnExactRepair.j0 k a0 a1 l2 (!t520) t500 t503 t508 t511)))) else (none)) = some r := H
   have A14 := Aside0.mk A140
   clear A140
   by_cases c15 : t517 = true
   ·subst c15
    have H1 : ((laws_markShardS.f k t505 1).bind fun bt518 => (if bt518.1 < 0 then (laws_FnExactRepair.j0 k a0 a1 l2 true t500 t503 t508 t511) else ((laws_eqShardsOut.f k t508 t511 t500 t503).bind fun t520 => (laws_FnExactRepair.j0 k a0 a1 l2 (!t520) t500 t503 t508 t511)))) = some r := by rw [if_pos rfl] at H; exact H
    clear H
    have H := H1
    clear H1
    replace H := Option.bind_eq_some_iff.mp H
    obtain ⟨⟨t518, t519⟩, A160, H⟩ := H
    replace H : (if t518 < 0 then (laws_FnExactRepair.j0 k a0 a1 l2 true t500 t503 t508 t511) else ((laws_eqShardsOut.f k t508 t511 t500 t503).bind fun t520 => (laws_FnExactRepair.j0 k a0 a1 l2 (!t520) t500 t503 t508 t511))) = some r := H
    have A16 := Aside0.mk A160
    clear A160
    have HC17 := Aside0.mk H
    clear H
    go_enter Try.func13, Try.ntmps13
    go_upto_region 14 with (first | ((with_reducible refine gate_callee (f := 55) rfl ?_); refine goesL_ (some 17) rfl rfl Try.func55 (by kernel_rfl) rfl #[.slice A2 l2.length c2, .int .i64 1048576] rfl (by (try simp only [List.map_toArray, List.map_cons, List.map_nil]); first | done | rfl | (simp only [List.length_drop, List.length_take]; rfl)) ?_; (with_reducible refine (laws_szShardS.calls k _ _ l2 1048576 t496 _ ?side1 ?side2 A4.out).mono ?_); (case side1 => repeat (first | exact HR2.out | (with_reducible refine Kd.C_alloc ?_ _) | (with_reducible refine Kd.C_drewN ?_ _) | (with_reducible refine Kd.C_drew ?_))); (case side2 => exact HC2.out); rintro e w18 ⟨rfl, hb⟩; refine ⟨_, rfl, ?_⟩; replace HB := Aside0.mk (below_step (Cz.w HB.out) hb); (try clear hb); (try clear hb2); (try clear hk); (try clear hi)) | ((with_reducible refine gate_callee (f := 57) rfl ?_); refine goesL_ (some 23) rfl rfl Try.func57 (by kernel_rfl) rfl #[.slice A2 l2.length c2] rfl (by (try simp only [List.map_toArray, List.map_cons, List.map_nil]); first | done | rfl | (simp only [List.length_drop, List.length_take]; rfl)) ?_; (with_reducible refine (laws_toShardS.calls k _ _ l2 t497 _ ?side1 ?side2 A7.out).mono ?_); (case side1 => exact Cz.c HR2.out HB.out); (case side2 => exact HC2.out); rintro e w19 ⟨v498, rfl, ho0, hb⟩; refine ⟨_, rfl, ?_⟩; have n_ := Cy.a2 (Kd.R_lower ho0 (below_size (Cz.w HB.out))) (below_step (Cz.w HB.out) hb); clear HB; obtain ⟨HO499, HB⟩ := n_; (try clear hb); (try clear hb2); (try clear hk); (try clear hi); (try clear ho0); obtain ⟨Ao20, co20, eo20⟩ := Kd.R_slice HO499.out; subst eo20) | ((with_reducible refine gate_callee (f := 56) rfl ?_); refine goesL_ (some 24) rfl rfl Try.func56 (by kernel_rfl) rfl #[.int .i64 a0, .int .i64 a1, .slice Ao20 t497.length co20] rfl (by (try simp only [List.map_toArray, List.map_cons, List.map_nil]); first | done | rfl | (simp only [List.length_drop, List.length_take]; rfl)) ?_; (with_reducible refine (spec_Repair.calls k a0 a1 _ _ t497 t500 t503 _ ?side1 ?side2 A8.out).mono ?_); (case side1 => repeat (first | exact (Kd.R_reads' HO499.out).2.2 | (with_reducible refine Kd.C_alloc ?_ _) | (with_reducible refine Kd.C_drewN ?_ _) | (with_reducible refine Kd.C_drew ?_))); (case side2 => exact (Kd.R_reads' HO499.out).2.1); rintro e w21 ⟨v501, rfl, ho0, hb⟩; refine ⟨_, rfl, ?_⟩; have n_ := Cy.a3 (Kd.R_below (Cz.r HO499.out) hb) (Kd.R_lower ho0 (below_size (Cz.w HB.out))) (below_step (Cz.w HB.out) hb); clear HO499 HB; obtain ⟨HO499, HO502, HB⟩ := n_; (try clear hb); (try clear hb2); (try clear hk); (try clear hi); (try clear ho0)) | ((with_reducible refine gate_dst (N := 8) rfl ?_); refine box_event ?hg (N := 8) ?hd (cs := #[.slice none 0 0, .int .i64 0]) (t := 61) ?hr ?_; (case hd => rfl); (case hg => rfl); (case hr => first | (go_simp; done) | (go_simp; rfl)); intro gb504 hg w22 hbox hb; have n_ := Cy.a6 (Kd.R_below (Cz.r HO499.out) hb) (Kd.R_below (Cz.r HO502.out) hb) (below_step (Cz.w HB.out) hb) hbox (Cy.gw hg HB.out) (Cy.gw hg HB.out); clear HO499 HO502 HB; obtain ⟨HO499, HO502, HB, BK504, GW504, GE504⟩ := n_; clear hb hbox hg; obtain ⟨Ao23, co23, eo23⟩ := Kd.R_slice HO502.out; subst eo23; obtain ⟨hcz24_0, hcz24_1, hfz24_0, hfz24_1⟩ := Cy.z2 BK504.out) | ((with_reducible refine gate_callee (f := 57) rfl ?_); refine goesL_ (some 26) rfl rfl Try.func57 (by kernel_rfl) rfl #[.slice A2 l2.length c2] rfl (by (try simp only [List.map_toArray, List.map_cons, List.map_nil]); first | done | rfl | (simp only [List.length_drop, List.length_take]; rfl)) ?_; (with_reducible refine (laws_toShardS.calls k _ _ l2 t505 _ ?side1 ?side2 A9.out).mono ?_); (case side1 => exact Kd.C_below HR2.out (Cz.w HB.out)); (case side2 => exact HC2.out); rintro e w25 ⟨v506, rfl, ho0, hb⟩; refine ⟨_, rfl, ?_⟩; have n_ := Cy.a5 (Kd.R_elder' (Cz.q2 HO499.out BK504.out) (Kd.R_base ho0) hb) (Kd.R_below (Cz.q2 HO502.out BK504.out) hb) (Kd.R_lower (Kd.R_new' ho0 (Kd.R_lt (Cz.q2 HO499.out BK504.out))) (below_size (Cz.w HB.out))) (blk_below (g := gb504) (o := .cells #[.slice Ao23 t500.length co23, .int .i64 t503] 61 (0, 0)) (by (with_reducible repeat (first | refine blk_drewN ?_ _ | refine blk_drew ?_ | refine blk_alloc ?_ _)); refine blk_put (cs := #[.slice Ao23 t500.length co23, .int .i64 0]) ?_ 1 _ rfl; (with_reducible repeat (first | refine blk_drewN ?_ _ | refine blk_drew ?_ | refine blk_alloc ?_ _)); refine blk_put (cs := #[.slice none 0 0, .int .i64 0]) ?_ 0 _ rfl; (with_reducible repeat (first | refine blk_drewN ?_ _ | refine blk_drew ?_ | refine blk_alloc ?_ _)); exact BK504.out) hb) (below_step (Cz.w HB.out) hb); clear HO499 HO502 BK504 HB; obtain ⟨HO499, HO502, HO507, BK504, HB⟩ := n_; (try clear hb); (try clear hb2); (try clear hk); (try clear hi); (try clear ho0); obtain ⟨Ao26, co26, eo26⟩ := Kd.R_slice HO507.out; subst eo26) | ((with_reducible refine gate_callee (f := 58) rfl ?_); refine goesL_ (some 30) rfl rfl Try.func58 (by kernel_rfl) rfl #[.int .i64 a0, .int .i64 a1, .slice Ao26 t505.length co26] rfl (by (try simp only [List.map_toArray, List.map_cons, List.map_nil]); first | done | rfl | (simp only [List.length_drop, List.length_take]; rfl)) ?_; (with_reducible refine (impl_Repair.calls k a0 a1 _ _ t505 t508 t511 _ ?side1 ?side2 A10.out).mono ?_); (case side1 => repeat (first | exact (Kd.R_reads' HO507.out).2.2 | (with_reducible refine Kd.C_alloc ?_ _) | (with_reducible refine Kd.C_drewN ?_ _) | (with_reducible refine Kd.C_drew ?_))); (case side2 => exact (Kd.R_reads' HO507.out).2.1); rintro e w27 ⟨v509, rfl, ho0, hb⟩; refine ⟨_, rfl, ?_⟩; have n_ := Cy.a6 (Kd.R_below (Cz.r HO499.out) hb) (Kd.R_elder' (Cz.r HO502.out) (Kd.R_base ho0) hb) (Kd.R_below (Cz.r HO507.out) hb) (Kd.R_lower (Kd.R_new' ho0 (Kd.R_lt (Cz.r HO502.out))) (below_size (Cz.w HB.out))) (blk_below (g := gb504) (o := .cells #[.slice Ao23 t500.length co23, .int .i64 t503] 61 (0, 0)) (Cz.b BK504.out) hb) (below_step (Cz.w HB.out) hb); clear HO499 HO502 HO507 BK504 HB; obtain ⟨HO499, HO502, HO507, HO510, BK504, HB⟩ := n_; (try clear hb); (try clear hb2); (try clear hk); (try clear hi); (try clear ho0)) | ((with_reducible refine gate_dst (N := 10) rfl ?_); refine box_event ?hg (N := 10) ?hd (cs := #[.slice none 0 0, .int .i64 0]) (t := 61) ?hr ?_; (case hd => rfl); (case hg => rfl); (case hr => first | (go_simp; done) | (go_simp; rfl)); intro gb512 hg w28 hbox hb; have n_ := Cy.a11 (Kd.R_below (Cz.r HO499.out) hb) (Kd.R_below (Cz.r HO502.out) hb) (Kd.R_below (Cz.r HO507.out) hb) (Kd.R_below (Cz.r HO510.out) hb) (blk_below (g := gb504) (o := .cells #[.slice Ao23 t500.length co23, .int .i64 t503] 61 (0, 0)) (Cz.b BK504.out) hb) (below_step (Cz.w HB.out) hb) hbox (Cy.gw hg HB.out) (Cy.gw hg HB.out) (by rw [hg]; exact Nat.ne_of_lt (blk_lt (g := gb504) (o := .cells #[.slice Ao23 t500.length co23, .int .i64 t503] 61 (0, 0)) (Cz.b BK504.out)) : gb504 ≠ gb512) (by rw [hg]; exact Nat.ne_of_gt (blk_lt (g := gb504) (o := .cells #[.slice Ao23 t500.length co23, .int .i64 t503] 61 (0, 0)) (Cz.b BK504.out)) : gb512 ≠ gb504); clear HO499 HO502 HO507 HO510 BK504 HB; obtain ⟨HO499, HO502, HO507, HO510, BK504, HB, BK512, GW512, GE512, NB504_512, NB512_504⟩ := n_; clear hb hbox hg; obtain ⟨Ao29, co29, eo29⟩ := Kd.R_slice HO510.out; subst eo29; have hnb30 := NB512_504.out; have hnc30 := NB504_512.out; obtain ⟨hcz31_0, hcz31_1, hfz31_0, hfz31_1⟩ := Cy.z2 BK512.out; obtain ⟨hcz32_0, hcz32_1, hfz32_0, hfz32_1⟩ := Cy.z2 BK504.out) | ((with_reducible refine gate_callee (f := 52) rfl ?_); refine goesL_ (some 33) rfl rfl Try.func52 (by kernel_rfl) rfl #[.agg #[.slice Ao29 t508.length co29, .int .i64 t511], .agg #[.slice Ao23 t500.length co23, .int .i64 t503]] rfl (by (try simp only [List.map_toArray, List.map_cons, List.map_nil]); first | done | rfl | (simp only [List.length_drop, List.length_take]; rfl)) ?_; (with_reducible refine (laws_eqShardsOut.calls k _ _ t508 t511 _ _ t500 t503 true _ ?side1 ?side2 ?side3 ?side4 A11.out).mono ?_); (case side1 => refine (Kd.R_reads' (e := 9) (base := w.heap.size) (ok := fun k_ => (True ∧ some k_ ≠ (.slice Ao23 t500.length co23 : Value).ownBlock)) (n := t508.length) (c := co29) ?_).2.2; exact (Cz.q2 HO510.out BK512.out)); (case side2 => exact (Kd.R_reads' HO510.out).2.1); (case side3 => refine (Kd.R_reads' (e := 9) (base := w.heap.size) (ok := fun k_ => (True ∧ some k_ ≠ (.slice Ao29 t508.length co29 : Value).ownBlock)) (n := t500.length) (c := co23) ?_).2.2; exact (Cz.q2 HO502.out BK512.out)); (case side4 => exact (Kd.R_reads' HO502.out).2.1); rintro e w33 ⟨rfl, hb⟩; refine ⟨_, rfl, ?_⟩; have n_ := Cy.a7 (Kd.R_below (Cz.q2 HO499.out BK512.out) hb) (Kd.R_below (Cz.q2 HO502.out BK512.out) hb) (Kd.R_below (Cz.q2 HO507.out BK512.out) hb) (Kd.R_below (Cz.q2 HO510.out BK512.out) hb) (blk_below (g := gb504) (o := .cells #[.slice Ao23 t500.length co23, .int .i64 t503] 61 (0, 0)) (Cz.f BK504.out NB504_512.out) hb) (blk_below (g := gb512) (o := .cells #[.slice Ao29 t508.length co29, .int .i64 t511] 61 (0, 0)) (by (with_reducible repeat (first | refine blk_drewN ?_ _ | refine blk_drew ?_ | refine blk_alloc ?_ _)); refine blk_put (cs := #[.slice Ao29 t508.length co29, .int .i64 0]) ?_ 1 _ rfl; (with_reducible repeat (first | refine blk_drewN ?_ _ | refine blk_drew ?_ | refine blk_alloc ?_ _)); refine blk_put (cs := #[.slice none 0 0, .int .i64 0]) ?_ 0 _ rfl; (with_reducible repeat (first | refine blk_drewN ?_ _ | refine blk_drew ?_ | refine blk_alloc ?_ _)); exact BK512.out) hb) (below_step (Cz.w HB.out) hb); clear HO499 HO502 HO507 HO510 BK504 BK512 HB; obtain ⟨HO499, HO502, HO507, HO510, BK504, BK512, HB⟩ := n_; (try clear hb); (try clear hb2); (try clear hk); (try clear hi)) | ((with_reducible refine gate_callee (f := 57) rfl ?_); refine goesL_ (some 37) rfl rfl Try.func57 (by kernel_rfl) rfl #[.slice A2 l2.length c2] rfl (by (try simp only [List.map_toArray, List.map_cons, List.map_nil]); first | done | rfl | (simp only [List.length_drop, List.length_take]; rfl)) ?_; (with_reducible refine (laws_toShardS.calls k _ _ l2 t514 _ ?side1 ?side2 A13.out).mono ?_); (case side1 => exact Cz.c HR2.out HB.out); (case side2 => exact HC2.out); rintro e w34 ⟨v515, rfl, ho0, hb⟩; refine ⟨_, rfl, ?_⟩; have n_ := Cy.a8 (Kd.R_elder' (Cz.r HO499.out) (Kd.R_base ho0) hb) (Kd.R_below (Cz.r HO502.out) hb) (Kd.R_elder' (Cz.r HO507.out) (Kd.R_base ho0) hb) (Kd.R_below (Cz.r HO510.out) hb) (Kd.R_lower (Kd.R_new' (Kd.R_new' ho0 (Kd.R_lt (Cz.r HO499.out))) (Kd.R_lt (Cz.r HO507.out))) (below_size (Cz.w HB.out))) (blk_below (g := gb504) (o := .cells #[.slice Ao23 t500.length co23, .int .i64 t503] 61 (0, 0)) (Cz.b BK504.out) hb) (blk_below (g := gb512) (o := .cells #[.slice Ao29 t508.length co29, .int .i64 t511] 61 (0, 0)) (Cz.b BK512.out) hb) (below_step (Cz.w HB.out) hb); clear HO499 HO502 HO507 HO510 BK504 BK512 HB; obtain ⟨HO499, HO502, HO507, HO510, HO516, BK504, BK512, HB⟩ := n_; (try clear hb); (try clear hb2); (try clear hk); (try clear hi); (try clear ho0); obtain ⟨Ao35, co35, eo35⟩ := Kd.R_slice HO516.out; subst eo35) | ((with_reducible refine gate_callee (f := 59) rfl ?_); refine goesL_ (some 38) rfl rfl Try.func59 (by kernel_rfl) rfl #[.slice Ao26 t505.length co26, .slice Ao35 t514.length co35] rfl (by (try simp only [List.map_toArray, List.map_cons, List.map_nil]); first | done | rfl | (simp only [List.length_drop, List.length_take]; rfl)) ?_; (with_reducible refine (laws_eqShardS.calls k _ _ t505 _ _ t514 true _ ?side1 ?side2 ?side3 ?side4 A14.out).mono ?_); (case side1 => repeat (first | exact (Kd.R_reads' HO507.out).2.2 | (with_reducible refine Kd.C_alloc ?_ _) | (with_reducible refine Kd.C_drewN ?_ _) | (with_reducible refine Kd.C_drew ?_))); (case side2 => exact (Kd.R_reads' HO507.out).2.1); (case side3 => repeat (first | exact (Kd.R_reads' HO516.out).2.2 | (with_reducible refine Kd.C_alloc ?_ _) | (with_reducible refine Kd.C_drewN ?_ _) | (with_reducible refine Kd.C_drew ?_))); (case side4 => exact (Kd.R_reads' HO516.out).2.1); rintro e w36 ⟨rfl, hb⟩; refine ⟨_, rfl, ?_⟩; have n_ := Cy.a8 (Kd.R_below (Cz.r HO499.out) hb) (Kd.R_below (Cz.r HO502.out) hb) (Kd.R_below (Cz.r HO507.out) hb) (Kd.R_below (Cz.r HO510.out) hb) (Kd.R_below (Cz.r HO516.out) hb) (blk_below (g := gb504) (o := .cells #[.slice Ao23 t500.length co23, .int .i64 t503] 61 (0, 0)) (Cz.b BK504.out) hb) (blk_below (g := gb512) (o := .cells #[.slice Ao29 t508.length co29, .int .i64 t511] 61 (0, 0)) (Cz.b BK512.out) hb) (below_step (Cz.w HB.out) hb); clear HO499 HO502 HO507 HO510 HO516 BK504 BK512 HB; obtain ⟨HO499, HO502, HO507, HO510, HO516, BK504, BK512, HB⟩ := n_; (try clear hb); (try clear hb2); (try clear hk); (try clear hi)) | ((with_reducible refine gate_callee (f := 60) rfl ?_); refine goesL_ (some 42) rfl rfl Try.func60 (by kernel_rfl) rfl #[.slice Ao26 t505.length co26, .int .i64 1] rfl (by (try simp only [List.map_toArray, List.map_cons, List.map_nil]); first | done | rfl | (simp only [List.length_drop, List.length_take]; rfl)) ?_; (with_reducible refine (laws_markShardS.calls k (fun k_ => some k_ = (.slice Ao26 t505.length co26 : Value).ownBlock) (.slice Ao26 t505.length co26) t505 1 t518 t519 w _ ?side1 ?side2 A16.out).mono ?_); (case side1 => repeat (first | (with_reducible first | exact HB.out | apply below_alloc | apply pw_below_drewN | apply below_drew1 | refine below_set ?_ GE504.out | refine below_set ?_ GE512.out) | exact HB.out)); (case side2 => exact Kd.R_tight rfl HO507.out); rintro e w37 ⟨rfl, hy0, hb, hkp⟩; refine ⟨_, rfl, ?_⟩; have n_ := Cy.a8 (Kd.R_mono (ok' := fun k_ => some k_ ≠ (.slice Ao26 t505.length co26 : Value).ownBlock ∧ some k_ ≠ (.slice Ao35 t514.length co35 : Value).ownBlock) (Kd.R_keptB (HO499.out) hkp (fun k_ hk_ hs_ => (hk_.1.2) hs_)) (fun k_ hk_ => ⟨hk_.1.1.2, hk_.1.2⟩)) (Kd.R_mono (ok' := fun k_ => some k_ ≠ (.slice Ao29 t508.length co29 : Value).ownBlock) (Kd.R_keptB ((Kd.R_apart' HO502.out (Kd.R_typed HO507.out) (by decide))) hkp (fun k_ hk_ hs_ => (hk_.2) hs_)) (fun k_ hk_ => hk_.1.1.2)) (blk_kept (Cz.b BK504.out) hkp (fun hs_ => (fun e_ => (Kd.R_ne HO507.out BK504.out (by decide)) e_) hs_)) (Kd.R_reok rfl hy0 (fun k_ e_ => HO507.out.1 k_ e_)) (Kd.R_mono (ok' := fun k_ => some k_ ≠ (.slice Ao23 t500.length co23 : Value).ownBlock) (Kd.R_keptB ((Kd.R_apart' HO510.out (Kd.R_typed HO507.out) (by decide))) hkp (fun k_ hk_ hs_ => (hk_.2) hs_)) (fun k_ hk_ => hk_.1.1.2)) (blk_kept (Cz.b BK512.out) hkp (fun hs_ => (fun e_ => (Kd.R_ne HO507.out BK512.out (by decide)) e_) hs_)) (Kd.R_mono (ok' := fun k_ => some k_ ≠ (.slice Ao20 t497.length co20 : Value).ownBlock ∧ some k_ ≠ (.slice Ao26 t505.length co26 : Value).ownBlock) (Kd.R_keptB (HO516.out) hkp (fun k_ hk_ hs_ => (hk_.2) hs_)) (fun k_ hk_ => ⟨hk_.1.1.2, hk_.1.2⟩)) hb; clear HO499 HO502 BK504 HO507 HO510 BK512 HO516 HB; obtain ⟨HO499, HO502, BK504, HO507, HO510, BK512, HO516, HB⟩ := n_; (try clear hb); (try clear hkp); (try clear hy0)))
    (try simp only [Act.put, List.setIfInBounds_toArray, List.set_cons_zero, List.set_cons_succ])
    go_cut [50] (fun v50 wc => ∃ (kq : Nat) (x50_16 : Bool), v50 = .bool x50_16 ∧ Aside0 (laws_FnExactRepair.j0 kq a0 a1 l2 x50_16 t500 t503 t508 t511 = some r) ∧ Aside0 (kq ≤ k) ∧ Aside0 (Kd.R Kd.string 9 wc w.heap.size (fun k_ => some k_ ≠ ((.slice Ao29 t508.length co29) : Value).ownBlock) (.slice Ao23 t500.length co23) t500) ∧ Aside0 (Kd.R Kd.string 9 wc w.heap.size (fun k_ => some k_ ≠ ((.slice Ao23 t500.length co23) : Value).ownBlock) (.slice Ao29 t508.length co29) t508) ∧ Aside0 (wc.heap[gb504]? = some (.cells #[(.slice Ao23 t500.length co23), .int .i64 t503] 61 (0, 0))) ∧ Aside0 (wc.heap[gb512]? = some (.cells #[(.slice Ao29 t508.length co29), .int .i64 t511] 61 (0, 0))) ∧ Aside0 (Below w.heap.size w wc))
    case first =>
     have H := HC17.out
     clear HC17
     by_cases c38 : t518 < 0
     ·rw [if_pos c38] at H
      have c38b0 : decide (t518 < 0) = true := decide_eq_true c38
      clear c38
      (first | rw [c38b0] | (simp only [i64_w, i32_w]; rw [c38b0]) | skip)
      have H' := Aside0.mk H
      clear H
      go_wp2
      go_meet
      case rel => exact ⟨_, (true), (by first | rfl | (simp; done) | (simp [*]; done)), H', ⟨by first | omega | exact Nat.le_refl _⟩, ⟨Cz.r HO502.out⟩, ⟨Cz.r HO510.out⟩, ⟨Cz.b BK504.out⟩, ⟨Cz.b BK512.out⟩, ⟨Cz.w HB.out⟩⟩
     ·rw [if_neg c38] at H
      have c38b0 : decide (t518 < 0) = false := decide_eq_false c38
      clear c38
      (first | rw [c38b0] | (simp only [i64_w, i32_w]; rw [c38b0]) | skip)
      replace H := Option.bind_eq_some_iff.mp H
      obtain ⟨t520, A390, H⟩ := H
      replace H : (laws_FnExactRepair.j0 k a0 a1 l2 (!t520) t500 t503 t508 t511) = some r := H
      have A39 := Aside0.mk A390
      clear A390
      have H' := Aside0.mk H
      clear H
      have hnb40 := NB512_504.out
      have hnc40 := NB504_512.out
      obtain ⟨hcz41_0, hcz41_1, hfz41_0, hfz41_1⟩ := Cy.z2 BK512.out
      obtain ⟨hcz42_0, hcz42_1, hfz42_0, hfz42_1⟩ := Cy.z2 BK504.out
      go_wp2_with (first | (go_at_call 52; (with_reducible refine (laws_eqShardsOut.calls k _ _ t508 t511 _ _ t500 t503 t520 _ ?side1 ?side2 ?side3 ?side4 A39.out).mono ?_); (case side1 => repeat (first | exact (Kd.R_reads' HO510.out).2.2 | (with_reducible refine Kd.C_alloc ?_ _) | (with_reducible refine Kd.C_drewN ?_ _) | (with_reducible refine Kd.C_drew ?_))); (case side2 => exact (Kd.R_reads' HO510.out).2.1); (case side3 => repeat (first | exact (Kd.R_reads' HO502.out).2.2 | (with_reducible refine Kd.C_alloc ?_ _) | (with_reducible refine Kd.C_drewN ?_ _) | (with_reducible refine Kd.C_drew ?_))); (case side4 => exact (Kd.R_reads' HO502.out).2.1); rintro e w43 ⟨rfl, hb⟩; have n_ := Cy.a8 (Kd.R_below (Cz.r HO499.out) hb) (Kd.R_below (Cz.r HO502.out) hb) (Kd.R_below (Cz.r HO507.out) hb) (Kd.R_below (Cz.r HO510.out) hb) (Kd.R_below (Cz.r HO516.out) hb) (blk_below (g := gb504) (o := .cells #[.slice Ao23 t500.length co23, .int .i64 t503] 61 (0, 0)) (Cz.b BK504.out) hb) (blk_below (g := gb512) (o := .cells #[.slice Ao29 t508.length co29, .int .i64 t511] 61 (0, 0)) (Cz.b BK512.out) hb) (below_step (Cz.w HB.out) hb); clear HO499 HO502 HO507 HO510 HO516 BK504 BK512 HB; obtain ⟨HO499, HO502, HO507, HO510, HO516, BK504, BK512, HB⟩ := n_; (try clear hb); (try clear hb2); (try clear hk); (try clear hi)))
      go_meet
      case rel => exact ⟨_, (!t520), (by first | rfl | (simp; done) | (simp [*]; done)), H', ⟨by first | omega | exact Nat.le_refl _⟩, ⟨Cz.r HO502.out⟩, ⟨Cz.r HO510.out⟩, ⟨Cz.b BK504.out⟩, ⟨Cz.b BK512.out⟩, ⟨Cz.w HB.out⟩⟩
    case rest =>
     clear HC17
     try clear c1
     try clear c2
     try clear p2
     try clear c3
     try clear c4
     try clear c5
     try clear c5b0
     try clear c6
     try clear c12
     try clear c13
     try clear c15
     try clear c30
     try clear c38
     try clear c38b0
     try clear c40
     try clear hcz24_0
     try clear hcz24_1
     try clear hcz31_0
     try clear hcz31_1
     try clear hcz32_0
     try clear hcz32_1
     try clear hcz41_0
     try clear hcz41_1
     try clear hcz42_0
     try clear hcz42_1
     try clear hfz24_0
     try clear hfz24_1
     try clear hfz31_0
     try clear hfz31_1
     try clear hfz32_0
     try clear hfz32_1
     try clear hfz41_0
     try clear hfz41_1
     try clear hfz42_0
     try clear hfz42_1
     obtain ⟨kq, x50_16, rfl, HA, HJ16, HO_505000, HO_513000, BK504, BK512, HB⟩ := hcut
     cases kq with
     | zero => exact absurd HA.out (by simp [laws_FnExactRepair.j0])
     | succ kj16 =>
      have H := HA.out
      clear HA
      simp only [laws_FnExactRepair.j0] at H
      by_cases c44 : x50_16 = true
      ·subst c44
       have H1 : (none) = some r := by rw [if_pos rfl] at H; exact H
       clear H
       have H := H1
       clear H1
       exact absurd H (by simp)
      ·replace c44 := Bool.eq_false_iff.mpr c44
       subst c44
       have H1 : ((laws_markShardsOut.f kj16 t508 t511 1).bind fun bt521 => ((laws_heldShardsOut.f kj16 bt521.2 t511 1).bind fun t523 => (if t523 < 0 then (none) else (if t523 = bt521.1 then ((laws_toShardS.f kj16 l2).bind fun t524 => ((impl_Repair.f kj16 a0 a1 t524).bind fun bt527 => ((laws_eqShardsOut.f kj16 bt527.1 bt527.2 t500 t503).bind fun t532 => (if t532 = true then ((laws_heldShardsOut.f kj16 bt521.2 t511 1).bind fun t533 => (if t533 < 0 then (none) else (if t533 = bt521.1 then (some true) else (none)))) else (none))))) else (none))))) = some r := by rw [if_neg (show ¬ (false = true) by decide)] at H; exact H
       clear H
       have H := H1
       clear H1
       replace H := Option.bind_eq_some_iff.mp H
       obtain ⟨⟨t521, t522⟩, A450, H⟩ := H
       replace H : ((laws_heldShardsOut.f kj16 t522 t511 1).bind fun t523 => (if t523 < 0 then (none) else (if t523 = t521 then ((laws_toShardS.f kj16 l2).bind fun t524 => ((impl_Repair.f kj16 a0 a1 t524).bind fun bt527 => ((laws_eqShardsOut.f kj16 bt527.1 bt527.2 t500 t503).bind fun t532 => (if t532 = true then ((laws_heldShardsOut.f kj16 t522 t511 1).bind fun t533 => (if t533 < 0 then (none) else (if t533 = t521 then (some true) else (none)))) else (none))))) else (none)))) = some r := H
       have A45 := Aside0.mk A450
       clear A450
       replace H := Option.bind_eq_some_iff.mp H
       obtain ⟨t523, A460, H⟩ := H
       replace H : (if t523 < 0 then (none) else (if t523 = t521 then ((laws_toShardS.f kj16 l2).bind fun t524 => ((impl_Repair.f kj16 a0 a1 t524).bind fun bt527 => ((laws_eqShardsOut.f kj16 bt527.1 bt527.2 t500 t503).bind fun t532 => (if t532 = true then ((laws_heldShardsOut.f kj16 t522 t511 1).bind fun t533 => (if t533 < 0 then (none) else (if t533 = t521 then (some true) else (none)))) else (none))))) else (none))) = some r := H
       have A46 := Aside0.mk A460
       clear A460
       by_cases c47 : t523 < 0
       ·rw [if_pos c47] at H
        exact absurd H (by simp)
       ·rw [if_neg c47] at H
        have c47b0 : decide (t523 < 0) = false := decide_eq_false c47
        clear c47
        by_cases c48 : t523 = t521
        ·rw [if_pos c48] at H
         have c48b0 : (t523 == t521) = true := beq_iff_eq.mpr c48
         have c48b1 : (t523 != t521) = false := bne_eq_false_iff_eq.mpr c48
         clear c48
         replace H := Option.bind_eq_some_iff.mp H
         obtain ⟨t524, A490, H⟩ := H
         replace H : ((impl_Repair.f kj16 a0 a1 t524).bind fun bt527 => ((laws_eqShardsOut.f kj16 bt527.1 bt527.2 t500 t503).bind fun t532 => (if t532 = true then ((laws_heldShardsOut.f kj16 t522 t511 1).bind fun t533 => (if t533 < 0 then (none) else (if t533 = t521 then (some true) else (none)))) else (none)))) = some r := H
         have A49 := Aside0.mk A490
         clear A490
         replace H := Option.bind_eq_some_iff.mp H
         obtain ⟨⟨t527, t530⟩, A500, H⟩ := H
         replace H : ((laws_eqShardsOut.f kj16 t527 t530 t500 t503).bind fun t532 => (if t532 = true then ((laws_heldShardsOut.f kj16 t522 t511 1).bind fun t533 => (if t533 < 0 then (none) else (if t533 = t521 then (some true) else (none)))) else (none))) = some r := H
         have A50 := Aside0.mk A500
         clear A500
         replace H := Option.bind_eq_some_iff.mp H
         obtain ⟨t532, A510, H⟩ := H
         replace H : (if t532 = true then ((laws_heldShardsOut.f kj16 t522 t511 1).bind fun t533 => (if t533 < 0 then (none) else (if t533 = t521 then (some true) else (none)))) else (none)) = some r := H
         have A51 := Aside0.mk A510
         clear A510
         by_cases c52 : t532 = true
         ·subst c52
          have H1 : ((laws_heldShardsOut.f kj16 t522 t511 1).bind fun t533 => (if t533 < 0 then (none) else (if t533 = t521 then (some true) else (none)))) = some r := by rw [if_pos rfl] at H; exact H
          clear H
          have H := H1
          clear H1
          replace H := Option.bind_eq_some_iff.mp H
          obtain ⟨t533, A530, H⟩ := H
          replace H : (if t533 < 0 then (none) else (if t533 = t521 then (some true) else (none))) = some r := H
          have A53 := Aside0.mk A530
          clear A530
          by_cases c54 : t533 < 0
          ·rw [if_pos c54] at H
           exact absurd H (by simp)
          ·rw [if_neg c54] at H
           have c54b0 : decide (t533 < 0) = false := decide_eq_false c54
           clear c54
           by_cases c55 : t533 = t521
           ·rw [if_pos c55] at H
            have c55b0 : (t533 == t521) = true := beq_iff_eq.mpr c55
            have c55b1 : (t533 != t521) = false := bne_eq_false_iff_eq.mpr c55
            clear c55
            obtain rfl := Option.some.inj H
            have hnb56 := NB512_504.out
            have hnc56 := NB504_512.out
            obtain ⟨hcz57_0, hcz57_1, hfz57_0, hfz57_1⟩ := Cy.z2 BK512.out
            go_wp2_with (first | ((with_reducible refine gate_callee (f := 53) rfl ?_); refine goesL_ (some 53) rfl rfl Try.func53 (by kernel_rfl) rfl #[.agg #[.slice Ao29 t508.length co29, .int .i64 t511], .int .i64 1] rfl (by (try simp only [List.map_toArray, List.map_cons, List.map_nil]); first | done | rfl | (simp only [List.length_drop, List.length_take]; rfl)) ?_; (with_reducible refine (laws_markShardsOut.calls kj16 (fun k_ => some k_ = (.slice Ao29 t508.length co29 : Value).ownBlock) (.slice Ao29 t508.length co29) t508 t511 1 t521 t522 w _ ?side1 ?side2 A45.out).mono ?_); (case side1 => repeat (first | (with_reducible first | exact HB.out | apply below_alloc | apply pw_below_drewN | apply below_drew1 | refine below_set ?_ GE504.out | refine below_set ?_ GE512.out) | exact HB.out)); (case side2 => exact Kd.R_tight rfl HO_513000.out); rintro e w58 ⟨rfl, hy0, hb, hkp⟩; refine ⟨_, rfl, ?_⟩; have n_ := Cy.a5 (Kd.R_mono (ok' := fun k_ => some k_ ≠ (.slice Ao29 t508.length co29 : Value).ownBlock) (Kd.R_keptB (HO_505000.out) hkp (fun k_ hk_ hs_ => (hk_) hs_)) (fun k_ hk_ => hk_.1)) (Kd.R_reok rfl hy0 (fun k_ e_ => HO_513000.out.1 k_ e_)) (blk_kept (Cz.b BK504.out) hkp (fun hs_ => (fun e_ => (Kd.R_ne HO_513000.out BK504.out (by decide)) e_) hs_)) (blk_kept (Cz.b BK512.out) hkp (fun hs_ => (fun e_ => (Kd.R_ne HO_513000.out BK512.out (by decide)) e_) hs_)) hb; clear HO_505000 HO_513000 BK504 BK512 HB; obtain ⟨HO_505000, HO_513000, BK504, BK512, HB⟩ := n_; (try clear hb); (try clear hkp); (try clear hy0); obtain ⟨hcz59_0, hcz59_1, hfz59_0, hfz59_1⟩ := Cy.z2 BK512.out) | ((with_reducible refine gate_callee (f := 54) rfl ?_); refine goesL_ (some 56) rfl rfl Try.func54 (by kernel_rfl) rfl #[.agg #[.slice Ao29 t522.length co29, .int .i64 t511], .int .i64 1] rfl (by (try simp only [List.map_toArray, List.map_cons, List.map_nil]); first | done | (rw [show t522.length = t508.length from (Kd.R_reads' HO_513000.out).1.symm] <;> rfl) | rfl | (simp only [List.length_drop, List.length_take]; rfl)) ?_; (with_reducible refine (laws_heldShardsOut.calls kj16 _ _ t522 t511 1 t523 _ ?side1 ?side2 A46.out).mono ?_); (case side1 => repeat (first | exact (Kd.R_reads' HO_513000.out).2.2 | (with_reducible refine Kd.C_alloc ?_ _) | (with_reducible refine Kd.C_drewN ?_ _) | (with_reducible refine Kd.C_drew ?_))); (case side2 => rw [show t522.length = t508.length from (Kd.R_reads' HO_513000.out).1.symm]; exact (Kd.R_reads' HO_513000.out).2.1); rintro e w60 ⟨rfl, hb⟩; refine ⟨_, rfl, ?_⟩; have n_ := Cy.a5 (Kd.R_below (Cz.r HO_505000.out) hb) (Kd.R_below (Cz.r HO_513000.out) hb) (blk_below (g := gb504) (o := .cells #[.slice Ao23 t500.length co23, .int .i64 t503] 61 (0, 0)) (Cz.b BK504.out) hb) (blk_below (g := gb512) (o := .cells #[.slice Ao29 t508.length co29, .int .i64 t511] 61 (0, 0)) (Cz.b BK512.out) hb) (below_step (Cz.w HB.out) hb); clear HO_505000 HO_513000 BK504 BK512 HB; obtain ⟨HO_505000, HO_513000, BK504, BK512, HB⟩ := n_; (try clear hb); (try clear hb2); (try clear hk); (try clear hi)) | ((with_reducible refine gate_callee (f := 57) rfl ?_); refine goesL_ (some 65) rfl rfl Try.func57 (by kernel_rfl) rfl #[.slice A2 l2.length c2] rfl (by (try simp only [List.map_toArray, List.map_cons, List.map_nil]); first | done | rfl | (simp only [List.length_drop, List.length_take]; rfl)) ?_; (with_reducible refine (laws_toShardS.calls kj16 _ _ l2 t524 _ ?side1 ?side2 A49.out).mono ?_); (case side1 => exact Cz.c HR2.out HB.out); (case side2 => exact HC2.out); rintro e w61 ⟨v525, rfl, ho0, hb⟩; refine ⟨_, rfl, ?_⟩; have n_ := Cy.a6 (Kd.R_below (Cz.r HO_505000.out) hb) (Kd.R_below (Cz.r HO_513000.out) hb) (Kd.R_lower ho0 (below_size (Cz.w HB.out))) (blk_below (g := gb504) (o := .cells #[.slice Ao23 t500.length co23, .int .i64 t503] 61 (0, 0)) (Cz.b BK504.out) hb) (blk_below (g := gb512) (o := .cells #[.slice Ao29 t508.length co29, .int .i64 t511] 61 (0, 0)) (Cz.b BK512.out) hb) (below_step (Cz.w HB.out) hb); clear HO_505000 HO_513000 BK504 BK512 HB; obtain ⟨HO_505000, HO_513000, HO526, BK504, BK512, HB⟩ := n_; (try clear hb); (try clear hb2); (try clear hk); (try clear hi); (try clear ho0); obtain ⟨Ao62, co62, eo62⟩ := Kd.R_slice HO526.out; subst eo62) | ((with_reducible refine gate_callee (f := 58) rfl ?_); refine goesL_ (some 66) rfl rfl Try.func58 (by kernel_rfl) rfl #[.int .i64 a0, .int .i64 a1, .slice Ao62 t524.length co62] rfl (by (try simp only [List.map_toArray, List.map_cons, List.map_nil]); first | done | rfl | (simp only [List.length_drop, List.length_take]; rfl)) ?_; (with_reducible refine (impl_Repair.calls kj16 a0 a1 _ _ t524 t527 t530 _ ?side1 ?side2 A50.out).mono ?_); (case side1 => repeat (first | exact (Kd.R_reads' HO526.out).2.2 | (with_reducible refine Kd.C_alloc ?_ _) | (with_reducible refine Kd.C_drewN ?_ _) | (with_reducible refine Kd.C_drew ?_))); (case side2 => exact (Kd.R_reads' HO526.out).2.1); rintro e w63 ⟨v528, rfl, ho0, hb⟩; refine ⟨_, rfl, ?_⟩; have n_ := Cy.a7 (Kd.R_elder' (Cz.r HO_505000.out) (Kd.R_base ho0) hb) (Kd.R_elder' (Cz.r HO_513000.out) (Kd.R_base ho0) hb) (Kd.R_below (Cz.r HO526.out) hb) (Kd.R_lower (Kd.R_new' (Kd.R_new' ho0 (Kd.R_lt (Cz.r HO_505000.out))) (Kd.R_lt (Cz.r HO_513000.out))) (below_size (Cz.w HB.out))) (blk_below (g := gb504) (o := .cells #[.slice Ao23 t500.length co23, .int .i64 t503] 61 (0, 0)) (Cz.b BK504.out) hb) (blk_below (g := gb512) (o := .cells #[.slice Ao29 t508.length co29, .int .i64 t511] 61 (0, 0)) (Cz.b BK512.out) hb) (below_step (Cz.w HB.out) hb); clear HO_505000 HO_513000 HO526 BK504 BK512 HB; obtain ⟨HO_505000, HO_513000, HO526, HO529, BK504, BK512, HB⟩ := n_; (try clear hb); (try clear hb2); (try clear hk); (try clear hi); (try clear ho0)) | ((with_reducible refine gate_dst (N := 14) rfl ?_); refine box_event ?hg (N := 14) ?hd (cs := #[.slice none 0 0, .int .i64 0]) (t := 61) ?hr ?_; (case hd => rfl); (case hg => rfl); (case hr => first | (go_simp; done) | (go_simp; rfl)); intro gb531 hg w64 hbox hb; have n_ := Cy.a14 (Kd.R_below (Cz.r HO_505000.out) hb) (Kd.R_below (Cz.r HO_513000.out) hb) (Kd.R_below (Cz.r HO526.out) hb) (Kd.R_below (Cz.r HO529.out) hb) (blk_below (g := gb504) (o := .cells #[.slice Ao23 t500.length co23, .int .i64 t503] 61 (0, 0)) (Cz.b BK504.out) hb) (blk_below (g := gb512) (o := .cells #[.slice Ao29 t508.length co29, .int .i64 t511] 61 (0, 0)) (Cz.b BK512.out) hb) (below_step (Cz.w HB.out) hb) hbox (Cy.gw hg HB.out) (Cy.gw hg HB.out) (by rw [hg]; exact Nat.ne_of_lt (blk_lt (g := gb504) (o := .cells #[.slice Ao23 t500.length co23, .int .i64 t503] 61 (0, 0)) (Cz.b BK504.out)) : gb504 ≠ gb531) (by rw [hg]; exact Nat.ne_of_gt (blk_lt (g := gb504) (o := .cells #[.slice Ao23 t500.length co23, .int .i64 t503] 61 (0, 0)) (Cz.b BK504.out)) : gb531 ≠ gb504) (by rw [hg]; exact Nat.ne_of_lt (blk_lt (g := gb512) (o := .cells #[.slice Ao29 t508.length co29, .int .i64 t511] 61 (0, 0)) (Cz.b BK512.out)) : gb512 ≠ gb531) (by rw [hg]; exact Nat.ne_of_gt (blk_lt (g := gb512) (o := .cells #[.slice Ao29 t508.length co29, .int .i64 t511] 61 (0, 0)) (Cz.b BK512.out)) : gb531 ≠ gb512); clear HO_505000 HO_513000 HO526 HO529 BK504 BK512 HB; obtain ⟨HO_505000, HO_513000, HO526, HO529, BK504, BK512, HB, BK531, GW531, GE531, NB504_531, NB531_504, NB512_531, NB531_512⟩ := n_; clear hb hbox hg; obtain ⟨Ao65, co65, eo65⟩ := Kd.R_slice HO529.out; subst eo65; have hnb66 := NB531_504.out; have hnc66 := NB504_531.out; have hnb67 := NB531_512.out; have hnc67 := NB512_531.out; obtain ⟨hcz68_0, hcz68_1, hfz68_0, hfz68_1⟩ := Cy.z2 BK531.out; obtain ⟨hcz69_0, hcz69_1, hfz69_0, hfz69_1⟩ := Cy.z2 BK504.out) | ((with_reducible refine gate_callee (f := 52) rfl ?_); refine goesL_ (some 69) rfl rfl Try.func52 (by kernel_rfl) rfl #[.agg #[.slice Ao65 t527.length co65, .int .i64 t530], .agg #[.slice Ao23 t500.length co23, .int .i64 t503]] rfl (by (try simp only [List.map_toArray, List.map_cons, List.map_nil]); first | done | rfl | (simp only [List.length_drop, List.length_take]; rfl)) ?_; (with_reducible refine (laws_eqShardsOut.calls kj16 _ _ t527 t530 _ _ t500 t503 true _ ?side1 ?side2 ?side3 ?side4 A51.out).mono ?_); (case side1 => refine (Kd.R_reads' (e := 9) (base := w.heap.size) (ok := fun k_ => ((True ∧ some k_ ≠ (.slice Ao23 t500.length co23 : Value).ownBlock) ∧ some k_ ≠ (.slice Ao29 t508.length co29 : Value).ownBlock)) (n := t527.length) (c := co65) ?_).2.2; exact (Cz.q2 HO529.out BK531.out)); (case side2 => exact (Kd.R_reads' HO529.out).2.1); (case side3 => refine (Kd.R_reads' (e := 9) (base := w.heap.size) (ok := fun k_ => (some k_ ≠ (.slice Ao29 t508.length co29 : Value).ownBlock ∧ some k_ ≠ (.slice Ao65 t527.length co65 : Value).ownBlock)) (n := t500.length) (c := co23) ?_).2.2; exact (Cz.q2 HO_505000.out BK531.out)); (case side4 => exact (Kd.R_reads' HO_505000.out).2.1); rintro e w70 ⟨rfl, hb⟩; refine ⟨_, rfl, ?_⟩; have n_ := Cy.a8 (Kd.R_below (Cz.q2 HO_505000.out BK531.out) hb) (Kd.R_below (Cz.q2 HO_513000.out BK531.out) hb) (Kd.R_below (Cz.q2 HO526.out BK531.out) hb) (Kd.R_below (Cz.q2 HO529.out BK531.out) hb) (blk_below (g := gb504) (o := .cells #[.slice Ao23 t500.length co23, .int .i64 t503] 61 (0, 0)) (Cz.f BK504.out NB504_531.out) hb) (blk_below (g := gb512) (o := .cells #[.slice Ao29 t508.length co29, .int .i64 t511] 61 (0, 0)) (Cz.f BK512.out NB512_531.out) hb) (blk_below (g := gb531) (o := .cells #[.slice Ao65 t527.length co65, .int .i64 t530] 61 (0, 0)) (by (with_reducible repeat (first | refine blk_drewN ?_ _ | refine blk_drew ?_ | refine blk_alloc ?_ _)); refine blk_put (cs := #[.slice Ao65 t527.length co65, .int .i64 0]) ?_ 1 _ rfl; (with_reducible repeat (first | refine blk_drewN ?_ _ | refine blk_drew ?_ | refine blk_alloc ?_ _)); refine blk_put (cs := #[.slice none 0 0, .int .i64 0]) ?_ 0 _ rfl; (with_reducible repeat (first | refine blk_drewN ?_ _ | refine blk_drew ?_ | refine blk_alloc ?_ _)); exact BK531.out) hb) (below_step (Cz.w HB.out) hb); clear HO_505000 HO_513000 HO526 HO529 BK504 BK512 BK531 HB; obtain ⟨HO_505000, HO_513000, HO526, HO529, BK504, BK512, BK531, HB⟩ := n_; (try clear hb); (try clear hb2); (try clear hk); (try clear hi); obtain ⟨hcz71_0, hcz71_1, hfz71_0, hfz71_1⟩ := Cy.z2 BK512.out) | ((with_reducible refine gate_callee (f := 54) rfl ?_); refine goesL_ (some 73) rfl rfl Try.func54 (by kernel_rfl) rfl #[.agg #[.slice Ao29 t522.length co29, .int .i64 t511], .int .i64 1] rfl (by (try simp only [List.map_toArray, List.map_cons, List.map_nil]); first | done | (rw [show t522.length = t508.length from (Kd.R_reads' HO_513000.out).1.symm] <;> rfl) | rfl | (simp only [List.length_drop, List.length_take]; rfl)) ?_; (with_reducible refine (laws_heldShardsOut.calls kj16 _ _ t522 t511 1 t533 _ ?side1 ?side2 A53.out).mono ?_); (case side1 => repeat (first | exact (Kd.R_reads' HO_513000.out).2.2 | (with_reducible refine Kd.C_alloc ?_ _) | (with_reducible refine Kd.C_drewN ?_ _) | (with_reducible refine Kd.C_drew ?_))); (case side2 => rw [show t522.length = t508.length from (Kd.R_reads' HO_513000.out).1.symm]; exact (Kd.R_reads' HO_513000.out).2.1); rintro e w72 ⟨rfl, hb⟩; refine ⟨_, rfl, ?_⟩; have n_ := Cy.a8 (Kd.R_below (Cz.r HO_505000.out) hb) (Kd.R_below (Cz.r HO_513000.out) hb) (Kd.R_below (Cz.r HO526.out) hb) (Kd.R_below (Cz.r HO529.out) hb) (blk_below (g := gb504) (o := .cells #[.slice Ao23 t500.length co23, .int .i64 t503] 61 (0, 0)) (Cz.b BK504.out) hb) (blk_below (g := gb512) (o := .cells #[.slice Ao29 t508.length co29, .int .i64 t511] 61 (0, 0)) (Cz.b BK512.out) hb) (blk_below (g := gb531) (o := .cells #[.slice Ao65 t527.length co65, .int .i64 t530] 61 (0, 0)) (Cz.b BK531.out) hb) (below_step (Cz.w HB.out) hb); clear HO_505000 HO_513000 HO526 HO529 BK504 BK512 BK531 HB; obtain ⟨HO_505000, HO_513000, HO526, HO529, BK504, BK512, BK531, HB⟩ := n_; (try clear hb); (try clear hb2); (try clear hk); (try clear hi)))
            go_ret
            exact ⟨by first | rfl | (simp [errW_none, errW_some] <;> rfl) | (simp [*, errW_none, errW_some] <;> rfl), Cz.w HB.out⟩
           ·rw [if_neg c55] at H
            exact absurd H (by simp)
         ·replace c52 := Bool.eq_false_iff.mpr c52
          subst c52
          have H1 : (none) = some r := by rw [if_neg (show ¬ (false = true) by decide)] at H; exact H
          clear H
          have H := H1
          clear H1
          exact absurd H (by simp)
        ·rw [if_neg c48] at H
         exact absurd H (by simp)
   ·replace c15 := Bool.eq_false_iff.mpr c15
    subst c15
    have H1 : (none) = some r := by rw [if_neg (show ¬ (false = true) by decide)] at H; exact H
    clear H
    have H := H1
    clear H1
    exact absurd H (by simp)
  ·replace c12 := Bool.eq_false_iff.mpr c12
   subst c12
   have H1 : (none) = some r := by rw [if_neg (show ¬ (false = true) by decide)] at H; exact H
   clear H
   have H := H1
   clear H1
   exact absurd H (by simp)
end Go.Proofs.Ytlololbhlnapkaa.XFnExactRepair

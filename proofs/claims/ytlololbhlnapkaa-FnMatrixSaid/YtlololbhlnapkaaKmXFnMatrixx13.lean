/- Plain functions of what the law reaches, proofs that the calls come to them, and the law's row: written by a program of this session (xprint.py) over the kit's print. No conditions beyond each lemma's own. -/
import Derived.Test.YtlololbhlnapkaaKmCy
import Derived.Test.YtlololbhlnapkaaKmXFnMatrixx0
import Derived.Test.YtlololbhlnapkaaKmXFnMatrixx1
import Derived.Test.YtlololbhlnapkaaKmXFnMatrixx6
import Derived.Test.YtlololbhlnapkaaKmXFnMatrixx7
import Derived.Test.YtlololbhlnapkaaKmXFnMatrixx8
import Derived.Test.YtlololbhlnapkaaKmXFnMatrixx12
namespace Go.Proofs.Ytlololbhlnapkaa.XFnMatrix
open Go.RowKit Go.Proofs.YtlololbhlnapkaaW.PrintWords Go.Proofs.YtlololbhlnapkaaW.PrintLast Go.Proofs.YtlololbhlnapkaaW.PrintMore
attribute [local go_sem] max2_int min2_int max_two min_two max_three min_three max_four min_four   -- for this text's walks alone
set_option linter.unusedVariables false
set_option linter.unusedSimpArgs false
mutual
def laws_FnMatrix.j0 : Nat → List Int → List Int → Bool → Option (Bool)
  | 0, _, _, _ => none
  | k + 1, x0, x1, x22 => if x22 = true then (some true) else ((spec_DrawMatrixMul.f k x0).bind fun bt357 => ((spec_DrawMatrixInv.f k x1).bind fun bt369 => ((impl_MatrixMul.f k bt357.1 bt357.2.1 bt357.2.2.1 bt357.2.2.2.1 bt357.2.2.2.2.1 bt357.2.2.2.2.2).bind fun bt375 => ((spec_MatrixMul.f k bt357.1 bt357.2.1 bt357.2.2.1 bt357.2.2.2.1 bt357.2.2.2.2.1 bt357.2.2.2.2.2).bind fun bt382 => (if bt375.2.2.2 = bt382.2.2.2 then ((laws_lwSame.f k bt375.1 bt375.2.1 bt375.2.2.1 bt382.1 bt382.2.1 bt382.2.2.1).bind fun t389 => (laws_FnMatrix.j1 k (!t389) bt357.1 bt357.2.1 bt357.2.2.1 bt357.2.2.2.1 bt357.2.2.2.2.1 bt357.2.2.2.2.2 bt369.1 bt369.2.1 bt369.2.2 bt375.1 bt375.2.1 bt375.2.2.1 bt375.2.2.2)) else (laws_FnMatrix.j1 k true bt357.1 bt357.2.1 bt357.2.2.1 bt357.2.2.2.1 bt357.2.2.2.2.1 bt357.2.2.2.2.2 bt369.1 bt369.2.1 bt369.2.2 bt375.1 bt375.2.1 bt375.2.2.1 bt375.2.2.2))))))
def laws_FnMatrix.j1 : Nat → Bool → Int → Int → List Int → Int → Int → List Int → Int → Int → List Int → Int → Int → List Int → Int → Option (Bool)
  | 0, _, _, _, _, _, _, _, _, _, _, _, _, _, _ => none
  | k + 1, x48, x368000, x368001, x368002, x369000, x369001, x369002, x375000, x375001, x375002, x382000, x382001, x382002, x382003 => if x48 = true then (none) else (if x382003 = 0 then ((impl_MatrixMul.f k x382000 x382001 x382002 x369001 x369000 x369002).bind fun bt391 => ((impl_MatrixMul.f k x369000 x369001 x369002 x369001 x369000 x369002).bind fun bt398 => ((impl_MatrixMul.f k x368000 x368001 x368002 bt398.1 bt398.2.1 bt398.2.2.1).bind fun bt404 => (if bt391.2.2.2 = 0 then ((laws_lwSame.f k bt391.1 bt391.2.1 bt391.2.2.1 bt404.1 bt404.2.1 bt404.2.2.1).bind fun t411 => (if t411 = true then (laws_FnMatrix.j2 k x375000 x375001 x375002) else (none))) else (none))))) else (laws_FnMatrix.j2 k x375000 x375001 x375002))
def laws_FnMatrix.j2 : Nat → Int → Int → List Int → Option (Bool)
  | 0, _, _, _ => none
  | k + 1, x375000, x375001, x375002 => (spec_MatrixRight.f k x375000 x375001 x375002).bind fun t412 => (if t412 = true then (laws_FnMatrix.j3 k (x375000 != x375001) x375000 x375001 x375002) else (laws_FnMatrix.j3 k true x375000 x375001 x375002))
def laws_FnMatrix.j3 : Nat → Bool → Int → Int → List Int → Option (Bool)
  | 0, _, _, _, _ => none
  | k + 1, x89, x375000, x375001, x375002 => if x89 = true then ((impl_MatrixInv.f k x375000 x375001 x375002).bind fun bt413 => (some (bt413.2.2.2 == 1))) else ((impl_MatrixInv.f k x375000 x375001 x375002).bind fun bt419 => ((impl_MatrixRank.f x375000 x375001 x375002).bind fun t426 => (if t426 = x375000 then (if bt419.2.2.2 = 0 then ((impl_MatrixMul.f k x375000 x375001 x375002 bt419.1 bt419.2.1 bt419.2.2.1).bind fun bt427 => ((laws_lwUnit.f k bt427.1 bt427.2.1 bt427.2.2.1).bind fun t433 => (if t433 = true then ((impl_MatrixMul.f k bt419.1 bt419.2.1 bt419.2.2.1 x375000 x375001 x375002).bind fun bt434 => ((laws_lwUnit.f k bt434.1 bt434.2.1 bt434.2.2.1).bind fun t440 => (some t440))) else (none)))) else (none)) else (some (bt419.2.2.2 == 8)))))
end
def laws_FnMatrix.f (k : Nat) (l0 : List Int) (l1 : List Int) : Option (Bool) := if (l0.length : Int) > 1048576 then (laws_FnMatrix.j0 k l0 l1 true) else (laws_FnMatrix.j0 k l0 l1 (decide ((l1.length : Int) > 1048576)))
def laws_FnMatrix.T12 : Bool × List (List Nat × List Nat) := (true, [([], []), ([], []), ([], []), ([1, 2], [1, 2]), ([3], [3]), ([0, 4, 3], [0, 4]), ([], []), ([6, 5, 5, 0, 1, 2, 3, 4, 5, 6], [5, 6])])
def laws_FnMatrix.B12 : List Nat := [0, 0, 0, 6, 14, 31, 0, 127]
theorem laws_FnMatrix.tab12 : rtab .any (opsOf Try.f10 12) = laws_FnMatrix.T12 := by kernel_rfl
theorem laws_FnMatrix.bits12 : waitsOk laws_FnMatrix.T12.2 laws_FnMatrix.B12 = true := by kernel_rfl
set_option maxHeartbeats 8000000 in
set_option maxRecDepth 100000 in
theorem laws_FnMatrix.calls (k : Nat) (A0 : Option Addr) (c0 : Nat) (l0 : List Int) (A1 : Option Addr) (c1 : Nat) (l1 : List Int) (r : Bool) (w : World) (hr0 : Kd.C (Kd.int .u8) w A0 l0.length l0) (hc0 : l0.length ≤ c0) (hr1 : Kd.C (Kd.int .u8) w A1 l1.length l1) (hc1 : l1.length ≤ c1) (h : laws_FnMatrix.f k l0 l1 = some r) :
  Calls Try.prog 10 #[.slice A0 l0.length c0, .slice A1 l1.length c1] w fun e w' => e = .returned (.bool r) ∧ Below w.heap.size w w' := by
 have hu27 := Try.underlying27
 have hu35 := Try.underlying35
 have hfg0_ : ∀ (a b d : Int) (v : Value) (w : World), (Instr.field 35 (.agg #[.int .i64 a, .int .i64 b, v, .int .i64 d]) 0).run Try.prog w = .ok (.agg #[.int .i64 a, .int .i64 b, v]) w := fun _ _ _ _ _ => by kernel_rfl
 have hfg1_ : ∀ (a b d : Int) (v : Value) (w : World), (Instr.field 35 (.agg #[.int .i64 a, .int .i64 b, v, .int .i64 d]) 1).run Try.prog w = .ok (.int .i64 d) w := fun _ _ _ _ _ => by kernel_rfl
 have HR0 := Aside0.mk hr0
 have HC0 := Aside0.mk hc0
 clear hr0 hc0
 have HR1 := Aside0.mk hr1
 have HC1 := Aside0.mk hc1
 clear hr1 hc1
 have HB := Aside0.mk (Below.refl w.heap.size w)
 have H : (if (l0.length : Int) > 1048576 then (laws_FnMatrix.j0 k l0 l1 true) else (laws_FnMatrix.j0 k l0 l1 (decide ((l1.length : Int) > 1048576)))) = some r := h
 clear h
 have HC3 := Aside0.mk H
 clear H
 go_enter Try.func10, Try.ntmps10
 go_upto_region 1 with (fail)
 go_cut [22] (fun v22 wc => ∃ (kq : Nat) (x22_2 : Bool), v22 = .bool x22_2 ∧ Aside0 (laws_FnMatrix.j0 kq l0 l1 x22_2 = some r) ∧ Aside0 (kq ≤ k) ∧ Aside0 (Below w.heap.size w wc))
 case first =>
  have H := HC3.out
  clear HC3
  by_cases c4 : (l0.length : Int) > 1048576
  ·rw [if_pos c4] at H
   have c4b0 : decide (1048576 < (l0.length : Int)) = true := decide_eq_true c4
   have c4b1 : decide (1048576 < l0.length) = true := decide_eq_true (by omega)
   clear c4
   (first | rw [c4b0] | (simp only [i64_w, i32_w]; rw [c4b0]) | skip)
   have H' := Aside0.mk H
   clear H
   go_wp2
   go_meet
   case rel => exact ⟨_, (true), (by first | rfl | (simp; done) | (simp [*]; done)), H', ⟨by first | omega | exact Nat.le_refl _⟩, ⟨Cz.w HB.out⟩⟩
  ·rw [if_neg c4] at H
   have c4b0 : decide (1048576 < (l0.length : Int)) = false := decide_eq_false c4
   have c4b1 : decide (1048576 < l0.length) = false := decide_eq_false (by omega)
   clear c4
   (first | rw [c4b0] | (simp only [i64_w, i32_w]; rw [c4b0]) | skip)
   have H' := Aside0.mk H
   clear H
   go_wp2
   go_meet
   case rel => exact ⟨_, (decide ((l1.length : Int) > 1048576)), (by first | rfl | (simp; done) | (simp [*]; done)), H', ⟨by first | omega | exact Nat.le_refl _⟩, ⟨Cz.w HB.out⟩⟩
 case rest =>
  clear HC3
  try clear c1
  try clear p2
  try clear c4
  try clear c4b0
  try clear c4b1
  obtain ⟨kq, x22_2, rfl, HA, HJ2, HB⟩ := hcut
  cases kq with
  | zero => exact absurd HA.out (by simp [laws_FnMatrix.j0])
  | succ kj2 =>
   have H := HA.out
   clear HA
   simp only [laws_FnMatrix.j0] at H
   by_cases c5 : x22_2 = true
   ·subst c5
    have H1 : (some true) = some r := by rw [if_pos rfl] at H; exact H
    clear H
    have H := H1
    clear H1
    obtain rfl := Option.some.inj H
    go_wp2
    go_ret
    exact ⟨by first | rfl | (simp [errW_none, errW_some] <;> rfl) | (simp [*, errW_none, errW_some] <;> rfl), Cz.w HB.out⟩
   ·replace c5 := Bool.eq_false_iff.mpr c5
    subst c5
    have H1 : ((spec_DrawMatrixMul.f kj2 l0).bind fun bt357 => ((spec_DrawMatrixInv.f kj2 l1).bind fun bt369 => ((impl_MatrixMul.f kj2 bt357.1 bt357.2.1 bt357.2.2.1 bt357.2.2.2.1 bt357.2.2.2.2.1 bt357.2.2.2.2.2).bind fun bt375 => ((spec_MatrixMul.f kj2 bt357.1 bt357.2.1 bt357.2.2.1 bt357.2.2.2.1 bt357.2.2.2.2.1 bt357.2.2.2.2.2).bind fun bt382 => (if bt375.2.2.2 = bt382.2.2.2 then ((laws_lwSame.f kj2 bt375.1 bt375.2.1 bt375.2.2.1 bt382.1 bt382.2.1 bt382.2.2.1).bind fun t389 => (laws_FnMatrix.j1 kj2 (!t389) bt357.1 bt357.2.1 bt357.2.2.1 bt357.2.2.2.1 bt357.2.2.2.2.1 bt357.2.2.2.2.2 bt369.1 bt369.2.1 bt369.2.2 bt375.1 bt375.2.1 bt375.2.2.1 bt375.2.2.2)) else (laws_FnMatrix.j1 kj2 true bt357.1 bt357.2.1 bt357.2.2.1 bt357.2.2.2.1 bt357.2.2.2.2.1 bt357.2.2.2.2.2 bt369.1 bt369.2.1 bt369.2.2 bt375.1 bt375.2.1 bt375.2.2.1 bt375.2.2.2)))))) = some r := by rw [if_neg (show ¬ (false = true) by decide)] at H; exact H
    clear H
    have H := H1
    clear H1
    replace H := Option.bind_eq_some_iff.mp H
    obtain ⟨⟨t357, t358, t359, t362, t363, t364⟩, A60, H⟩ := H
    replace H : ((spec_DrawMatrixInv.f kj2 l1).bind fun bt369 => ((impl_MatrixMul.f kj2 t357 t358 t359 t362 t363 t364).bind fun bt375 => ((spec_MatrixMul.f kj2 t357 t358 t359 t362 t363 t364).bind fun bt382 => (if bt375.2.2.2 = bt382.2.2.2 then ((laws_lwSame.f kj2 bt375.1 bt375.2.1 bt375.2.2.1 bt382.1 bt382.2.1 bt382.2.2.1).bind fun t389 => (laws_FnMatrix.j1 kj2 (!t389) t357 t358 t359 t362 t363 t364 bt369.1 bt369.2.1 bt369.2.2 bt375.1 bt375.2.1 bt375.2.2.1 bt375.2.2.2)) else (laws_FnMatrix.j1 kj2 true t357 t358 t359 t362 t363 t364 bt369.1 bt369.2.1 bt369.2.2 bt375.1 bt375.2.1 bt375.2.2.1 bt375.2.2.2))))) = some r := H
    have A6 := Aside0.mk A60
    clear A60
    replace H := Option.bind_eq_some_iff.mp H
    obtain ⟨⟨t369, t370, t371⟩, A70, H⟩ := H
    replace H : ((impl_MatrixMul.f kj2 t357 t358 t359 t362 t363 t364).bind fun bt375 => ((spec_MatrixMul.f kj2 t357 t358 t359 t362 t363 t364).bind fun bt382 => (if bt375.2.2.2 = bt382.2.2.2 then ((laws_lwSame.f kj2 bt375.1 bt375.2.1 bt375.2.2.1 bt382.1 bt382.2.1 bt382.2.2.1).bind fun t389 => (laws_FnMatrix.j1 kj2 (!t389) t357 t358 t359 t362 t363 t364 t369 t370 t371 bt375.1 bt375.2.1 bt375.2.2.1 bt375.2.2.2)) else (laws_FnMatrix.j1 kj2 true t357 t358 t359 t362 t363 t364 t369 t370 t371 bt375.1 bt375.2.1 bt375.2.2.1 bt375.2.2.2)))) = some r := H
    have A7 := Aside0.mk A70
    clear A70
    replace H := Option.bind_eq_some_iff.mp H
    obtain ⟨⟨t375, t376, t377, t380⟩, A80, H⟩ := H
    replace H : ((spec_MatrixMul.f kj2 t357 t358 t359 t362 t363 t364).bind fun bt382 => (if t380 = bt382.2.2.2 then ((laws_lwSame.f kj2 t375 t376 t377 bt382.1 bt382.2.1 bt382.2.2.1).bind fun t389 => (laws_FnMatrix.j1 kj2 (!t389) t357 t358 t359 t362 t363 t364 t369 t370 t371 t375 t376 t377 t380)) else (laws_FnMatrix.j1 kj2 true t357 t358 t359 t362 t363 t364 t369 t370 t371 t375 t376 t377 t380))) = some r := H
    have A8 := Aside0.mk A80
    clear A80
    replace H := Option.bind_eq_some_iff.mp H
    obtain ⟨⟨t382, t383, t384, t387⟩, A90, H⟩ := H
    replace H : (if t380 = t387 then ((laws_lwSame.f kj2 t375 t376 t377 t382 t383 t384).bind fun t389 => (laws_FnMatrix.j1 kj2 (!t389) t357 t358 t359 t362 t363 t364 t369 t370 t371 t375 t376 t377 t380)) else (laws_FnMatrix.j1 kj2 true t357 t358 t359 t362 t363 t364 t369 t370 t371 t375 t376 t377 t380)) = some r := H
    have A9 := Aside0.mk A90
    clear A90
    have HC10 := Aside0.mk H
    clear H
    go_upto_region 7 with (first | ((with_reducible refine gate_callee (f := 46) rfl ?_); refine goesL_ (some 25) rfl rfl Try.func46 (by kernel_rfl) rfl #[.slice A0 l0.length c0] rfl Cy.ls ?_; (with_reducible refine (spec_DrawMatrixMul.calls kj2 _ _ l0 t357 t358 t359 t362 t363 t364 _ ?side1 ?side2 A6.out).mono ?_); (case side1 => exact Cz.c HR0.out HB.out); (case side2 => exact HC0.out); rintro e w11 ⟨v360, v365, rfl, ho0, ho1, hb⟩; refine ⟨_, rfl, ?_⟩; have n_ := Cy.a3 (Kd.Q_lower ho0 (below_size (Cz.w HB.out))) (Kd.Q_lower ho1 (below_size (Cz.w HB.out))) (below_step (Cz.w HB.out) hb); clear HB; obtain ⟨HO361, HO366, HB⟩ := n_; (try clear hb); (try clear hb2); (try clear hk); (try clear hi); (try clear ho0); (try clear ho1)) | ((with_reducible refine gate_dst (N := 5) rfl ?_); (try (refine gate_guard (by rfl) ?_; dsimp only)); refine box_event ?hg (N := 5) ?hd (cs := #[.int .i64 0, .int .i64 0, .slice none 0 0]) (t := 27) ?hr ?_; (case hd => rfl); (case hg => rfl); (case hr => first | (go_simp; done) | (go_simp; rfl)); intro gb367 hg w12 hbox hb; have n_ := Cy.a6 (Kd.Q_below (Cy.q HO361.out) hb) (Kd.Q_below (Cy.q HO366.out) hb) (below_step (Cz.w HB.out) hb) hbox (Cy.gw hg HB.out) (Cy.gw hg HB.out); clear HO361 HO366 HB; obtain ⟨HO361, HO366, HB, BK367, GW367, GE367⟩ := n_; clear hb hbox hg) | ((with_reducible refine gate_dst (N := 6) rfl ?_); (try (refine gate_guard (by rfl) ?_; dsimp only)); refine box_event ?hg (N := 6) ?hd (cs := #[.int .i64 0, .int .i64 0, .slice none 0 0]) (t := 27) ?hr ?_; (case hd => rfl); (case hg => rfl); (case hr => first | (go_simp; done) | (go_simp; rfl)); intro gb368 hg w13 hbox hb; have n_ := Cy.a9 (Kd.Q_below (Cy.q HO361.out) hb) (Kd.Q_below (Cy.q HO366.out) hb) (blk_below (g := gb367) (o := .cells #[.int .i64 0, .int .i64 0, .slice none 0 0] 27 (0, 0)) (Cz.b BK367.out) hb) (below_step (Cz.w HB.out) hb) hbox (Cy.gw hg HB.out) (Cy.gw hg HB.out) (by rw [hg]; exact Nat.ne_of_lt (blk_lt (g := gb367) (o := .cells #[.int .i64 0, .int .i64 0, .slice none 0 0] 27 (0, 0)) (Cz.b BK367.out)) : gb367 ≠ gb368) (by rw [hg]; exact Nat.ne_of_gt (blk_lt (g := gb367) (o := .cells #[.int .i64 0, .int .i64 0, .slice none 0 0] 27 (0, 0)) (Cz.b BK367.out)) : gb368 ≠ gb367); clear HO361 HO366 BK367 HB; obtain ⟨HO361, HO366, BK367, HB, BK368, GW368, GE368, NB367_368, NB368_367⟩ := n_; clear hb hbox hg; have hnb14 := NB367_368.out; have hnc14 := NB368_367.out; obtain ⟨hcz15_0, hcz15_1, hcz15_2, hfz15_0, hfz15_1, hfz15_2⟩ := Cy.z3 BK367.out; obtain ⟨Ao16, co16, eo16, _⟩ := Kd.Q_slice HO361.out; subst eo16; obtain ⟨hcz17_0, hcz17_1, hcz17_2, hfz17_0, hfz17_1, hfz17_2⟩ := Cy.z3 BK368.out; obtain ⟨Ao18, co18, eo18, _⟩ := Kd.Q_slice HO366.out; subst eo18) | ((with_reducible refine gate_callee (f := 47) rfl ?_); refine goesL_ (some 29) rfl rfl Try.func47 (by kernel_rfl) rfl #[.slice A1 l1.length c1] rfl Cy.ls ?_; (with_reducible refine (spec_DrawMatrixInv.calls kj2 _ _ l1 t369 t370 t371 _ ?side1 ?side2 A7.out).mono ?_); (case side1 => exact Kd.C_below HR1.out (Cz.w HB.out)); (case side2 => exact HC1.out); rintro e w19 ⟨v372, rfl, ho0, hb⟩; refine ⟨_, rfl, ?_⟩; have n_ := Cy.a6 (Kd.Q_elder' (by (with_reducible repeat (first | apply Kd.Q_alloc | apply Kd.Q_drewN | apply Kd.Q_drew)); exact (Kd.Q_mono (Kd.Q_mono (Kd.Q_far (p := ⟨gb368, 2, none⟩) (Kd.Q_far (p := ⟨gb368, 1, none⟩) (Kd.Q_far (p := ⟨gb368, 0, none⟩) (Kd.Q_far (p := ⟨gb367, 2, none⟩) (Kd.Q_far (p := ⟨gb367, 1, none⟩) (Kd.Q_far (p := ⟨gb367, 0, none⟩) (Kd.Q_types (Kd.Q_types HO361.out BK367.out (by decide)) BK368.out (by decide)) (fun _ hk => hk.1.2) (.int .i64 t357)) (fun _ hk => hk.1.2) (.int .i64 t358)) (fun _ hk => hk.1.2) (.slice Ao16 t359.length co16)) (fun _ hk => hk.2) (.int .i64 t362)) (fun _ hk => hk.2) (.int .i64 t363)) (fun _ hk => hk.2) (.slice Ao18 t364.length co18)) (fun _ h_ => h_.1)) (fun _ h_ => h_.1))) (Kd.Q_base ho0) hb) (Kd.Q_elder' (by (with_reducible repeat (first | apply Kd.Q_alloc | apply Kd.Q_drewN | apply Kd.Q_drew)); exact (Kd.Q_mono (Kd.Q_mono (Kd.Q_far (p := ⟨gb368, 2, none⟩) (Kd.Q_far (p := ⟨gb368, 1, none⟩) (Kd.Q_far (p := ⟨gb368, 0, none⟩) (Kd.Q_far (p := ⟨gb367, 2, none⟩) (Kd.Q_far (p := ⟨gb367, 1, none⟩) (Kd.Q_far (p := ⟨gb367, 0, none⟩) (Kd.Q_types (Kd.Q_types HO366.out BK367.out (by decide)) BK368.out (by decide)) (fun _ hk => hk.1.2) (.int .i64 t357)) (fun _ hk => hk.1.2) (.int .i64 t358)) (fun _ hk => hk.1.2) (.slice Ao16 t359.length co16)) (fun _ hk => hk.2) (.int .i64 t362)) (fun _ hk => hk.2) (.int .i64 t363)) (fun _ hk => hk.2) (.slice Ao18 t364.length co18)) (fun _ h_ => h_.1)) (fun _ h_ => h_.1))) (Kd.Q_base ho0) hb) (Kd.Q_lower (Kd.Q_new' (Kd.Q_new' ho0 (Kd.Q_lt (by (with_reducible repeat (first | apply Kd.Q_alloc | apply Kd.Q_drewN | apply Kd.Q_drew)); exact (Kd.Q_mono (Kd.Q_mono (Kd.Q_far (p := ⟨gb368, 2, none⟩) (Kd.Q_far (p := ⟨gb368, 1, none⟩) (Kd.Q_far (p := ⟨gb368, 0, none⟩) (Kd.Q_far (p := ⟨gb367, 2, none⟩) (Kd.Q_far (p := ⟨gb367, 1, none⟩) (Kd.Q_far (p := ⟨gb367, 0, none⟩) (Kd.Q_types (Kd.Q_types HO361.out BK367.out (by decide)) BK368.out (by decide)) (fun _ hk => hk.1.2) (.int .i64 t357)) (fun _ hk => hk.1.2) (.int .i64 t358)) (fun _ hk => hk.1.2) (.slice Ao16 t359.length co16)) (fun _ hk => hk.2) (.int .i64 t362)) (fun _ hk => hk.2) (.int .i64 t363)) (fun _ hk => hk.2) (.slice Ao18 t364.length co18)) (fun _ h_ => h_.1)) (fun _ h_ => h_.1))))) (Kd.Q_lt (by (with_reducible repeat (first | apply Kd.Q_alloc | apply Kd.Q_drewN | apply Kd.Q_drew)); exact (Kd.Q_mono (Kd.Q_mono (Kd.Q_far (p := ⟨gb368, 2, none⟩) (Kd.Q_far (p := ⟨gb368, 1, none⟩) (Kd.Q_far (p := ⟨gb368, 0, none⟩) (Kd.Q_far (p := ⟨gb367, 2, none⟩) (Kd.Q_far (p := ⟨gb367, 1, none⟩) (Kd.Q_far (p := ⟨gb367, 0, none⟩) (Kd.Q_types (Kd.Q_types HO366.out BK367.out (by decide)) BK368.out (by decide)) (fun _ hk => hk.1.2) (.int .i64 t357)) (fun _ hk => hk.1.2) (.int .i64 t358)) (fun _ hk => hk.1.2) (.slice Ao16 t359.length co16)) (fun _ hk => hk.2) (.int .i64 t362)) (fun _ hk => hk.2) (.int .i64 t363)) (fun _ hk => hk.2) (.slice Ao18 t364.length co18)) (fun _ h_ => h_.1)) (fun _ h_ => h_.1))))) (below_size (Cz.w HB.out))) (blk_below (g := gb367) (o := .cells #[.int .i64 t357, .int .i64 t358, .slice Ao16 t359.length co16] 27 (0, 0)) (by (with_reducible repeat (first | refine blk_drewN ?_ _ | refine blk_drew ?_ | refine blk_alloc ?_ _)); refine blk_far ?_ NB367_368.out _; (with_reducible repeat (first | refine blk_drewN ?_ _ | refine blk_drew ?_ | refine blk_alloc ?_ _)); refine blk_far ?_ NB367_368.out _; (with_reducible repeat (first | refine blk_drewN ?_ _ | refine blk_drew ?_ | refine blk_alloc ?_ _)); refine blk_far ?_ NB367_368.out _; (with_reducible repeat (first | refine blk_drewN ?_ _ | refine blk_drew ?_ | refine blk_alloc ?_ _)); refine blk_put (cs := #[.int .i64 t357, .int .i64 t358, .slice none 0 0]) ?_ 2 _ rfl; (with_reducible repeat (first | refine blk_drewN ?_ _ | refine blk_drew ?_ | refine blk_alloc ?_ _)); refine blk_put (cs := #[.int .i64 t357, .int .i64 0, .slice none 0 0]) ?_ 1 _ rfl; (with_reducible repeat (first | refine blk_drewN ?_ _ | refine blk_drew ?_ | refine blk_alloc ?_ _)); refine blk_put (cs := #[.int .i64 0, .int .i64 0, .slice none 0 0]) ?_ 0 _ rfl; (with_reducible repeat (first | refine blk_drewN ?_ _ | refine blk_drew ?_ | refine blk_alloc ?_ _)); exact BK367.out) hb) (blk_below (g := gb368) (o := .cells #[.int .i64 t362, .int .i64 t363, .slice Ao18 t364.length co18] 27 (0, 0)) (by (with_reducible repeat (first | refine blk_drewN ?_ _ | refine blk_drew ?_ | refine blk_alloc ?_ _)); refine blk_put (cs := #[.int .i64 t362, .int .i64 t363, .slice none 0 0]) ?_ 2 _ rfl; (with_reducible repeat (first | refine blk_drewN ?_ _ | refine blk_drew ?_ | refine blk_alloc ?_ _)); refine blk_put (cs := #[.int .i64 t362, .int .i64 0, .slice none 0 0]) ?_ 1 _ rfl; (with_reducible repeat (first | refine blk_drewN ?_ _ | refine blk_drew ?_ | refine blk_alloc ?_ _)); refine blk_put (cs := #[.int .i64 0, .int .i64 0, .slice none 0 0]) ?_ 0 _ rfl; (with_reducible repeat (first | refine blk_drewN ?_ _ | refine blk_drew ?_ | refine blk_alloc ?_ _)); refine blk_far ?_ NB368_367.out _; (with_reducible repeat (first | refine blk_drewN ?_ _ | refine blk_drew ?_ | refine blk_alloc ?_ _)); refine blk_far ?_ NB368_367.out _; (with_reducible repeat (first | refine blk_drewN ?_ _ | refine blk_drew ?_ | refine blk_alloc ?_ _)); refine blk_far ?_ NB368_367.out _; (with_reducible repeat (first | refine blk_drewN ?_ _ | refine blk_drew ?_ | refine blk_alloc ?_ _)); exact BK368.out) hb) (below_step (Cz.w HB.out) hb); clear HO361 HO366 BK367 BK368 HB; obtain ⟨HO361, HO366, HO373, BK367, BK368, HB⟩ := n_; (try clear hb); (try clear hb2); (try clear hk); (try clear hi); (try clear ho0)) | ((with_reducible refine gate_dst (N := 7) rfl ?_); (try (refine gate_guard (by rfl) ?_; dsimp only)); refine box_event ?hg (N := 7) ?hd (cs := #[.int .i64 0, .int .i64 0, .slice none 0 0]) (t := 27) ?hr ?_; (case hd => rfl); (case hg => rfl); (case hr => first | (go_simp; done) | (go_simp; rfl)); intro gb374 hg w20 hbox hb; have n_ := Cy.a13 (Kd.Q_below (Cy.q HO361.out) hb) (Kd.Q_below (Cy.q HO366.out) hb) (Kd.Q_below (Cy.q HO373.out) hb) (blk_below (g := gb367) (o := .cells #[.int .i64 t357, .int .i64 t358, .slice Ao16 t359.length co16] 27 (0, 0)) (Cz.b BK367.out) hb) (blk_below (g := gb368) (o := .cells #[.int .i64 t362, .int .i64 t363, .slice Ao18 t364.length co18] 27 (0, 0)) (Cz.b BK368.out) hb) (below_step (Cz.w HB.out) hb) hbox (Cy.gw hg HB.out) (Cy.gw hg HB.out) (by rw [hg]; exact Nat.ne_of_lt (blk_lt (g := gb367) (o := .cells #[.int .i64 t357, .int .i64 t358, .slice Ao16 t359.length co16] 27 (0, 0)) (Cz.b BK367.out)) : gb367 ≠ gb374) (by rw [hg]; exact Nat.ne_of_gt (blk_lt (g := gb367) (o := .cells #[.int .i64 t357, .int .i64 t358, .slice Ao16 t359.length co16] 27 (0, 0)) (Cz.b BK367.out)) : gb374 ≠ gb367) (by rw [hg]; exact Nat.ne_of_lt (blk_lt (g := gb368) (o := .cells #[.int .i64 t362, .int .i64 t363, .slice Ao18 t364.length co18] 27 (0, 0)) (Cz.b BK368.out)) : gb368 ≠ gb374) (by rw [hg]; exact Nat.ne_of_gt (blk_lt (g := gb368) (o := .cells #[.int .i64 t362, .int .i64 t363, .slice Ao18 t364.length co18] 27 (0, 0)) (Cz.b BK368.out)) : gb374 ≠ gb368); clear HO361 HO366 HO373 BK367 BK368 HB; obtain ⟨HO361, HO366, HO373, BK367, BK368, HB, BK374, GW374, GE374, NB367_374, NB374_367, NB368_374, NB374_368⟩ := n_; clear hb hbox hg; have hnb21 := NB374_367.out; have hnc21 := NB367_374.out; have hnb22 := NB374_368.out; have hnc22 := NB368_374.out; obtain ⟨hcz23_0, hcz23_1, hcz23_2, hfz23_0, hfz23_1, hfz23_2⟩ := Cy.z3 BK374.out; obtain ⟨Ao24, co24, eo24, _⟩ := Kd.Q_slice HO373.out; subst eo24; obtain ⟨hcz25_0, hcz25_1, hcz25_2, hfz25_0, hfz25_1, hfz25_2⟩ := Cy.z3 BK367.out; obtain ⟨hcz26_0, hcz26_1, hcz26_2, hfz26_0, hfz26_1, hfz26_2⟩ := Cy.z3 BK368.out) | ((with_reducible refine gate_callee (f := 31) rfl ?_); refine goesL_ (some 32) rfl rfl Try.func31 (by kernel_rfl) rfl #[.agg #[.int .i64 t357, .int .i64 t358, .slice Ao16 t359.length co16], .agg #[.int .i64 t362, .int .i64 t363, .slice Ao18 t364.length co18]] rfl Cy.ls ?_; (with_reducible refine (impl_MatrixMul.calls kj2 t357 t358 _ _ t359 t362 t363 _ _ t364 t375 t376 t377 t380 _ ?side1 ?side2 ?side3 ?side4 A8.out).mono ?_); (case side1 => refine (Kd.Q_reads' (e := 2) (base := w.heap.size) (ok := fun k_ => (some k_ ≠ (.slice Ao18 t364.length co18 : Value).ownBlock ∧ some k_ ≠ (.slice Ao24 t371.length co24 : Value).ownBlock)) (n := t359.length) (c := co16) ?_).2.2; exact (by (with_reducible repeat (first | apply Kd.Q_alloc | apply Kd.Q_drewN | apply Kd.Q_drew)); exact (Kd.Q_mono (Kd.Q_far (p := ⟨gb374, 2, none⟩) (Kd.Q_far (p := ⟨gb374, 1, none⟩) (Kd.Q_far (p := ⟨gb374, 0, none⟩) (Kd.Q_types HO361.out BK374.out (by decide)) (fun _ hk => hk.2) (.int .i64 t369)) (fun _ hk => hk.2) (.int .i64 t370)) (fun _ hk => hk.2) (.slice Ao24 t371.length co24)) (fun _ h_ => h_.1)))); (case side2 => exact (Kd.Q_reads' HO361.out).2.1); (case side3 => refine (Kd.Q_reads' (e := 2) (base := w.heap.size) (ok := fun k_ => (some k_ ≠ (.slice Ao16 t359.length co16 : Value).ownBlock ∧ some k_ ≠ (.slice Ao24 t371.length co24 : Value).ownBlock)) (n := t364.length) (c := co18) ?_).2.2; exact (by (with_reducible repeat (first | apply Kd.Q_alloc | apply Kd.Q_drewN | apply Kd.Q_drew)); exact (Kd.Q_mono (Kd.Q_far (p := ⟨gb374, 2, none⟩) (Kd.Q_far (p := ⟨gb374, 1, none⟩) (Kd.Q_far (p := ⟨gb374, 0, none⟩) (Kd.Q_types HO366.out BK374.out (by decide)) (fun _ hk => hk.2) (.int .i64 t369)) (fun _ hk => hk.2) (.int .i64 t370)) (fun _ hk => hk.2) (.slice Ao24 t371.length co24)) (fun _ h_ => h_.1)))); (case side4 => exact (Kd.Q_reads' HO366.out).2.1); rintro e w27 ⟨v378, rfl, ho0, hb⟩; refine ⟨_, rfl, ?_⟩; have n_ := Cy.a8 (Kd.Q_elder' (by (with_reducible repeat (first | apply Kd.Q_alloc | apply Kd.Q_drewN | apply Kd.Q_drew)); exact (Kd.Q_mono (Kd.Q_far (p := ⟨gb374, 2, none⟩) (Kd.Q_far (p := ⟨gb374, 1, none⟩) (Kd.Q_far (p := ⟨gb374, 0, none⟩) (Kd.Q_types HO361.out BK374.out (by decide)) (fun _ hk => hk.2) (.int .i64 t369)) (fun _ hk => hk.2) (.int .i64 t370)) (fun _ hk => hk.2) (.slice Ao24 t371.length co24)) (fun _ h_ => h_.1))) (Kd.R_base ho0) hb) (Kd.Q_elder' (by (with_reducible repeat (first | apply Kd.Q_alloc | apply Kd.Q_drewN | apply Kd.Q_drew)); exact (Kd.Q_mono (Kd.Q_far (p := ⟨gb374, 2, none⟩) (Kd.Q_far (p := ⟨gb374, 1, none⟩) (Kd.Q_far (p := ⟨gb374, 0, none⟩) (Kd.Q_types HO366.out BK374.out (by decide)) (fun _ hk => hk.2) (.int .i64 t369)) (fun _ hk => hk.2) (.int .i64 t370)) (fun _ hk => hk.2) (.slice Ao24 t371.length co24)) (fun _ h_ => h_.1))) (Kd.R_base ho0) hb) (Kd.Q_elder' (by (with_reducible repeat (first | apply Kd.Q_alloc | apply Kd.Q_drewN | apply Kd.Q_drew)); exact (Kd.Q_mono (Kd.Q_far (p := ⟨gb374, 2, none⟩) (Kd.Q_far (p := ⟨gb374, 1, none⟩) (Kd.Q_far (p := ⟨gb374, 0, none⟩) (Kd.Q_types HO373.out BK374.out (by decide)) (fun _ hk => hk.2) (.int .i64 t369)) (fun _ hk => hk.2) (.int .i64 t370)) (fun _ hk => hk.2) (.slice Ao24 t371.length co24)) (fun _ h_ => h_.1))) (Kd.R_base ho0) hb) (Kd.R_lower (Kd.R_new' (Kd.R_new' (Kd.R_new' ho0 (Kd.Q_lt (by (with_reducible repeat (first | apply Kd.Q_alloc | apply Kd.Q_drewN | apply Kd.Q_drew)); exact (Kd.Q_mono (Kd.Q_far (p := ⟨gb374, 2, none⟩) (Kd.Q_far (p := ⟨gb374, 1, none⟩) (Kd.Q_far (p := ⟨gb374, 0, none⟩) (Kd.Q_types HO361.out BK374.out (by decide)) (fun _ hk => hk.2) (.int .i64 t369)) (fun _ hk => hk.2) (.int .i64 t370)) (fun _ hk => hk.2) (.slice Ao24 t371.length co24)) (fun _ h_ => h_.1))))) (Kd.Q_lt (by (with_reducible repeat (first | apply Kd.Q_alloc | apply Kd.Q_drewN | apply Kd.Q_drew)); exact (Kd.Q_mono (Kd.Q_far (p := ⟨gb374, 2, none⟩) (Kd.Q_far (p := ⟨gb374, 1, none⟩) (Kd.Q_far (p := ⟨gb374, 0, none⟩) (Kd.Q_types HO366.out BK374.out (by decide)) (fun _ hk => hk.2) (.int .i64 t369)) (fun _ hk => hk.2) (.int .i64 t370)) (fun _ hk => hk.2) (.slice Ao24 t371.length co24)) (fun _ h_ => h_.1))))) (Kd.Q_lt (by (with_reducible repeat (first | apply Kd.Q_alloc | apply Kd.Q_drewN | apply Kd.Q_drew)); exact (Kd.Q_mono (Kd.Q_far (p := ⟨gb374, 2, none⟩) (Kd.Q_far (p := ⟨gb374, 1, none⟩) (Kd.Q_far (p := ⟨gb374, 0, none⟩) (Kd.Q_types HO373.out BK374.out (by decide)) (fun _ hk => hk.2) (.int .i64 t369)) (fun _ hk => hk.2) (.int .i64 t370)) (fun _ hk => hk.2) (.slice Ao24 t371.length co24)) (fun _ h_ => h_.1))))) (below_size (Cz.w HB.out))) (blk_below (g := gb367) (o := .cells #[.int .i64 t357, .int .i64 t358, .slice Ao16 t359.length co16] 27 (0, 0)) (Cz.f BK367.out NB367_374.out) hb) (blk_below (g := gb368) (o := .cells #[.int .i64 t362, .int .i64 t363, .slice Ao18 t364.length co18] 27 (0, 0)) (Cz.f BK368.out NB368_374.out) hb) (blk_below (g := gb374) (o := .cells #[.int .i64 t369, .int .i64 t370, .slice Ao24 t371.length co24] 27 (0, 0)) (Cz.p3 BK374.out) hb) (below_step (Cz.w HB.out) hb); clear HO361 HO366 HO373 BK367 BK368 BK374 HB; obtain ⟨HO361, HO366, HO373, HO379, BK367, BK368, BK374, HB⟩ := n_; (try clear hb); (try clear hb2); (try clear hk); (try clear hi); (try clear ho0)) | ((with_reducible refine gate_dst (N := 8) rfl ?_); (try (refine gate_guard (by rfl) ?_; dsimp only)); refine box_event ?hg (N := 8) ?hd (cs := #[.int .i64 0, .int .i64 0, .slice none 0 0, .int .i64 0]) (t := 35) ?hr ?_; (case hd => rfl); (case hg => rfl); (case hr => first | (go_simp; done) | (go_simp; rfl)); intro gb381 hg w28 hbox hb; have n_ := Cy.a17 (Kd.Q_below (Cy.q HO361.out) hb) (Kd.Q_below (Cy.q HO366.out) hb) (Kd.Q_below (Cy.q HO373.out) hb) (Kd.R_below (Cz.r HO379.out) hb) (blk_below (g := gb367) (o := .cells #[.int .i64 t357, .int .i64 t358, .slice Ao16 t359.length co16] 27 (0, 0)) (Cz.b BK367.out) hb) (blk_below (g := gb368) (o := .cells #[.int .i64 t362, .int .i64 t363, .slice Ao18 t364.length co18] 27 (0, 0)) (Cz.b BK368.out) hb) (blk_below (g := gb374) (o := .cells #[.int .i64 t369, .int .i64 t370, .slice Ao24 t371.length co24] 27 (0, 0)) (Cz.b BK374.out) hb) (below_step (Cz.w HB.out) hb) hbox (Cy.gw hg HB.out) (Cy.gw hg HB.out) (by rw [hg]; exact Nat.ne_of_lt (blk_lt (g := gb367) (o := .cells #[.int .i64 t357, .int .i64 t358, .slice Ao16 t359.length co16] 27 (0, 0)) (Cz.b BK367.out)) : gb367 ≠ gb381) (by rw [hg]; exact Nat.ne_of_gt (blk_lt (g := gb367) (o := .cells #[.int .i64 t357, .int .i64 t358, .slice Ao16 t359.length co16] 27 (0, 0)) (Cz.b BK367.out)) : gb381 ≠ gb367) (by rw [hg]; exact Nat.ne_of_lt (blk_lt (g := gb368) (o := .cells #[.int .i64 t362, .int .i64 t363, .slice Ao18 t364.length co18] 27 (0, 0)) (Cz.b BK368.out)) : gb368 ≠ gb381) (by rw [hg]; exact Nat.ne_of_gt (blk_lt (g := gb368) (o := .cells #[.int .i64 t362, .int .i64 t363, .slice Ao18 t364.length co18] 27 (0, 0)) (Cz.b BK368.out)) : gb381 ≠ gb368) (by rw [hg]; exact Nat.ne_of_lt (blk_lt (g := gb374) (o := .cells #[.int .i64 t369, .int .i64 t370, .slice Ao24 t371.length co24] 27 (0, 0)) (Cz.b BK374.out)) : gb374 ≠ gb381) (by rw [hg]; exact Nat.ne_of_gt (blk_lt (g := gb374) (o := .cells #[.int .i64 t369, .int .i64 t370, .slice Ao24 t371.length co24] 27 (0, 0)) (Cz.b BK374.out)) : gb381 ≠ gb374); clear HO361 HO366 HO373 HO379 BK367 BK368 BK374 HB; obtain ⟨HO361, HO366, HO373, HO379, BK367, BK368, BK374, HB, BK381, GW381, GE381, NB367_381, NB381_367, NB368_381, NB381_368, NB374_381, NB381_374⟩ := n_; clear hb hbox hg; have hnb29 := NB381_367.out; have hnc29 := NB367_381.out; have hnb30 := NB381_368.out; have hnc30 := NB368_381.out; have hnb31 := NB381_374.out; have hnc31 := NB374_381.out; obtain ⟨hcz32_0, hcz32_1, hcz32_2, hcz32_3, hfz32_0, hfz32_1, hfz32_2, hfz32_3⟩ := Cy.z4 BK381.out; obtain ⟨Ao33, co33, eo33⟩ := Kd.R_slice HO379.out; subst eo33; obtain ⟨hcz34_0, hcz34_1, hcz34_2, hfz34_0, hfz34_1, hfz34_2⟩ := Cy.z3 BK367.out; obtain ⟨hcz35_0, hcz35_1, hcz35_2, hfz35_0, hfz35_1, hfz35_2⟩ := Cy.z3 BK368.out) | ((with_reducible refine gate_callee (f := 30) rfl ?_); refine goesL_ (some 35) rfl rfl Try.func30 (by kernel_rfl) rfl #[.agg #[.int .i64 t357, .int .i64 t358, .slice Ao16 t359.length co16], .agg #[.int .i64 t362, .int .i64 t363, .slice Ao18 t364.length co18]] rfl Cy.ls ?_; (with_reducible refine (spec_MatrixMul.calls kj2 t357 t358 _ _ t359 t362 t363 _ _ t364 t382 t383 t384 t387 _ ?side1 ?side2 ?side3 ?side4 A9.out).mono ?_); (case side1 => refine (Kd.Q_reads' (e := 2) (base := w.heap.size) (ok := fun k_ => ((some k_ ≠ (.slice Ao18 t364.length co18 : Value).ownBlock ∧ some k_ ≠ (.slice Ao24 t371.length co24 : Value).ownBlock) ∧ some k_ ≠ (.slice Ao33 t377.length co33 : Value).ownBlock)) (n := t359.length) (c := co16) ?_).2.2; exact (by (with_reducible repeat (first | apply Kd.Q_alloc | apply Kd.Q_drewN | apply Kd.Q_drew)); exact (Kd.Q_mono (Kd.Q_far (p := ⟨gb381, 3, none⟩) (Kd.Q_far (p := ⟨gb381, 2, none⟩) (Kd.Q_far (p := ⟨gb381, 1, none⟩) (Kd.Q_far (p := ⟨gb381, 0, none⟩) (Kd.Q_types HO361.out BK381.out (by decide)) (fun _ hk => hk.2) (.int .i64 t375)) (fun _ hk => hk.2) (.int .i64 t376)) (fun _ hk => hk.2) (.slice Ao33 t377.length co33)) (fun _ hk => hk.2) (.int .i64 t380)) (fun _ h_ => h_.1)))); (case side2 => exact (Kd.Q_reads' HO361.out).2.1); (case side3 => refine (Kd.Q_reads' (e := 2) (base := w.heap.size) (ok := fun k_ => ((some k_ ≠ (.slice Ao16 t359.length co16 : Value).ownBlock ∧ some k_ ≠ (.slice Ao24 t371.length co24 : Value).ownBlock) ∧ some k_ ≠ (.slice Ao33 t377.length co33 : Value).ownBlock)) (n := t364.length) (c := co18) ?_).2.2; exact (by (with_reducible repeat (first | apply Kd.Q_alloc | apply Kd.Q_drewN | apply Kd.Q_drew)); exact (Kd.Q_mono (Kd.Q_far (p := ⟨gb381, 3, none⟩) (Kd.Q_far (p := ⟨gb381, 2, none⟩) (Kd.Q_far (p := ⟨gb381, 1, none⟩) (Kd.Q_far (p := ⟨gb381, 0, none⟩) (Kd.Q_types HO366.out BK381.out (by decide)) (fun _ hk => hk.2) (.int .i64 t375)) (fun _ hk => hk.2) (.int .i64 t376)) (fun _ hk => hk.2) (.slice Ao33 t377.length co33)) (fun _ hk => hk.2) (.int .i64 t380)) (fun _ h_ => h_.1)))); (case side4 => exact (Kd.Q_reads' HO366.out).2.1); rintro e w36 ⟨v385, rfl, ho0, hb⟩; refine ⟨_, rfl, ?_⟩; have n_ := Cy.a10 (Kd.Q_elder' (by (with_reducible repeat (first | apply Kd.Q_alloc | apply Kd.Q_drewN | apply Kd.Q_drew)); exact (Kd.Q_mono (Kd.Q_far (p := ⟨gb381, 3, none⟩) (Kd.Q_far (p := ⟨gb381, 2, none⟩) (Kd.Q_far (p := ⟨gb381, 1, none⟩) (Kd.Q_far (p := ⟨gb381, 0, none⟩) (Kd.Q_types HO361.out BK381.out (by decide)) (fun _ hk => hk.2) (.int .i64 t375)) (fun _ hk => hk.2) (.int .i64 t376)) (fun _ hk => hk.2) (.slice Ao33 t377.length co33)) (fun _ hk => hk.2) (.int .i64 t380)) (fun _ h_ => h_.1))) (Kd.R_base ho0) hb) (Kd.Q_elder' (by (with_reducible repeat (first | apply Kd.Q_alloc | apply Kd.Q_drewN | apply Kd.Q_drew)); exact (Kd.Q_mono (Kd.Q_far (p := ⟨gb381, 3, none⟩) (Kd.Q_far (p := ⟨gb381, 2, none⟩) (Kd.Q_far (p := ⟨gb381, 1, none⟩) (Kd.Q_far (p := ⟨gb381, 0, none⟩) (Kd.Q_types HO366.out BK381.out (by decide)) (fun _ hk => hk.2) (.int .i64 t375)) (fun _ hk => hk.2) (.int .i64 t376)) (fun _ hk => hk.2) (.slice Ao33 t377.length co33)) (fun _ hk => hk.2) (.int .i64 t380)) (fun _ h_ => h_.1))) (Kd.R_base ho0) hb) (Kd.Q_elder' (by (with_reducible repeat (first | apply Kd.Q_alloc | apply Kd.Q_drewN | apply Kd.Q_drew)); exact (Kd.Q_mono (Kd.Q_far (p := ⟨gb381, 3, none⟩) (Kd.Q_far (p := ⟨gb381, 2, none⟩) (Kd.Q_far (p := ⟨gb381, 1, none⟩) (Kd.Q_far (p := ⟨gb381, 0, none⟩) (Kd.Q_types HO373.out BK381.out (by decide)) (fun _ hk => hk.2) (.int .i64 t375)) (fun _ hk => hk.2) (.int .i64 t376)) (fun _ hk => hk.2) (.slice Ao33 t377.length co33)) (fun _ hk => hk.2) (.int .i64 t380)) (fun _ h_ => h_.1))) (Kd.R_base ho0) hb) (Kd.R_elder' (Cz.q4 HO379.out BK381.out) (Kd.R_base ho0) hb) (Kd.R_lower (Kd.R_new' (Kd.R_new' (Kd.R_new' (Kd.R_new' ho0 (Kd.Q_lt (by (with_reducible repeat (first | apply Kd.Q_alloc | apply Kd.Q_drewN | apply Kd.Q_drew)); exact (Kd.Q_mono (Kd.Q_far (p := ⟨gb381, 3, none⟩) (Kd.Q_far (p := ⟨gb381, 2, none⟩) (Kd.Q_far (p := ⟨gb381, 1, none⟩) (Kd.Q_far (p := ⟨gb381, 0, none⟩) (Kd.Q_types HO361.out BK381.out (by decide)) (fun _ hk => hk.2) (.int .i64 t375)) (fun _ hk => hk.2) (.int .i64 t376)) (fun _ hk => hk.2) (.slice Ao33 t377.length co33)) (fun _ hk => hk.2) (.int .i64 t380)) (fun _ h_ => h_.1))))) (Kd.Q_lt (by (with_reducible repeat (first | apply Kd.Q_alloc | apply Kd.Q_drewN | apply Kd.Q_drew)); exact (Kd.Q_mono (Kd.Q_far (p := ⟨gb381, 3, none⟩) (Kd.Q_far (p := ⟨gb381, 2, none⟩) (Kd.Q_far (p := ⟨gb381, 1, none⟩) (Kd.Q_far (p := ⟨gb381, 0, none⟩) (Kd.Q_types HO366.out BK381.out (by decide)) (fun _ hk => hk.2) (.int .i64 t375)) (fun _ hk => hk.2) (.int .i64 t376)) (fun _ hk => hk.2) (.slice Ao33 t377.length co33)) (fun _ hk => hk.2) (.int .i64 t380)) (fun _ h_ => h_.1))))) (Kd.Q_lt (by (with_reducible repeat (first | apply Kd.Q_alloc | apply Kd.Q_drewN | apply Kd.Q_drew)); exact (Kd.Q_mono (Kd.Q_far (p := ⟨gb381, 3, none⟩) (Kd.Q_far (p := ⟨gb381, 2, none⟩) (Kd.Q_far (p := ⟨gb381, 1, none⟩) (Kd.Q_far (p := ⟨gb381, 0, none⟩) (Kd.Q_types HO373.out BK381.out (by decide)) (fun _ hk => hk.2) (.int .i64 t375)) (fun _ hk => hk.2) (.int .i64 t376)) (fun _ hk => hk.2) (.slice Ao33 t377.length co33)) (fun _ hk => hk.2) (.int .i64 t380)) (fun _ h_ => h_.1))))) (Kd.R_lt (Cz.q4 HO379.out BK381.out))) (below_size (Cz.w HB.out))) (blk_below (g := gb367) (o := .cells #[.int .i64 t357, .int .i64 t358, .slice Ao16 t359.length co16] 27 (0, 0)) (Cz.f BK367.out NB367_381.out) hb) (blk_below (g := gb368) (o := .cells #[.int .i64 t362, .int .i64 t363, .slice Ao18 t364.length co18] 27 (0, 0)) (Cz.f BK368.out NB368_381.out) hb) (blk_below (g := gb374) (o := .cells #[.int .i64 t369, .int .i64 t370, .slice Ao24 t371.length co24] 27 (0, 0)) (Cz.f BK374.out NB374_381.out) hb) (blk_below (g := gb381) (o := .cells #[.int .i64 t375, .int .i64 t376, .slice Ao33 t377.length co33, .int .i64 t380] 35 (0, 0)) (Cz.p4 BK381.out) hb) (below_step (Cz.w HB.out) hb); clear HO361 HO366 HO373 HO379 BK367 BK368 BK374 BK381 HB; obtain ⟨HO361, HO366, HO373, HO379, HO386, BK367, BK368, BK374, BK381, HB⟩ := n_; (try clear hb); (try clear hb2); (try clear hk); (try clear hi); (try clear ho0)) | ((with_reducible refine gate_dst (N := 9) rfl ?_); (try (refine gate_guard (by rfl) ?_; dsimp only)); refine box_event ?hg (N := 9) ?hd (cs := #[.int .i64 0, .int .i64 0, .slice none 0 0, .int .i64 0]) (t := 35) ?hr ?_; (case hd => rfl); (case hg => rfl); (case hr => first | (go_simp; done) | (go_simp; rfl)); intro gb388 hg w37 hbox hb; have n_ := Cy.a21 (Kd.Q_below (Cy.q HO361.out) hb) (Kd.Q_below (Cy.q HO366.out) hb) (Kd.Q_below (Cy.q HO373.out) hb) (Kd.R_below (Cz.r HO379.out) hb) (Kd.R_below (Cz.r HO386.out) hb) (blk_below (g := gb367) (o := .cells #[.int .i64 t357, .int .i64 t358, .slice Ao16 t359.length co16] 27 (0, 0)) (Cz.b BK367.out) hb) (blk_below (g := gb368) (o := .cells #[.int .i64 t362, .int .i64 t363, .slice Ao18 t364.length co18] 27 (0, 0)) (Cz.b BK368.out) hb) (blk_below (g := gb374) (o := .cells #[.int .i64 t369, .int .i64 t370, .slice Ao24 t371.length co24] 27 (0, 0)) (Cz.b BK374.out) hb) (blk_below (g := gb381) (o := .cells #[.int .i64 t375, .int .i64 t376, .slice Ao33 t377.length co33, .int .i64 t380] 35 (0, 0)) (Cz.b BK381.out) hb) (below_step (Cz.w HB.out) hb) hbox (Cy.gw hg HB.out) (Cy.gw hg HB.out) (by rw [hg]; exact Nat.ne_of_lt (blk_lt (g := gb367) (o := .cells #[.int .i64 t357, .int .i64 t358, .slice Ao16 t359.length co16] 27 (0, 0)) (Cz.b BK367.out)) : gb367 ≠ gb388) (by rw [hg]; exact Nat.ne_of_gt (blk_lt (g := gb367) (o := .cells #[.int .i64 t357, .int .i64 t358, .slice Ao16 t359.length co16] 27 (0, 0)) (Cz.b BK367.out)) : gb388 ≠ gb367) (by rw [hg]; exact Nat.ne_of_lt (blk_lt (g := gb368) (o := .cells #[.int .i64 t362, .int .i64 t363, .slice Ao18 t364.length co18] 27 (0, 0)) (Cz.b BK368.out)) : gb368 ≠ gb388) (by rw [hg]; exact Nat.ne_of_gt (blk_lt (g := gb368) (o := .cells #[.int .i64 t362, .int .i64 t363, .slice Ao18 t364.length co18] 27 (0, 0)) (Cz.b BK368.out)) : gb388 ≠ gb368) (by rw [hg]; exact Nat.ne_of_lt (blk_lt (g := gb374) (o := .cells #[.int .i64 t369, .int .i64 t370, .slice Ao24 t371.length co24] 27 (0, 0)) (Cz.b BK374.out)) : gb374 ≠ gb388) (by rw [hg]; exact Nat.ne_of_gt (blk_lt (g := gb374) (o := .cells #[.int .i64 t369, .int .i64 t370, .slice Ao24 t371.length co24] 27 (0, 0)) (Cz.b BK374.out)) : gb388 ≠ gb374) (by rw [hg]; exact Nat.ne_of_lt (blk_lt (g := gb381) (o := .cells #[.int .i64 t375, .int .i64 t376, .slice Ao33 t377.length co33, .int .i64 t380] 35 (0, 0)) (Cz.b BK381.out)) : gb381 ≠ gb388) (by rw [hg]; exact Nat.ne_of_gt (blk_lt (g := gb381) (o := .cells #[.int .i64 t375, .int .i64 t376, .slice Ao33 t377.length co33, .int .i64 t380] 35 (0, 0)) (Cz.b BK381.out)) : gb388 ≠ gb381); clear HO361 HO366 HO373 HO379 HO386 BK367 BK368 BK374 BK381 HB; obtain ⟨HO361, HO366, HO373, HO379, HO386, BK367, BK368, BK374, BK381, HB, BK388, GW388, GE388, NB367_388, NB388_367, NB368_388, NB388_368, NB374_388, NB388_374, NB381_388, NB388_381⟩ := n_; clear hb hbox hg; have hnb38 := NB388_367.out; have hnc38 := NB367_388.out; have hnb39 := NB388_368.out; have hnc39 := NB368_388.out; have hnb40 := NB388_374.out; have hnc40 := NB374_388.out; have hnb41 := NB388_381.out; have hnc41 := NB381_388.out; obtain ⟨hcz42_0, hcz42_1, hcz42_2, hcz42_3, hfz42_0, hfz42_1, hfz42_2, hfz42_3⟩ := Cy.z4 BK388.out; obtain ⟨Ao43, co43, eo43⟩ := Kd.R_slice HO386.out; subst eo43))
    (try simp only [Act.put, List.setIfInBounds_toArray, List.set_cons_zero, List.set_cons_succ])
    go_cut [48] (fun v48 wc => ∃ (kq : Nat) (x48_9 : Bool), v48 = .bool x48_9 ∧ Aside0 (laws_FnMatrix.j1 kq x48_9 t357 t358 t359 t362 t363 t364 t369 t370 t371 t375 t376 t377 t380 = some r) ∧ Aside0 (kq ≤ kj2) ∧ Aside0 (Kd.Q (Kd.int .i64) 2 wc w.heap.size (fun k_ => some k_ ≠ ((.slice Ao18 t364.length co18) : Value).ownBlock ∧ some k_ ≠ ((.slice Ao24 t371.length co24) : Value).ownBlock ∧ some k_ ≠ ((.slice Ao33 t377.length co33) : Value).ownBlock ∧ some k_ ≠ ((.slice Ao43 t384.length co43) : Value).ownBlock) (.slice Ao16 t359.length co16) t359) ∧ Aside0 (Kd.Q (Kd.int .i64) 2 wc w.heap.size (fun k_ => some k_ ≠ ((.slice Ao16 t359.length co16) : Value).ownBlock ∧ some k_ ≠ ((.slice Ao24 t371.length co24) : Value).ownBlock ∧ some k_ ≠ ((.slice Ao33 t377.length co33) : Value).ownBlock ∧ some k_ ≠ ((.slice Ao43 t384.length co43) : Value).ownBlock) (.slice Ao18 t364.length co18) t364) ∧ Aside0 (Kd.Q (Kd.int .i64) 2 wc w.heap.size (fun k_ => some k_ ≠ ((.slice Ao16 t359.length co16) : Value).ownBlock ∧ some k_ ≠ ((.slice Ao18 t364.length co18) : Value).ownBlock ∧ some k_ ≠ ((.slice Ao33 t377.length co33) : Value).ownBlock ∧ some k_ ≠ ((.slice Ao43 t384.length co43) : Value).ownBlock) (.slice Ao24 t371.length co24) t371) ∧ Aside0 (Kd.R (Kd.int .i64) 2 wc w.heap.size (fun k_ => some k_ ≠ ((.slice Ao16 t359.length co16) : Value).ownBlock ∧ some k_ ≠ ((.slice Ao18 t364.length co18) : Value).ownBlock ∧ some k_ ≠ ((.slice Ao24 t371.length co24) : Value).ownBlock ∧ some k_ ≠ ((.slice Ao43 t384.length co43) : Value).ownBlock) (.slice Ao33 t377.length co33) t377) ∧ Aside0 (Kd.R (Kd.int .i64) 2 wc w.heap.size (fun k_ => some k_ ≠ ((.slice Ao16 t359.length co16) : Value).ownBlock ∧ some k_ ≠ ((.slice Ao18 t364.length co18) : Value).ownBlock ∧ some k_ ≠ ((.slice Ao24 t371.length co24) : Value).ownBlock ∧ some k_ ≠ ((.slice Ao33 t377.length co33) : Value).ownBlock) (.slice Ao43 t384.length co43) t384) ∧ Aside0 (wc.heap[gb367]? = some (.cells #[.int .i64 t357, .int .i64 t358, (.slice Ao16 t359.length co16)] 27 (0, 0))) ∧ Aside0 (wc.heap[gb368]? = some (.cells #[.int .i64 t362, .int .i64 t363, (.slice Ao18 t364.length co18)] 27 (0, 0))) ∧ Aside0 (wc.heap[gb374]? = some (.cells #[.int .i64 t369, .int .i64 t370, (.slice Ao24 t371.length co24)] 27 (0, 0))) ∧ Aside0 (wc.heap[gb381]? = some (.cells #[.int .i64 t375, .int .i64 t376, (.slice Ao33 t377.length co33), .int .i64 t380] 35 (0, 0))) ∧ Aside0 (wc.heap[gb388]? = some (.cells #[.int .i64 t382, .int .i64 t383, (.slice Ao43 t384.length co43), .int .i64 t387] 35 (0, 0))) ∧ Aside0 (Below w.heap.size w wc))
    case first =>
     have H := HC10.out
     clear HC10
     by_cases c44 : t380 = t387
     ·rw [if_pos c44] at H
      have c44b0 : (t380 == t387) = true := beq_iff_eq.mpr c44
      have c44b1 : (t380 != t387) = false := bne_eq_false_iff_eq.mpr c44
      clear c44
      (first | rw [c44b0] | (simp only [i64_w, i32_w]; rw [c44b0]) | skip)
      replace H := Option.bind_eq_some_iff.mp H
      obtain ⟨t389, A450, H⟩ := H
      replace H : (laws_FnMatrix.j1 kj2 (!t389) t357 t358 t359 t362 t363 t364 t369 t370 t371 t375 t376 t377 t380) = some r := H
      have A45 := Aside0.mk A450
      clear A450
      have H' := Aside0.mk H
      clear H
      have hnb46 := NB381_367.out
      have hnc46 := NB367_381.out
      have hnb47 := NB381_368.out
      have hnc47 := NB368_381.out
      have hnb48 := NB381_374.out
      have hnc48 := NB374_381.out
      have hnb49 := NB381_388.out
      have hnc49 := NB388_381.out
      obtain ⟨hcz50_0, hcz50_1, hcz50_2, hcz50_3, hfz50_0, hfz50_1, hfz50_2, hfz50_3⟩ := Cy.z4 BK381.out
      have hnb51 := NB388_367.out
      have hnc51 := NB367_388.out
      have hnb52 := NB388_368.out
      have hnc52 := NB368_388.out
      have hnb53 := NB388_374.out
      have hnc53 := NB374_388.out
      obtain ⟨hcz54_0, hcz54_1, hcz54_2, hcz54_3, hfz54_0, hfz54_1, hfz54_2, hfz54_3⟩ := Cy.z4 BK388.out
      go_wp2_with (first | (go_at_call 24; (with_reducible refine (laws_lwSame.calls kj2 t375 t376 _ _ t377 t382 t383 _ _ t384 t389 _ ?side1 ?side2 ?side3 ?side4 A45.out).mono ?_); (case side1 => refine (Kd.R_reads' (e := 2) (base := w.heap.size) (ok := fun k_ => ((((True ∧ some k_ ≠ (.slice Ao16 t359.length co16 : Value).ownBlock) ∧ some k_ ≠ (.slice Ao18 t364.length co18 : Value).ownBlock) ∧ some k_ ≠ (.slice Ao24 t371.length co24 : Value).ownBlock) ∧ some k_ ≠ (.slice Ao43 t384.length co43 : Value).ownBlock)) (n := t377.length) (c := co33) ?_).2.2; exact (Cz.q4 HO379.out BK388.out)); (case side2 => exact (Kd.R_reads' HO379.out).2.1); (case side3 => refine (Kd.R_reads' (e := 2) (base := w.heap.size) (ok := fun k_ => ((((True ∧ some k_ ≠ (.slice Ao16 t359.length co16 : Value).ownBlock) ∧ some k_ ≠ (.slice Ao18 t364.length co18 : Value).ownBlock) ∧ some k_ ≠ (.slice Ao24 t371.length co24 : Value).ownBlock) ∧ some k_ ≠ (.slice Ao33 t377.length co33 : Value).ownBlock)) (n := t384.length) (c := co43) ?_).2.2; exact (Cz.q4 HO386.out BK388.out)); (case side4 => exact (Kd.R_reads' HO386.out).2.1); rintro e w55 ⟨rfl, hb⟩; have n_ := Cy.a11 (Kd.Q_below (by (with_reducible repeat (first | apply Kd.Q_alloc | apply Kd.Q_drewN | apply Kd.Q_drew)); exact (Kd.Q_mono (Kd.Q_far (p := ⟨gb388, 3, none⟩) (Kd.Q_far (p := ⟨gb388, 2, none⟩) (Kd.Q_far (p := ⟨gb388, 1, none⟩) (Kd.Q_far (p := ⟨gb388, 0, none⟩) (Kd.Q_types HO361.out BK388.out (by decide)) (fun _ hk => hk.2) (.int .i64 t382)) (fun _ hk => hk.2) (.int .i64 t383)) (fun _ hk => hk.2) (.slice Ao43 t384.length co43)) (fun _ hk => hk.2) (.int .i64 t387)) (fun _ h_ => h_.1))) hb) (Kd.Q_below (by (with_reducible repeat (first | apply Kd.Q_alloc | apply Kd.Q_drewN | apply Kd.Q_drew)); exact (Kd.Q_mono (Kd.Q_far (p := ⟨gb388, 3, none⟩) (Kd.Q_far (p := ⟨gb388, 2, none⟩) (Kd.Q_far (p := ⟨gb388, 1, none⟩) (Kd.Q_far (p := ⟨gb388, 0, none⟩) (Kd.Q_types HO366.out BK388.out (by decide)) (fun _ hk => hk.2) (.int .i64 t382)) (fun _ hk => hk.2) (.int .i64 t383)) (fun _ hk => hk.2) (.slice Ao43 t384.length co43)) (fun _ hk => hk.2) (.int .i64 t387)) (fun _ h_ => h_.1))) hb) (Kd.Q_below (by (with_reducible repeat (first | apply Kd.Q_alloc | apply Kd.Q_drewN | apply Kd.Q_drew)); exact (Kd.Q_mono (Kd.Q_far (p := ⟨gb388, 3, none⟩) (Kd.Q_far (p := ⟨gb388, 2, none⟩) (Kd.Q_far (p := ⟨gb388, 1, none⟩) (Kd.Q_far (p := ⟨gb388, 0, none⟩) (Kd.Q_types HO373.out BK388.out (by decide)) (fun _ hk => hk.2) (.int .i64 t382)) (fun _ hk => hk.2) (.int .i64 t383)) (fun _ hk => hk.2) (.slice Ao43 t384.length co43)) (fun _ hk => hk.2) (.int .i64 t387)) (fun _ h_ => h_.1))) hb) (Kd.R_below (Cz.q4 HO379.out BK388.out) hb) (Kd.R_below (Cz.q4 HO386.out BK388.out) hb) (blk_below (g := gb367) (o := .cells #[.int .i64 t357, .int .i64 t358, .slice Ao16 t359.length co16] 27 (0, 0)) (Cz.f BK367.out NB367_388.out) hb) (blk_below (g := gb368) (o := .cells #[.int .i64 t362, .int .i64 t363, .slice Ao18 t364.length co18] 27 (0, 0)) (Cz.f BK368.out NB368_388.out) hb) (blk_below (g := gb374) (o := .cells #[.int .i64 t369, .int .i64 t370, .slice Ao24 t371.length co24] 27 (0, 0)) (Cz.f BK374.out NB374_388.out) hb) (blk_below (g := gb381) (o := .cells #[.int .i64 t375, .int .i64 t376, .slice Ao33 t377.length co33, .int .i64 t380] 35 (0, 0)) (Cz.f BK381.out NB381_388.out) hb) (blk_below (g := gb388) (o := .cells #[.int .i64 t382, .int .i64 t383, .slice Ao43 t384.length co43, .int .i64 t387] 35 (0, 0)) (Cz.p4 BK388.out) hb) (below_step (Cz.w HB.out) hb); clear HO361 HO366 HO373 HO379 HO386 BK367 BK368 BK374 BK381 BK388 HB; obtain ⟨HO361, HO366, HO373, HO379, HO386, BK367, BK368, BK374, BK381, BK388, HB⟩ := n_; (try clear hb); (try clear hb2); (try clear hk); (try clear hi)))
      go_meet
      case rel => exact ⟨_, (!t389), (by first | rfl | (simp; done) | (simp [*]; done)), H', ⟨by have := HJ2.out; first | omega | exact Nat.le_refl _⟩, ⟨by (with_reducible repeat (first | apply Kd.Q_alloc | apply Kd.Q_drewN | apply Kd.Q_drew)); exact Kd.Q_mono HO361.out (fun _ hk => ⟨hk.1.1.1, ⟨hk.1.1.2, ⟨hk.1.2, hk.2⟩⟩⟩)⟩, ⟨by (with_reducible repeat (first | apply Kd.Q_alloc | apply Kd.Q_drewN | apply Kd.Q_drew)); exact Kd.Q_mono HO366.out (fun _ hk => ⟨hk.1.1.1, ⟨hk.1.1.2, ⟨hk.1.2, hk.2⟩⟩⟩)⟩, ⟨by (with_reducible repeat (first | apply Kd.Q_alloc | apply Kd.Q_drewN | apply Kd.Q_drew)); exact Kd.Q_mono HO373.out (fun _ hk => ⟨hk.1.1.1.2, ⟨hk.1.1.2, ⟨hk.1.2, hk.2⟩⟩⟩)⟩, ⟨by (with_reducible repeat (first | apply Kd.R_alloc | apply Kd.R_drewN | apply Kd.R_drew)); exact Kd.R_mono HO379.out (fun _ hk => ⟨hk.1.1.1.2, ⟨hk.1.1.2, ⟨hk.1.2, hk.2⟩⟩⟩)⟩, ⟨by (with_reducible repeat (first | apply Kd.R_alloc | apply Kd.R_drewN | apply Kd.R_drew)); exact Kd.R_mono HO386.out (fun _ hk => ⟨hk.1.1.1.2, ⟨hk.1.1.2, ⟨hk.1.2, hk.2⟩⟩⟩)⟩, ⟨Cz.b BK367.out⟩, ⟨Cz.b BK368.out⟩, ⟨Cz.b BK374.out⟩, ⟨Cz.b BK381.out⟩, ⟨Cz.b BK388.out⟩, ⟨Cz.w HB.out⟩⟩
     ·rw [if_neg c44] at H
      have c44b0 : (t380 == t387) = false := beq_eq_false_iff_ne.mpr c44
      have c44b1 : (t380 != t387) = true := bne_iff_ne.mpr c44
      (first | rw [c44b0] | (simp only [i64_w, i32_w]; rw [c44b0]) | skip)
      have H' := Aside0.mk H
      clear H
      have hnb56 := NB381_367.out
      have hnc56 := NB367_381.out
      have hnb57 := NB381_368.out
      have hnc57 := NB368_381.out
      have hnb58 := NB381_374.out
      have hnc58 := NB374_381.out
      have hnb59 := NB381_388.out
      have hnc59 := NB388_381.out
      obtain ⟨hcz60_0, hcz60_1, hcz60_2, hcz60_3, hfz60_0, hfz60_1, hfz60_2, hfz60_3⟩ := Cy.z4 BK381.out
      have hnb61 := NB388_367.out
      have hnc61 := NB367_388.out
      have hnb62 := NB388_368.out
      have hnc62 := NB368_388.out
      have hnb63 := NB388_374.out
      have hnc63 := NB374_388.out
      obtain ⟨hcz64_0, hcz64_1, hcz64_2, hcz64_3, hfz64_0, hfz64_1, hfz64_2, hfz64_3⟩ := Cy.z4 BK388.out
      go_wp2
      go_meet
      case rel => exact ⟨_, (true), (by first | rfl | (simp; done) | (simp [*]; done)), H', ⟨by have := HJ2.out; first | omega | exact Nat.le_refl _⟩, ⟨by (with_reducible repeat (first | apply Kd.Q_alloc | apply Kd.Q_drewN | apply Kd.Q_drew)); exact Kd.Q_mono (Kd.Q_far (p := ⟨gb388, 3, none⟩) (Kd.Q_far (p := ⟨gb388, 2, none⟩) (Kd.Q_far (p := ⟨gb388, 1, none⟩) (Kd.Q_far (p := ⟨gb388, 0, none⟩) (Kd.Q_types HO361.out BK388.out (by decide)) (fun _ hk => hk.2) (.int .i64 t382)) (fun _ hk => hk.2) (.int .i64 t383)) (fun _ hk => hk.2) (.slice Ao43 t384.length co43)) (fun _ hk => hk.2) (.int .i64 t387)) (fun _ hk => ⟨hk.1.1.1.1, ⟨hk.1.1.1.2, ⟨hk.1.1.2, hk.1.2⟩⟩⟩)⟩, ⟨by (with_reducible repeat (first | apply Kd.Q_alloc | apply Kd.Q_drewN | apply Kd.Q_drew)); exact Kd.Q_mono (Kd.Q_far (p := ⟨gb388, 3, none⟩) (Kd.Q_far (p := ⟨gb388, 2, none⟩) (Kd.Q_far (p := ⟨gb388, 1, none⟩) (Kd.Q_far (p := ⟨gb388, 0, none⟩) (Kd.Q_types HO366.out BK388.out (by decide)) (fun _ hk => hk.2) (.int .i64 t382)) (fun _ hk => hk.2) (.int .i64 t383)) (fun _ hk => hk.2) (.slice Ao43 t384.length co43)) (fun _ hk => hk.2) (.int .i64 t387)) (fun _ hk => ⟨hk.1.1.1.1, ⟨hk.1.1.1.2, ⟨hk.1.1.2, hk.1.2⟩⟩⟩)⟩, ⟨by (with_reducible repeat (first | apply Kd.Q_alloc | apply Kd.Q_drewN | apply Kd.Q_drew)); exact Kd.Q_mono (Kd.Q_far (p := ⟨gb388, 3, none⟩) (Kd.Q_far (p := ⟨gb388, 2, none⟩) (Kd.Q_far (p := ⟨gb388, 1, none⟩) (Kd.Q_far (p := ⟨gb388, 0, none⟩) (Kd.Q_types HO373.out BK388.out (by decide)) (fun _ hk => hk.2) (.int .i64 t382)) (fun _ hk => hk.2) (.int .i64 t383)) (fun _ hk => hk.2) (.slice Ao43 t384.length co43)) (fun _ hk => hk.2) (.int .i64 t387)) (fun _ hk => ⟨hk.1.1.1.1.2, ⟨hk.1.1.1.2, ⟨hk.1.1.2, hk.1.2⟩⟩⟩)⟩, ⟨by (with_reducible repeat (first | apply Kd.R_alloc | apply Kd.R_drewN | apply Kd.R_drew)); exact Kd.R_mono (Kd.R_far (p := ⟨gb388, 3, none⟩) (Kd.R_far (p := ⟨gb388, 2, none⟩) (Kd.R_far (p := ⟨gb388, 1, none⟩) (Kd.R_far (p := ⟨gb388, 0, none⟩) (Kd.R_types HO379.out BK388.out (by decide)) (fun _ hk => hk.2) (.int .i64 t382)) (fun _ hk => hk.2) (.int .i64 t383)) (fun _ hk => hk.2) (.slice Ao43 t384.length co43)) (fun _ hk => hk.2) (.int .i64 t387)) (fun _ hk => ⟨hk.1.1.1.1.2, ⟨hk.1.1.1.2, ⟨hk.1.1.2, hk.1.2⟩⟩⟩)⟩, ⟨by (with_reducible repeat (first | apply Kd.R_alloc | apply Kd.R_drewN | apply Kd.R_drew)); exact Kd.R_mono (Kd.R_far (p := ⟨gb388, 3, none⟩) (Kd.R_far (p := ⟨gb388, 2, none⟩) (Kd.R_far (p := ⟨gb388, 1, none⟩) (Kd.R_far (p := ⟨gb388, 0, none⟩) (Kd.R_types HO386.out BK388.out (by decide)) (fun _ hk => hk.2) (.int .i64 t382)) (fun _ hk => hk.2) (.int .i64 t383)) (fun _ hk => hk.2) (.slice Ao43 t384.length co43)) (fun _ hk => hk.2) (.int .i64 t387)) (fun _ hk => ⟨hk.1.1.1.1.2, ⟨hk.1.1.1.2, ⟨hk.1.1.2, hk.1.2⟩⟩⟩)⟩, ⟨Cz.f BK367.out NB367_388.out⟩, ⟨Cz.f BK368.out NB368_388.out⟩, ⟨Cz.f BK374.out NB374_388.out⟩, ⟨Cz.f BK381.out NB381_388.out⟩, ⟨Cz.p4 BK388.out⟩, ⟨Cz.w HB.out⟩⟩
    case rest =>
     clear HC10
     try clear c1
     try clear c2
     try clear p2
     try clear c3
     try clear c4
     try clear c4b0
     try clear c4b1
     try clear c5
     try clear c6
     try clear c10
     try clear c14
     try clear c21
     try clear c22
     try clear c29
     try clear c30
     try clear c31
     try clear c38
     try clear c39
     try clear c40
     try clear c41
     try clear c44
     try clear c44b0
     try clear c44b1
     try clear c46
     try clear c47
     try clear c48
     try clear c49
     try clear c51
     try clear c52
     try clear c53
     try clear c56
     try clear c57
     try clear c58
     try clear c59
     try clear c61
     try clear c62
     try clear c63
     try clear hcz15_0
     try clear hcz15_1
     try clear hcz15_2
     try clear hcz17_0
     try clear hcz17_1
     try clear hcz17_2
     try clear hcz23_0
     try clear hcz23_1
     try clear hcz23_2
     try clear hcz25_0
     try clear hcz25_1
     try clear hcz25_2
     try clear hcz26_0
     try clear hcz26_1
     try clear hcz26_2
     try clear hcz32_0
     try clear hcz32_1
     try clear hcz32_2
     try clear hcz32_3
     try clear hcz34_0
     try clear hcz34_1
     try clear hcz34_2
     try clear hcz35_0
     try clear hcz35_1
     try clear hcz35_2
     try clear hcz42_0
     try clear hcz42_1
     try clear hcz42_2
     try clear hcz42_3
     try clear hcz50_0
     try clear hcz50_1
     try clear hcz50_2
     try clear hcz50_3
     try clear hcz54_0
     try clear hcz54_1
     try clear hcz54_2
     try clear hcz54_3
     try clear hcz60_0
     try clear hcz60_1
     try clear hcz60_2
     try clear hcz60_3
     try clear hcz64_0
     try clear hcz64_1
     try clear hcz64_2
     try clear hcz64_3
     try clear hfz15_0
     try clear hfz15_1
     try clear hfz15_2
     try clear hfz17_0
     try clear hfz17_1
     try clear hfz17_2
     try clear hfz23_0
     try clear hfz23_1
     try clear hfz23_2
     try clear hfz25_0
     try clear hfz25_1
     try clear hfz25_2
     try clear hfz26_0
     try clear hfz26_1
     try clear hfz26_2
     try clear hfz32_0
     try clear hfz32_1
     try clear hfz32_2
     try clear hfz32_3
     try clear hfz34_0
     try clear hfz34_1
     try clear hfz34_2
     try clear hfz35_0
     try clear hfz35_1
     try clear hfz35_2
     try clear hfz42_0
     try clear hfz42_1
     try clear hfz42_2
     try clear hfz42_3
     try clear hfz50_0
     try clear hfz50_1
     try clear hfz50_2
     try clear hfz50_3
     try clear hfz54_0
     try clear hfz54_1
     try clear hfz54_2
     try clear hfz54_3
     try clear hfz60_0
     try clear hfz60_1
     try clear hfz60_2
     try clear hfz60_3
     try clear hfz64_0
     try clear hfz64_1
     try clear hfz64_2
     try clear hfz64_3
     try clear p2
     obtain ⟨kq, x48_9, rfl, HA, HJ9, HO_368002, HO_369002, HO_375002, HO_382002, HO_389002, BK367, BK368, BK374, BK381, BK388, HB⟩ := hcut
     cases kq with
     | zero => exact absurd HA.out (by simp [laws_FnMatrix.j1])
     | succ kj9 =>
      have H := HA.out
      clear HA
      simp only [laws_FnMatrix.j1] at H
      by_cases c65 : x48_9 = true
      ·subst c65
       have H1 : (none) = some r := by rw [if_pos rfl] at H; exact H
       clear H
       have H := H1
       clear H1
       exact absurd H (by simp)
      ·replace c65 := Bool.eq_false_iff.mpr c65
       subst c65
       have H1 : (if t380 = 0 then ((impl_MatrixMul.f kj9 t375 t376 t377 t363 t362 t364).bind fun bt391 => ((impl_MatrixMul.f kj9 t362 t363 t364 t363 t362 t364).bind fun bt398 => ((impl_MatrixMul.f kj9 t357 t358 t359 bt398.1 bt398.2.1 bt398.2.2.1).bind fun bt404 => (if bt391.2.2.2 = 0 then ((laws_lwSame.f kj9 bt391.1 bt391.2.1 bt391.2.2.1 bt404.1 bt404.2.1 bt404.2.2.1).bind fun t411 => (if t411 = true then (laws_FnMatrix.j2 kj9 t369 t370 t371) else (none))) else (none))))) else (laws_FnMatrix.j2 kj9 t369 t370 t371)) = some r := by rw [if_neg (show ¬ (false = true) by decide)] at H; exact H
       clear H
       have H := H1
       clear H1
       have HC66 := Aside0.mk H
       clear H
       have hnb67 := NB381_367.out
       have hnc67 := NB367_381.out
       have hnb68 := NB381_368.out
       have hnc68 := NB368_381.out
       have hnb69 := NB381_374.out
       have hnc69 := NB374_381.out
       have hnb70 := NB381_388.out
       have hnc70 := NB388_381.out
       obtain ⟨hcz71_0, hcz71_1, hcz71_2, hcz71_3, hfz71_0, hfz71_1, hfz71_2, hfz71_3⟩ := Cy.z4 BK381.out
       go_upto_if 51 with (fail)
       go_cut [] (fun wc => ∃ (kq : Nat), Aside0 (laws_FnMatrix.j2 kq t369 t370 t371 = some r) ∧ Aside0 (kq ≤ kj9) ∧ Aside0 (Kd.Q (Kd.int .i64) 2 wc w.heap.size (fun k_ => some k_ ≠ ((.slice Ao18 t364.length co18) : Value).ownBlock ∧ some k_ ≠ ((.slice Ao24 t371.length co24) : Value).ownBlock ∧ some k_ ≠ ((.slice Ao33 t377.length co33) : Value).ownBlock ∧ some k_ ≠ ((.slice Ao43 t384.length co43) : Value).ownBlock) (.slice Ao16 t359.length co16) t359) ∧ Aside0 (Kd.Q (Kd.int .i64) 2 wc w.heap.size (fun k_ => some k_ ≠ ((.slice Ao16 t359.length co16) : Value).ownBlock ∧ some k_ ≠ ((.slice Ao24 t371.length co24) : Value).ownBlock ∧ some k_ ≠ ((.slice Ao33 t377.length co33) : Value).ownBlock ∧ some k_ ≠ ((.slice Ao43 t384.length co43) : Value).ownBlock) (.slice Ao18 t364.length co18) t364) ∧ Aside0 (Kd.Q (Kd.int .i64) 2 wc w.heap.size (fun k_ => some k_ ≠ ((.slice Ao16 t359.length co16) : Value).ownBlock ∧ some k_ ≠ ((.slice Ao18 t364.length co18) : Value).ownBlock ∧ some k_ ≠ ((.slice Ao33 t377.length co33) : Value).ownBlock ∧ some k_ ≠ ((.slice Ao43 t384.length co43) : Value).ownBlock) (.slice Ao24 t371.length co24) t371) ∧ Aside0 (Kd.R (Kd.int .i64) 2 wc w.heap.size (fun k_ => some k_ ≠ ((.slice Ao16 t359.length co16) : Value).ownBlock ∧ some k_ ≠ ((.slice Ao18 t364.length co18) : Value).ownBlock ∧ some k_ ≠ ((.slice Ao24 t371.length co24) : Value).ownBlock ∧ some k_ ≠ ((.slice Ao43 t384.length co43) : Value).ownBlock) (.slice Ao33 t377.length co33) t377) ∧ Aside0 (Kd.R (Kd.int .i64) 2 wc w.heap.size (fun k_ => some k_ ≠ ((.slice Ao16 t359.length co16) : Value).ownBlock ∧ some k_ ≠ ((.slice Ao18 t364.length co18) : Value).ownBlock ∧ some k_ ≠ ((.slice Ao24 t371.length co24) : Value).ownBlock ∧ some k_ ≠ ((.slice Ao33 t377.length co33) : Value).ownBlock) (.slice Ao43 t384.length co43) t384) ∧ Aside0 (wc.heap[gb367]? = some (.cells #[.int .i64 t357, .int .i64 t358, (.slice Ao16 t359.length co16)] 27 (0, 0))) ∧ Aside0 (wc.heap[gb368]? = some (.cells #[.int .i64 t362, .int .i64 t363, (.slice Ao18 t364.length co18)] 27 (0, 0))) ∧ Aside0 (wc.heap[gb374]? = some (.cells #[.int .i64 t369, .int .i64 t370, (.slice Ao24 t371.length co24)] 27 (0, 0))) ∧ Aside0 (wc.heap[gb381]? = some (.cells #[.int .i64 t375, .int .i64 t376, (.slice Ao33 t377.length co33), .int .i64 t380] 35 (0, 0))) ∧ Aside0 (wc.heap[gb388]? = some (.cells #[.int .i64 t382, .int .i64 t383, (.slice Ao43 t384.length co43), .int .i64 t387] 35 (0, 0))) ∧ Aside0 (Below w.heap.size w wc))
       case first =>
        have H := HC66.out
        clear HC66
        by_cases c72 : t380 = 0
        ·rw [if_pos c72] at H
         have c72b0 : (t380 == 0) = true := beq_iff_eq.mpr c72
         have c72b1 : (t380 != 0) = false := bne_eq_false_iff_eq.mpr c72
         clear c72
         (first | rw [c72b0] | (simp only [i64_w, i32_w]; rw [c72b0]) | skip)
         replace H := Option.bind_eq_some_iff.mp H
         obtain ⟨⟨t391, t392, t393, t396⟩, A730, H⟩ := H
         replace H : ((impl_MatrixMul.f kj9 t362 t363 t364 t363 t362 t364).bind fun bt398 => ((impl_MatrixMul.f kj9 t357 t358 t359 bt398.1 bt398.2.1 bt398.2.2.1).bind fun bt404 => (if t396 = 0 then ((laws_lwSame.f kj9 t391 t392 t393 bt404.1 bt404.2.1 bt404.2.2.1).bind fun t411 => (if t411 = true then (laws_FnMatrix.j2 kj9 t369 t370 t371) else (none))) else (none)))) = some r := H
         have A73 := Aside0.mk A730
         clear A730
         replace H := Option.bind_eq_some_iff.mp H
         obtain ⟨⟨t398, t399, t400, t403⟩, A740, H⟩ := H
         replace H : ((impl_MatrixMul.f kj9 t357 t358 t359 t398 t399 t400).bind fun bt404 => (if t396 = 0 then ((laws_lwSame.f kj9 t391 t392 t393 bt404.1 bt404.2.1 bt404.2.2.1).bind fun t411 => (if t411 = true then (laws_FnMatrix.j2 kj9 t369 t370 t371) else (none))) else (none))) = some r := H
         have A74 := Aside0.mk A740
         clear A740
         replace H := Option.bind_eq_some_iff.mp H
         obtain ⟨⟨t404, t405, t406, t409⟩, A750, H⟩ := H
         replace H : (if t396 = 0 then ((laws_lwSame.f kj9 t391 t392 t393 t404 t405 t406).bind fun t411 => (if t411 = true then (laws_FnMatrix.j2 kj9 t369 t370 t371) else (none))) else (none)) = some r := H
         have A75 := Aside0.mk A750
         clear A750
         by_cases c76 : t396 = 0
         ·rw [if_pos c76] at H
          have c76b0 : (t396 == 0) = true := beq_iff_eq.mpr c76
          have c76b1 : (t396 != 0) = false := bne_eq_false_iff_eq.mpr c76
          clear c76
          replace H := Option.bind_eq_some_iff.mp H
          obtain ⟨t411, A770, H⟩ := H
          replace H : (if t411 = true then (laws_FnMatrix.j2 kj9 t369 t370 t371) else (none)) = some r := H
          have A77 := Aside0.mk A770
          clear A770
          by_cases c78 : t411 = true
          ·subst c78
           have H1 : (laws_FnMatrix.j2 kj9 t369 t370 t371) = some r := by rw [if_pos rfl] at H; exact H
           clear H
           have H := H1
           clear H1
           have H' := Aside0.mk H
           clear H
           have hnb79 := NB368_367.out
           have hnc79 := NB367_368.out
           have hnb80 := NB368_374.out
           have hnc80 := NB374_368.out
           have hnb81 := NB368_381.out
           have hnc81 := NB381_368.out
           have hnb82 := NB368_388.out
           have hnc82 := NB388_368.out
           obtain ⟨hcz83_0, hcz83_1, hcz83_2, hfz83_0, hfz83_1, hfz83_2⟩ := Cy.z3 BK368.out
           try go_wp2_with (first | ((with_reducible refine gate_dst (N := 10) rfl ?_); (try (refine gate_guard (by rfl) ?_; dsimp only)); refine box_event ?hg (N := 10) ?hd (cs := #[.int .i64 0, .int .i64 0, .slice none 0 0]) (t := 27) ?hr ?_; (case hd => rfl); (case hg => rfl); (case hr => first | (go_simp; done) | (go_simp; rfl)); intro gb390 hg w84 hbox hb; have n_ := Cy.a24 (Kd.Q_below (Cy.q HO_368002.out) hb) (Kd.Q_below (Cy.q HO_369002.out) hb) (Kd.Q_below (Cy.q HO_375002.out) hb) (Kd.R_below (Cz.r HO_382002.out) hb) (Kd.R_below (Cz.r HO_389002.out) hb) (blk_below (g := gb367) (o := .cells #[.int .i64 t357, .int .i64 t358, .slice Ao16 t359.length co16] 27 (0, 0)) (Cz.b BK367.out) hb) (blk_below (g := gb368) (o := .cells #[.int .i64 t362, .int .i64 t363, .slice Ao18 t364.length co18] 27 (0, 0)) (Cz.b BK368.out) hb) (blk_below (g := gb374) (o := .cells #[.int .i64 t369, .int .i64 t370, .slice Ao24 t371.length co24] 27 (0, 0)) (Cz.b BK374.out) hb) (blk_below (g := gb381) (o := .cells #[.int .i64 t375, .int .i64 t376, .slice Ao33 t377.length co33, .int .i64 t380] 35 (0, 0)) (Cz.b BK381.out) hb) (blk_below (g := gb388) (o := .cells #[.int .i64 t382, .int .i64 t383, .slice Ao43 t384.length co43, .int .i64 t387] 35 (0, 0)) (Cz.b BK388.out) hb) (below_step (Cz.w HB.out) hb) hbox (Cy.gw hg HB.out) (Cy.gw hg HB.out) (by rw [hg]; exact Nat.ne_of_lt (blk_lt (g := gb367) (o := .cells #[.int .i64 t357, .int .i64 t358, .slice Ao16 t359.length co16] 27 (0, 0)) (Cz.b BK367.out)) : gb367 ≠ gb390) (by rw [hg]; exact Nat.ne_of_gt (blk_lt (g := gb367) (o := .cells #[.int .i64 t357, .int .i64 t358, .slice Ao16 t359.length co16] 27 (0, 0)) (Cz.b BK367.out)) : gb390 ≠ gb367) (by rw [hg]; exact Nat.ne_of_lt (blk_lt (g := gb368) (o := .cells #[.int .i64 t362, .int .i64 t363, .slice Ao18 t364.length co18] 27 (0, 0)) (Cz.b BK368.out)) : gb368 ≠ gb390) (by rw [hg]; exact Nat.ne_of_gt (blk_lt (g := gb368) (o := .cells #[.int .i64 t362, .int .i64 t363, .slice Ao18 t364.length co18] 27 (0, 0)) (Cz.b BK368.out)) : gb390 ≠ gb368) (by rw [hg]; exact Nat.ne_of_lt (blk_lt (g := gb374) (o := .cells #[.int .i64 t369, .int .i64 t370, .slice Ao24 t371.length co24] 27 (0, 0)) (Cz.b BK374.out)) : gb374 ≠ gb390) (by rw [hg]; exact Nat.ne_of_gt (blk_lt (g := gb374) (o := .cells #[.int .i64 t369, .int .i64 t370, .slice Ao24 t371.length co24] 27 (0, 0)) (Cz.b BK374.out)) : gb390 ≠ gb374) (by rw [hg]; exact Nat.ne_of_lt (blk_lt (g := gb381) (o := .cells #[.int .i64 t375, .int .i64 t376, .slice Ao33 t377.length co33, .int .i64 t380] 35 (0, 0)) (Cz.b BK381.out)) : gb381 ≠ gb390) (by rw [hg]; exact Nat.ne_of_gt (blk_lt (g := gb381) (o := .cells #[.int .i64 t375, .int .i64 t376, .slice Ao33 t377.length co33, .int .i64 t380] 35 (0, 0)) (Cz.b BK381.out)) : gb390 ≠ gb381) (by rw [hg]; exact Nat.ne_of_lt (blk_lt (g := gb388) (o := .cells #[.int .i64 t382, .int .i64 t383, .slice Ao43 t384.length co43, .int .i64 t387] 35 (0, 0)) (Cz.b BK388.out)) : gb388 ≠ gb390) (by rw [hg]; exact Nat.ne_of_gt (blk_lt (g := gb388) (o := .cells #[.int .i64 t382, .int .i64 t383, .slice Ao43 t384.length co43, .int .i64 t387] 35 (0, 0)) (Cz.b BK388.out)) : gb390 ≠ gb388); clear HO_368002 HO_369002 HO_375002 HO_382002 HO_389002 BK367 BK368 BK374 BK381 BK388 HB; obtain ⟨HO_368002, HO_369002, HO_375002, HO_382002, HO_389002, BK367, BK368, BK374, BK381, BK388, HB, BK390, GW390, GE390, NB367_390, NB390_367, NB368_390, NB390_368, NB374_390, NB390_374, NB381_390, NB390_381, NB388_390, NB390_388⟩ := n_; clear hb hbox hg; have hnb85 := NB390_367.out; have hnc85 := NB367_390.out; have hnb86 := NB390_368.out; have hnc86 := NB368_390.out; have hnb87 := NB390_374.out; have hnc87 := NB374_390.out; have hnb88 := NB390_381.out; have hnc88 := NB381_390.out; have hnb89 := NB390_388.out; have hnc89 := NB388_390.out; obtain ⟨hcz90_0, hcz90_1, hcz90_2, hfz90_0, hfz90_1, hfz90_2⟩ := Cy.z3 BK390.out; have hnb91 := NB381_367.out; have hnc91 := NB367_381.out; have hnb92 := NB381_374.out; have hnc92 := NB374_381.out; have hnb93 := NB381_388.out; have hnc93 := NB388_381.out; obtain ⟨hcz94_0, hcz94_1, hcz94_2, hcz94_3, hfz94_0, hfz94_1, hfz94_2, hfz94_3⟩ := Cy.z4 BK381.out) | ((with_reducible refine gate_callee (f := 31) rfl ?_); refine goesL_ (some 62) rfl rfl Try.func31 (by kernel_rfl) rfl #[.agg #[.int .i64 t375, .int .i64 t376, .slice Ao33 t377.length co33], .agg #[.int .i64 t363, .int .i64 t362, .slice Ao18 t364.length co18]] rfl Cy.ls ?_; (with_reducible refine (impl_MatrixMul.calls kj9 t375 t376 _ _ t377 t363 t362 _ _ t364 t391 t392 t393 t396 _ ?side1 ?side2 ?side3 ?side4 A73.out).mono ?_); (case side1 => refine (Kd.R_reads' (e := 2) (base := w.heap.size) (ok := fun k_ => (some k_ ≠ (.slice Ao16 t359.length co16 : Value).ownBlock ∧ (some k_ ≠ (.slice Ao18 t364.length co18 : Value).ownBlock ∧ (some k_ ≠ (.slice Ao24 t371.length co24 : Value).ownBlock ∧ some k_ ≠ (.slice Ao43 t384.length co43 : Value).ownBlock)))) (n := t377.length) (c := co33) ?_).2.2; exact (Cz.q3 HO_382002.out BK390.out)); (case side2 => exact (Kd.R_reads' HO_382002.out).2.1); (case side3 => refine (Kd.Q_reads' (e := 2) (base := w.heap.size) (ok := fun k_ => (some k_ ≠ (.slice Ao16 t359.length co16 : Value).ownBlock ∧ (some k_ ≠ (.slice Ao24 t371.length co24 : Value).ownBlock ∧ (some k_ ≠ (.slice Ao33 t377.length co33 : Value).ownBlock ∧ some k_ ≠ (.slice Ao43 t384.length co43 : Value).ownBlock)))) (n := t364.length) (c := co18) ?_).2.2; exact (by (with_reducible repeat (first | apply Kd.Q_alloc | apply Kd.Q_drewN | apply Kd.Q_drew)); exact (Kd.Q_mono (Kd.Q_far (p := ⟨gb390, 2, none⟩) (Kd.Q_far (p := ⟨gb390, 1, none⟩) (Kd.Q_far (p := ⟨gb390, 0, none⟩) (Kd.Q_types HO_369002.out BK390.out (by decide)) (fun _ hk => hk.2) (.int .i64 t363)) (fun _ hk => hk.2) (.int .i64 t362)) (fun _ hk => hk.2) (.slice Ao18 t364.length co18)) (fun _ h_ => h_.1)))); (case side4 => exact (Kd.Q_reads' HO_369002.out).2.1); rintro e w95 ⟨v394, rfl, ho0, hb⟩; refine ⟨_, rfl, ?_⟩; have n_ := Cy.a13 (Kd.Q_elder' (by (with_reducible repeat (first | apply Kd.Q_alloc | apply Kd.Q_drewN | apply Kd.Q_drew)); exact (Kd.Q_mono (Kd.Q_far (p := ⟨gb390, 2, none⟩) (Kd.Q_far (p := ⟨gb390, 1, none⟩) (Kd.Q_far (p := ⟨gb390, 0, none⟩) (Kd.Q_types HO_368002.out BK390.out (by decide)) (fun _ hk => hk.2) (.int .i64 t363)) (fun _ hk => hk.2) (.int .i64 t362)) (fun _ hk => hk.2) (.slice Ao18 t364.length co18)) (fun _ h_ => h_.1))) (Kd.R_base ho0) hb) (Kd.Q_elder' (by (with_reducible repeat (first | apply Kd.Q_alloc | apply Kd.Q_drewN | apply Kd.Q_drew)); exact (Kd.Q_mono (Kd.Q_far (p := ⟨gb390, 2, none⟩) (Kd.Q_far (p := ⟨gb390, 1, none⟩) (Kd.Q_far (p := ⟨gb390, 0, none⟩) (Kd.Q_types HO_369002.out BK390.out (by decide)) (fun _ hk => hk.2) (.int .i64 t363)) (fun _ hk => hk.2) (.int .i64 t362)) (fun _ hk => hk.2) (.slice Ao18 t364.length co18)) (fun _ h_ => h_.1))) (Kd.R_base ho0) hb) (Kd.Q_elder' (by (with_reducible repeat (first | apply Kd.Q_alloc | apply Kd.Q_drewN | apply Kd.Q_drew)); exact (Kd.Q_mono (Kd.Q_far (p := ⟨gb390, 2, none⟩) (Kd.Q_far (p := ⟨gb390, 1, none⟩) (Kd.Q_far (p := ⟨gb390, 0, none⟩) (Kd.Q_types HO_375002.out BK390.out (by decide)) (fun _ hk => hk.2) (.int .i64 t363)) (fun _ hk => hk.2) (.int .i64 t362)) (fun _ hk => hk.2) (.slice Ao18 t364.length co18)) (fun _ h_ => h_.1))) (Kd.R_base ho0) hb) (Kd.R_elder' (Cz.q3 HO_382002.out BK390.out) (Kd.R_base ho0) hb) (Kd.R_elder' (Cz.q3 HO_389002.out BK390.out) (Kd.R_base ho0) hb) (Kd.R_lower (Kd.R_new' (Kd.R_new' (Kd.R_new' (Kd.R_new' (Kd.R_new' ho0 (Kd.Q_lt (by (with_reducible repeat (first | apply Kd.Q_alloc | apply Kd.Q_drewN | apply Kd.Q_drew)); exact (Kd.Q_mono (Kd.Q_far (p := ⟨gb390, 2, none⟩) (Kd.Q_far (p := ⟨gb390, 1, none⟩) (Kd.Q_far (p := ⟨gb390, 0, none⟩) (Kd.Q_types HO_368002.out BK390.out (by decide)) (fun _ hk => hk.2) (.int .i64 t363)) (fun _ hk => hk.2) (.int .i64 t362)) (fun _ hk => hk.2) (.slice Ao18 t364.length co18)) (fun _ h_ => h_.1))))) (Kd.Q_lt (by (with_reducible repeat (first | apply Kd.Q_alloc | apply Kd.Q_drewN | apply Kd.Q_drew)); exact (Kd.Q_mono (Kd.Q_far (p := ⟨gb390, 2, none⟩) (Kd.Q_far (p := ⟨gb390, 1, none⟩) (Kd.Q_far (p := ⟨gb390, 0, none⟩) (Kd.Q_types HO_369002.out BK390.out (by decide)) (fun _ hk => hk.2) (.int .i64 t363)) (fun _ hk => hk.2) (.int .i64 t362)) (fun _ hk => hk.2) (.slice Ao18 t364.length co18)) (fun _ h_ => h_.1))))) (Kd.Q_lt (by (with_reducible repeat (first | apply Kd.Q_alloc | apply Kd.Q_drewN | apply Kd.Q_drew)); exact (Kd.Q_mono (Kd.Q_far (p := ⟨gb390, 2, none⟩) (Kd.Q_far (p := ⟨gb390, 1, none⟩) (Kd.Q_far (p := ⟨gb390, 0, none⟩) (Kd.Q_types HO_375002.out BK390.out (by decide)) (fun _ hk => hk.2) (.int .i64 t363)) (fun _ hk => hk.2) (.int .i64 t362)) (fun _ hk => hk.2) (.slice Ao18 t364.length co18)) (fun _ h_ => h_.1))))) (Kd.R_lt (Cz.q3 HO_382002.out BK390.out))) (Kd.R_lt (Cz.q3 HO_389002.out BK390.out))) (below_size (Cz.w HB.out))) (blk_below (g := gb367) (o := .cells #[.int .i64 t357, .int .i64 t358, .slice Ao16 t359.length co16] 27 (0, 0)) (Cz.f BK367.out NB367_390.out) hb) (blk_below (g := gb368) (o := .cells #[.int .i64 t362, .int .i64 t363, .slice Ao18 t364.length co18] 27 (0, 0)) (Cz.f BK368.out NB368_390.out) hb) (blk_below (g := gb374) (o := .cells #[.int .i64 t369, .int .i64 t370, .slice Ao24 t371.length co24] 27 (0, 0)) (Cz.f BK374.out NB374_390.out) hb) (blk_below (g := gb381) (o := .cells #[.int .i64 t375, .int .i64 t376, .slice Ao33 t377.length co33, .int .i64 t380] 35 (0, 0)) (Cz.f BK381.out NB381_390.out) hb) (blk_below (g := gb388) (o := .cells #[.int .i64 t382, .int .i64 t383, .slice Ao43 t384.length co43, .int .i64 t387] 35 (0, 0)) (Cz.f BK388.out NB388_390.out) hb) (blk_below (g := gb390) (o := .cells #[.int .i64 t363, .int .i64 t362, .slice Ao18 t364.length co18] 27 (0, 0)) (Cz.p3 BK390.out) hb) (below_step (Cz.w HB.out) hb); clear HO_368002 HO_369002 HO_375002 HO_382002 HO_389002 BK367 BK368 BK374 BK381 BK388 BK390 HB; obtain ⟨HO_368002, HO_369002, HO_375002, HO_382002, HO_389002, HO395, BK367, BK368, BK374, BK381, BK388, BK390, HB⟩ := n_; (try clear hb); (try clear hb2); (try clear hk); (try clear hi); (try clear ho0)) | ((with_reducible refine gate_dst (N := 11) rfl ?_); (try (refine gate_guard (by rfl) ?_; dsimp only)); refine box_event ?hg (N := 11) ?hd (cs := #[.int .i64 0, .int .i64 0, .slice none 0 0, .int .i64 0]) (t := 35) ?hr ?_; (case hd => rfl); (case hg => rfl); (case hr => first | (go_simp; done) | (go_simp; rfl)); intro gb397 hg w96 hbox hb; have n0_ := Aside0.mk (Kd.Q_below (Cy.q HO_368002.out) hb); have n1_ := Aside0.mk (Kd.Q_below (Cy.q HO_369002.out) hb); have n2_ := Aside0.mk (Kd.Q_below (Cy.q HO_375002.out) hb); have n3_ := Aside0.mk (Kd.R_below (Cz.r HO_382002.out) hb); have n4_ := Aside0.mk (Kd.R_below (Cz.r HO_389002.out) hb); have n5_ := Aside0.mk (Kd.R_below (Cz.r HO395.out) hb); have n6_ := Aside0.mk (blk_below (g := gb367) (o := .cells #[.int .i64 t357, .int .i64 t358, .slice Ao16 t359.length co16] 27 (0, 0)) (Cz.b BK367.out) hb); have n7_ := Aside0.mk (blk_below (g := gb368) (o := .cells #[.int .i64 t362, .int .i64 t363, .slice Ao18 t364.length co18] 27 (0, 0)) (Cz.b BK368.out) hb); have n8_ := Aside0.mk (blk_below (g := gb374) (o := .cells #[.int .i64 t369, .int .i64 t370, .slice Ao24 t371.length co24] 27 (0, 0)) (Cz.b BK374.out) hb); have n9_ := Aside0.mk (blk_below (g := gb381) (o := .cells #[.int .i64 t375, .int .i64 t376, .slice Ao33 t377.length co33, .int .i64 t380] 35 (0, 0)) (Cz.b BK381.out) hb); have n10_ := Aside0.mk (blk_below (g := gb388) (o := .cells #[.int .i64 t382, .int .i64 t383, .slice Ao43 t384.length co43, .int .i64 t387] 35 (0, 0)) (Cz.b BK388.out) hb); have n11_ := Aside0.mk (blk_below (g := gb390) (o := .cells #[.int .i64 t363, .int .i64 t362, .slice Ao18 t364.length co18] 27 (0, 0)) (Cz.b BK390.out) hb); have n12_ := Aside0.mk (below_step (Cz.w HB.out) hb); have n13_ := Aside0.mk (hbox); have n14_ := Aside0.mk (Cy.gw hg HB.out); have n15_ := Aside0.mk (Cy.gw hg HB.out); have n16_ := Aside0.mk ((by rw [hg]; exact Nat.ne_of_lt (blk_lt (g := gb367) (o := .cells #[.int .i64 t357, .int .i64 t358, .slice Ao16 t359.length co16] 27 (0, 0)) (Cz.b BK367.out)) : gb367 ≠ gb397)); have n17_ := Aside0.mk ((by rw [hg]; exact Nat.ne_of_gt (blk_lt (g := gb367) (o := .cells #[.int .i64 t357, .int .i64 t358, .slice Ao16 t359.length co16] 27 (0, 0)) (Cz.b BK367.out)) : gb397 ≠ gb367)); have n18_ := Aside0.mk ((by rw [hg]; exact Nat.ne_of_lt (blk_lt (g := gb368) (o := .cells #[.int .i64 t362, .int .i64 t363, .slice Ao18 t364.length co18] 27 (0, 0)) (Cz.b BK368.out)) : gb368 ≠ gb397)); have n19_ := Aside0.mk ((by rw [hg]; exact Nat.ne_of_gt (blk_lt (g := gb368) (o := .cells #[.int .i64 t362, .int .i64 t363, .slice Ao18 t364.length co18] 27 (0, 0)) (Cz.b BK368.out)) : gb397 ≠ gb368)); have n20_ := Aside0.mk ((by rw [hg]; exact Nat.ne_of_lt (blk_lt (g := gb374) (o := .cells #[.int .i64 t369, .int .i64 t370, .slice Ao24 t371.length co24] 27 (0, 0)) (Cz.b BK374.out)) : gb374 ≠ gb397)); have n21_ := Aside0.mk ((by rw [hg]; exact Nat.ne_of_gt (blk_lt (g := gb374) (o := .cells #[.int .i64 t369, .int .i64 t370, .slice Ao24 t371.length co24] 27 (0, 0)) (Cz.b BK374.out)) : gb397 ≠ gb374)); have n22_ := Aside0.mk ((by rw [hg]; exact Nat.ne_of_lt (blk_lt (g := gb381) (o := .cells #[.int .i64 t375, .int .i64 t376, .slice Ao33 t377.length co33, .int .i64 t380] 35 (0, 0)) (Cz.b BK381.out)) : gb381 ≠ gb397)); have n23_ := Aside0.mk ((by rw [hg]; exact Nat.ne_of_gt (blk_lt (g := gb381) (o := .cells #[.int .i64 t375, .int .i64 t376, .slice Ao33 t377.length co33, .int .i64 t380] 35 (0, 0)) (Cz.b BK381.out)) : gb397 ≠ gb381)); have n24_ := Aside0.mk ((by rw [hg]; exact Nat.ne_of_lt (blk_lt (g := gb388) (o := .cells #[.int .i64 t382, .int .i64 t383, .slice Ao43 t384.length co43, .int .i64 t387] 35 (0, 0)) (Cz.b BK388.out)) : gb388 ≠ gb397)); have n25_ := Aside0.mk ((by rw [hg]; exact Nat.ne_of_gt (blk_lt (g := gb388) (o := .cells #[.int .i64 t382, .int .i64 t383, .slice Ao43 t384.length co43, .int .i64 t387] 35 (0, 0)) (Cz.b BK388.out)) : gb397 ≠ gb388)); have n26_ := Aside0.mk ((by rw [hg]; exact Nat.ne_of_lt (blk_lt (g := gb390) (o := .cells #[.int .i64 t363, .int .i64 t362, .slice Ao18 t364.length co18] 27 (0, 0)) (Cz.b BK390.out)) : gb390 ≠ gb397)); have n27_ := Aside0.mk ((by rw [hg]; exact Nat.ne_of_gt (blk_lt (g := gb390) (o := .cells #[.int .i64 t363, .int .i64 t362, .slice Ao18 t364.length co18] 27 (0, 0)) (Cz.b BK390.out)) : gb397 ≠ gb390)); clear HO_368002 HO_369002 HO_375002 HO_382002 HO_389002 HO395 BK367 BK368 BK374 BK381 BK388 BK390 HB; have HO_368002 := n0_; have HO_369002 := n1_; have HO_375002 := n2_; have HO_382002 := n3_; have HO_389002 := n4_; have HO395 := n5_; have BK367 := n6_; have BK368 := n7_; have BK374 := n8_; have BK381 := n9_; have BK388 := n10_; have BK390 := n11_; have HB := n12_; have BK397 := n13_; have GW397 := n14_; have GE397 := n15_; have NB367_397 := n16_; have NB397_367 := n17_; have NB368_397 := n18_; have NB397_368 := n19_; have NB374_397 := n20_; have NB397_374 := n21_; have NB381_397 := n22_; have NB397_381 := n23_; have NB388_397 := n24_; have NB397_388 := n25_; have NB390_397 := n26_; have NB397_390 := n27_; clear n0_ n1_ n2_ n3_ n4_ n5_ n6_ n7_ n8_ n9_ n10_ n11_ n12_ n13_ n14_ n15_ n16_ n17_ n18_ n19_ n20_ n21_ n22_ n23_ n24_ n25_ n26_ n27_; clear hb hbox hg; have hnb97 := NB397_367.out; have hnc97 := NB367_397.out; have hnb98 := NB397_368.out; have hnc98 := NB368_397.out; have hnb99 := NB397_374.out; have hnc99 := NB374_397.out; have hnb100 := NB397_381.out; have hnc100 := NB381_397.out; have hnb101 := NB397_388.out; have hnc101 := NB388_397.out; have hnb102 := NB397_390.out; have hnc102 := NB390_397.out; obtain ⟨hcz103_0, hcz103_1, hcz103_2, hcz103_3, hfz103_0, hfz103_1, hfz103_2, hfz103_3⟩ := Cy.z4 BK397.out; obtain ⟨Ao104, co104, eo104⟩ := Kd.R_slice HO395.out; subst eo104))
           have n0_ : Aside0 (Kd.Q (Kd.int .i64) 2 ((((w96.setCell ⟨gb397, 0, none⟩ (.int .i64 t391)).setCell ⟨gb397, 1, none⟩ (.int .i64 t392)).setCell ⟨gb397, 2, none⟩ (.slice Ao104 t393.length co104)).setCell ⟨gb397, 3, none⟩ (.int .i64 t396)) w.heap.size (fun k_ => some k_ ≠ (.slice Ao18 t364.length co18 : Value).ownBlock ∧ some k_ ≠ (.slice Ao24 t371.length co24 : Value).ownBlock ∧ some k_ ≠ (.slice Ao33 t377.length co33 : Value).ownBlock ∧ some k_ ≠ (.slice Ao43 t384.length co43 : Value).ownBlock ∧ some k_ ≠ (.slice Ao104 t393.length co104 : Value).ownBlock) (.slice Ao16 t359.length co16) t359) := ⟨by (with_reducible repeat (first | apply Kd.Q_alloc | apply Kd.Q_drewN | apply Kd.Q_drew)); exact Kd.Q_mono (Kd.Q_far (p := ⟨gb397, 3, none⟩) (Kd.Q_far (p := ⟨gb397, 2, none⟩) (Kd.Q_far (p := ⟨gb397, 1, none⟩) (Kd.Q_far (p := ⟨gb397, 0, none⟩) (Kd.Q_types HO_368002.out BK397.out (by decide)) (fun _ hk => hk.2) (.int .i64 t391)) (fun _ hk => hk.2) (.int .i64 t392)) (fun _ hk => hk.2) (.slice Ao104 t393.length co104)) (fun _ hk => hk.2) (.int .i64 t396)) (fun _ hk => ⟨hk.1.1.1, ⟨hk.1.1.2.1, ⟨hk.1.1.2.2.1, ⟨hk.1.1.2.2.2, hk.1.2⟩⟩⟩⟩)⟩
           have n1_ : Aside0 (Kd.Q (Kd.int .i64) 2 ((((w96.setCell ⟨gb397, 0, none⟩ (.int .i64 t391)).setCell ⟨gb397, 1, none⟩ (.int .i64 t392)).setCell ⟨gb397, 2, none⟩ (.slice Ao104 t393.length co104)).setCell ⟨gb397, 3, none⟩ (.int .i64 t396)) w.heap.size (fun k_ => some k_ ≠ (.slice Ao16 t359.length co16 : Value).ownBlock ∧ some k_ ≠ (.slice Ao24 t371.length co24 : Value).ownBlock ∧ some k_ ≠ (.slice Ao33 t377.length co33 : Value).ownBlock ∧ some k_ ≠ (.slice Ao43 t384.length co43 : Value).ownBlock ∧ some k_ ≠ (.slice Ao104 t393.length co104 : Value).ownBlock) (.slice Ao18 t364.length co18) t364) := ⟨by (with_reducible repeat (first | apply Kd.Q_alloc | apply Kd.Q_drewN | apply Kd.Q_drew)); exact Kd.Q_mono (Kd.Q_far (p := ⟨gb397, 3, none⟩) (Kd.Q_far (p := ⟨gb397, 2, none⟩) (Kd.Q_far (p := ⟨gb397, 1, none⟩) (Kd.Q_far (p := ⟨gb397, 0, none⟩) (Kd.Q_types HO_369002.out BK397.out (by decide)) (fun _ hk => hk.2) (.int .i64 t391)) (fun _ hk => hk.2) (.int .i64 t392)) (fun _ hk => hk.2) (.slice Ao104 t393.length co104)) (fun _ hk => hk.2) (.int .i64 t396)) (fun _ hk => ⟨hk.1.1.1, ⟨hk.1.1.2.1, ⟨hk.1.1.2.2.1, ⟨hk.1.1.2.2.2, hk.1.2⟩⟩⟩⟩)⟩
           have n2_ : Aside0 (Kd.Q (Kd.int .i64) 2 ((((w96.setCell ⟨gb397, 0, none⟩ (.int .i64 t391)).setCell ⟨gb397, 1, none⟩ (.int .i64 t392)).setCell ⟨gb397, 2, none⟩ (.slice Ao104 t393.length co104)).setCell ⟨gb397, 3, none⟩ (.int .i64 t396)) w.heap.size (fun k_ => some k_ ≠ (.slice Ao16 t359.length co16 : Value).ownBlock ∧ some k_ ≠ (.slice Ao18 t364.length co18 : Value).ownBlock ∧ some k_ ≠ (.slice Ao33 t377.length co33 : Value).ownBlock ∧ some k_ ≠ (.slice Ao43 t384.length co43 : Value).ownBlock ∧ some k_ ≠ (.slice Ao104 t393.length co104 : Value).ownBlock) (.slice Ao24 t371.length co24) t371) := ⟨by (with_reducible repeat (first | apply Kd.Q_alloc | apply Kd.Q_drewN | apply Kd.Q_drew)); exact Kd.Q_mono (Kd.Q_far (p := ⟨gb397, 3, none⟩) (Kd.Q_far (p := ⟨gb397, 2, none⟩) (Kd.Q_far (p := ⟨gb397, 1, none⟩) (Kd.Q_far (p := ⟨gb397, 0, none⟩) (Kd.Q_types HO_375002.out BK397.out (by decide)) (fun _ hk => hk.2) (.int .i64 t391)) (fun _ hk => hk.2) (.int .i64 t392)) (fun _ hk => hk.2) (.slice Ao104 t393.length co104)) (fun _ hk => hk.2) (.int .i64 t396)) (fun _ hk => ⟨hk.1.1.1, ⟨hk.1.1.2.1, ⟨hk.1.1.2.2.1, ⟨hk.1.1.2.2.2, hk.1.2⟩⟩⟩⟩)⟩
           have n3_ : Aside0 (Kd.R (Kd.int .i64) 2 ((((w96.setCell ⟨gb397, 0, none⟩ (.int .i64 t391)).setCell ⟨gb397, 1, none⟩ (.int .i64 t392)).setCell ⟨gb397, 2, none⟩ (.slice Ao104 t393.length co104)).setCell ⟨gb397, 3, none⟩ (.int .i64 t396)) w.heap.size (fun k_ => some k_ ≠ (.slice Ao16 t359.length co16 : Value).ownBlock ∧ some k_ ≠ (.slice Ao18 t364.length co18 : Value).ownBlock ∧ some k_ ≠ (.slice Ao24 t371.length co24 : Value).ownBlock ∧ some k_ ≠ (.slice Ao43 t384.length co43 : Value).ownBlock ∧ some k_ ≠ (.slice Ao104 t393.length co104 : Value).ownBlock) (.slice Ao33 t377.length co33) t377) := ⟨by (with_reducible repeat (first | apply Kd.R_alloc | apply Kd.R_drewN | apply Kd.R_drew)); exact Kd.R_mono (Kd.R_far (p := ⟨gb397, 3, none⟩) (Kd.R_far (p := ⟨gb397, 2, none⟩) (Kd.R_far (p := ⟨gb397, 1, none⟩) (Kd.R_far (p := ⟨gb397, 0, none⟩) (Kd.R_types HO_382002.out BK397.out (by decide)) (fun _ hk => hk.2) (.int .i64 t391)) (fun _ hk => hk.2) (.int .i64 t392)) (fun _ hk => hk.2) (.slice Ao104 t393.length co104)) (fun _ hk => hk.2) (.int .i64 t396)) (fun _ hk => ⟨hk.1.1.1, ⟨hk.1.1.2.1, ⟨hk.1.1.2.2.1, ⟨hk.1.1.2.2.2, hk.1.2⟩⟩⟩⟩)⟩
           have n4_ : Aside0 (Kd.R (Kd.int .i64) 2 ((((w96.setCell ⟨gb397, 0, none⟩ (.int .i64 t391)).setCell ⟨gb397, 1, none⟩ (.int .i64 t392)).setCell ⟨gb397, 2, none⟩ (.slice Ao104 t393.length co104)).setCell ⟨gb397, 3, none⟩ (.int .i64 t396)) w.heap.size (fun k_ => some k_ ≠ (.slice Ao16 t359.length co16 : Value).ownBlock ∧ some k_ ≠ (.slice Ao18 t364.length co18 : Value).ownBlock ∧ some k_ ≠ (.slice Ao24 t371.length co24 : Value).ownBlock ∧ some k_ ≠ (.slice Ao33 t377.length co33 : Value).ownBlock ∧ some k_ ≠ (.slice Ao104 t393.length co104 : Value).ownBlock) (.slice Ao43 t384.length co43) t384) := ⟨by (with_reducible repeat (first | apply Kd.R_alloc | apply Kd.R_drewN | apply Kd.R_drew)); exact Kd.R_mono (Kd.R_far (p := ⟨gb397, 3, none⟩) (Kd.R_far (p := ⟨gb397, 2, none⟩) (Kd.R_far (p := ⟨gb397, 1, none⟩) (Kd.R_far (p := ⟨gb397, 0, none⟩) (Kd.R_types HO_389002.out BK397.out (by decide)) (fun _ hk => hk.2) (.int .i64 t391)) (fun _ hk => hk.2) (.int .i64 t392)) (fun _ hk => hk.2) (.slice Ao104 t393.length co104)) (fun _ hk => hk.2) (.int .i64 t396)) (fun _ hk => ⟨hk.1.1.1, ⟨hk.1.1.2.1, ⟨hk.1.1.2.2.1, ⟨hk.1.1.2.2.2, hk.1.2⟩⟩⟩⟩)⟩
           have n5_ : Aside0 (Kd.R (Kd.int .i64) 2 ((((w96.setCell ⟨gb397, 0, none⟩ (.int .i64 t391)).setCell ⟨gb397, 1, none⟩ (.int .i64 t392)).setCell ⟨gb397, 2, none⟩ (.slice Ao104 t393.length co104)).setCell ⟨gb397, 3, none⟩ (.int .i64 t396)) w.heap.size (fun k_ => some k_ ≠ (.slice Ao16 t359.length co16 : Value).ownBlock ∧ some k_ ≠ (.slice Ao18 t364.length co18 : Value).ownBlock ∧ some k_ ≠ (.slice Ao24 t371.length co24 : Value).ownBlock ∧ some k_ ≠ (.slice Ao33 t377.length co33 : Value).ownBlock ∧ some k_ ≠ (.slice Ao43 t384.length co43 : Value).ownBlock) (.slice Ao104 t393.length co104) t393) := ⟨by (with_reducible repeat (first | apply Kd.R_alloc | apply Kd.R_drewN | apply Kd.R_drew)); exact Kd.R_mono (Kd.R_far (p := ⟨gb397, 3, none⟩) (Kd.R_far (p := ⟨gb397, 2, none⟩) (Kd.R_far (p := ⟨gb397, 1, none⟩) (Kd.R_far (p := ⟨gb397, 0, none⟩) (Kd.R_types HO395.out BK397.out (by decide)) (fun _ hk => hk.2) (.int .i64 t391)) (fun _ hk => hk.2) (.int .i64 t392)) (fun _ hk => hk.2) (.slice Ao104 t393.length co104)) (fun _ hk => hk.2) (.int .i64 t396)) (fun _ hk => ⟨hk.1.1.1.1.1.2, ⟨hk.1.1.1.1.2, ⟨hk.1.1.1.2, ⟨hk.1.1.2, hk.1.2⟩⟩⟩⟩)⟩
           have n6_ : Aside0 (((((w96.setCell ⟨gb397, 0, none⟩ (.int .i64 t391)).setCell ⟨gb397, 1, none⟩ (.int .i64 t392)).setCell ⟨gb397, 2, none⟩ (.slice Ao104 t393.length co104)).setCell ⟨gb397, 3, none⟩ (.int .i64 t396)).heap[gb367]? = some (.cells #[.int .i64 t357, .int .i64 t358, .slice Ao16 t359.length co16] 27 (0, 0))) := ⟨Cz.f BK367.out NB367_397.out⟩
           have n7_ : Aside0 (((((w96.setCell ⟨gb397, 0, none⟩ (.int .i64 t391)).setCell ⟨gb397, 1, none⟩ (.int .i64 t392)).setCell ⟨gb397, 2, none⟩ (.slice Ao104 t393.length co104)).setCell ⟨gb397, 3, none⟩ (.int .i64 t396)).heap[gb368]? = some (.cells #[.int .i64 t362, .int .i64 t363, .slice Ao18 t364.length co18] 27 (0, 0))) := ⟨Cz.f BK368.out NB368_397.out⟩
           have n8_ : Aside0 (((((w96.setCell ⟨gb397, 0, none⟩ (.int .i64 t391)).setCell ⟨gb397, 1, none⟩ (.int .i64 t392)).setCell ⟨gb397, 2, none⟩ (.slice Ao104 t393.length co104)).setCell ⟨gb397, 3, none⟩ (.int .i64 t396)).heap[gb374]? = some (.cells #[.int .i64 t369, .int .i64 t370, .slice Ao24 t371.length co24] 27 (0, 0))) := ⟨Cz.f BK374.out NB374_397.out⟩
           have n9_ : Aside0 (((((w96.setCell ⟨gb397, 0, none⟩ (.int .i64 t391)).setCell ⟨gb397, 1, none⟩ (.int .i64 t392)).setCell ⟨gb397, 2, none⟩ (.slice Ao104 t393.length co104)).setCell ⟨gb397, 3, none⟩ (.int .i64 t396)).heap[gb381]? = some (.cells #[.int .i64 t375, .int .i64 t376, .slice Ao33 t377.length co33, .int .i64 t380] 35 (0, 0))) := ⟨Cz.f BK381.out NB381_397.out⟩
           have n10_ : Aside0 (((((w96.setCell ⟨gb397, 0, none⟩ (.int .i64 t391)).setCell ⟨gb397, 1, none⟩ (.int .i64 t392)).setCell ⟨gb397, 2, none⟩ (.slice Ao104 t393.length co104)).setCell ⟨gb397, 3, none⟩ (.int .i64 t396)).heap[gb388]? = some (.cells #[.int .i64 t382, .int .i64 t383, .slice Ao43 t384.length co43, .int .i64 t387] 35 (0, 0))) := ⟨Cz.f BK388.out NB388_397.out⟩
           have n11_ : Aside0 (((((w96.setCell ⟨gb397, 0, none⟩ (.int .i64 t391)).setCell ⟨gb397, 1, none⟩ (.int .i64 t392)).setCell ⟨gb397, 2, none⟩ (.slice Ao104 t393.length co104)).setCell ⟨gb397, 3, none⟩ (.int .i64 t396)).heap[gb390]? = some (.cells #[.int .i64 t363, .int .i64 t362, .slice Ao18 t364.length co18] 27 (0, 0))) := ⟨Cz.f BK390.out NB390_397.out⟩
           have n12_ : Aside0 (((((w96.setCell ⟨gb397, 0, none⟩ (.int .i64 t391)).setCell ⟨gb397, 1, none⟩ (.int .i64 t392)).setCell ⟨gb397, 2, none⟩ (.slice Ao104 t393.length co104)).setCell ⟨gb397, 3, none⟩ (.int .i64 t396)).heap[gb397]? = some (.cells #[.int .i64 t391, .int .i64 t392, .slice Ao104 t393.length co104, .int .i64 t396] 35 (0, 0))) := ⟨Cz.p4 BK397.out⟩
           have n13_ : Aside0 (Below w.heap.size w ((((w96.setCell ⟨gb397, 0, none⟩ (.int .i64 t391)).setCell ⟨gb397, 1, none⟩ (.int .i64 t392)).setCell ⟨gb397, 2, none⟩ (.slice Ao104 t393.length co104)).setCell ⟨gb397, 3, none⟩ (.int .i64 t396))) := ⟨Cz.w HB.out⟩
           (try clear HO_368002)
           (try clear HO_369002)
           (try clear HO_375002)
           (try clear HO_382002)
           (try clear HO_389002)
           (try clear HO395)
           (try clear BK367)
           (try clear BK368)
           (try clear BK374)
           (try clear BK381)
           (try clear BK388)
           (try clear BK390)
           (try clear BK397)
           (try clear HB)
           generalize ((((w96.setCell ⟨gb397, 0, none⟩ (.int .i64 t391)).setCell ⟨gb397, 1, none⟩ (.int .i64 t392)).setCell ⟨gb397, 2, none⟩ (.slice Ao104 t393.length co104)).setCell ⟨gb397, 3, none⟩ (.int .i64 t396)) = w105 at n0_ n1_ n2_ n3_ n4_ n5_ n6_ n7_ n8_ n9_ n10_ n11_ n12_ n13_ ⊢
           have HO_368002 := n0_
           have HO_369002 := n1_
           have HO_375002 := n2_
           have HO_382002 := n3_
           have HO_389002 := n4_
           have HO395 := n5_
           have BK367 := n6_
           have BK368 := n7_
           have BK374 := n8_
           have BK381 := n9_
           have BK388 := n10_
           have BK390 := n11_
           have BK397 := n12_
           have HB := n13_
           clear n0_ n1_ n2_ n3_ n4_ n5_ n6_ n7_ n8_ n9_ n10_ n11_ n12_ n13_
           have n_ := Cy.a14 (Kd.Q_drew HO_368002.out) (Kd.Q_drew HO_369002.out) (Kd.Q_drew HO_375002.out) (Kd.R_drew HO_382002.out) (Kd.R_drew HO_389002.out) (Kd.R_drew HO395.out) (blk_drew BK367.out) (blk_drew BK368.out) (blk_drew BK374.out) (blk_drew BK381.out) (blk_drew BK388.out) (blk_drew BK390.out) (blk_drew BK397.out) (below_drew1 HB.out)
           clear HO_368002 HO_369002 HO_375002 HO_382002 HO_389002 HO395 BK367 BK368 BK374 BK381 BK388 BK390 BK397 HB
           obtain ⟨HO_368002, HO_369002, HO_375002, HO_382002, HO_389002, HO395, BK367, BK368, BK374, BK381, BK388, BK390, BK397, HB⟩ := n_
           refine start_ (n := 8) (S := fun w' => w'.cell? ⟨gb367, 0, none⟩ = some (.int .i64 t357) ∧ w'.cell? ⟨gb367, 1, none⟩ = some (.int .i64 t358) ∧ w'.cell? ⟨gb367, 2, none⟩ = some (.slice Ao16 t359.length co16) ∧ w'.cell? ⟨gb368, 0, none⟩ = some (.int .i64 t362) ∧ w'.cell? ⟨gb368, 1, none⟩ = some (.int .i64 t363) ∧ w'.cell? ⟨gb368, 2, none⟩ = some (.slice Ao18 t364.length co18) ∧ w'.cell? ⟨gb390, 0, none⟩ = some (.int .i64 t363) ∧ w'.cell? ⟨gb390, 1, none⟩ = some (.int .i64 t362) ∧ w'.cell? ⟨gb390, 2, none⟩ = some (.slice Ao18 t364.length co18)) (ds := []) #[false, false, false, false, false, false, false, false] (by kernel_rfl) rfl rfl ⟨(blk_cell BK367.out 0).trans rfl, (blk_cell BK367.out 1).trans rfl, (blk_cell BK367.out 2).trans rfl, (blk_cell BK368.out 0).trans rfl, (blk_cell BK368.out 1).trans rfl, (blk_cell BK368.out 2).trans rfl, (blk_cell BK390.out 0).trans rfl, (blk_cell BK390.out 1).trans rfl, (blk_cell BK390.out 2).trans rfl⟩ (fun hHeld => ?_); refine with_tabW laws_FnMatrix.tab12 laws_FnMatrix.bits12 (fun HT_ HW_ => ?_)
           generalize w105.drew = w106 at HO_368002 HO_369002 HO_375002 HO_382002 HO_389002 HO395 BK367 BK368 BK374 BK381 BK388 BK390 BK397 HB hHeld ⊢
           refine Cy.tk 0 63 HT_ HW_ hHeld ?_
           refine Cy.tk 1 64 HT_ HW_ hHeld ?_
           refine Cy.tk 2 65 HT_ HW_ hHeld ?_
           refine join_ (σ := Value × Value × Nat) 1 #[true, true, true, true, true, true, true, false] (fun s_ => [(66, .agg #[.int .i64 t398, .int .i64 t399, s_.1, .int .i64 t403]), (68, .agg #[.int .i64 t404, .int .i64 t405, s_.2.1, .int .i64 t409]), (12, .pointer (some ⟨s_.2.2, 0, none⟩)), (67, .agg #[.int .i64 t398, .int .i64 t399, s_.1])]) (fun s_ w' => (w'.cell? ⟨gb367, 0, none⟩ = some (.int .i64 t357) ∧ w'.cell? ⟨gb367, 1, none⟩ = some (.int .i64 t358) ∧ w'.cell? ⟨gb367, 2, none⟩ = some (.slice Ao16 t359.length co16) ∧ w'.cell? ⟨gb368, 0, none⟩ = some (.int .i64 t362) ∧ w'.cell? ⟨gb368, 1, none⟩ = some (.int .i64 t363) ∧ w'.cell? ⟨gb368, 2, none⟩ = some (.slice Ao18 t364.length co18) ∧ w'.cell? ⟨gb390, 0, none⟩ = some (.int .i64 t363) ∧ w'.cell? ⟨gb390, 1, none⟩ = some (.int .i64 t362) ∧ w'.cell? ⟨gb390, 2, none⟩ = some (.slice Ao18 t364.length co18)) ∧ (Kd.R (Kd.int .i64) 2 w' w.heap.size (fun k_ => some k_ ≠ (s_.1 : Value).ownBlock ∧ some k_ ≠ (s_.2.1 : Value).ownBlock ∧ some k_ ≠ (.slice Ao16 t359.length co16 : Value).ownBlock ∧ some k_ ≠ (.slice Ao18 t364.length co18 : Value).ownBlock ∧ some k_ ≠ (.slice Ao24 t371.length co24 : Value).ownBlock ∧ some k_ ≠ (.slice Ao33 t377.length co33 : Value).ownBlock ∧ some k_ ≠ (.slice Ao43 t384.length co43 : Value).ownBlock) (.slice Ao104 t393.length co104) t393) ∧ (Kd.R (Kd.int .i64) 2 w' w.heap.size (fun k_ => some k_ ≠ (.slice Ao104 t393.length co104 : Value).ownBlock ∧ some k_ ≠ (s_.2.1 : Value).ownBlock ∧ some k_ ≠ (.slice Ao16 t359.length co16 : Value).ownBlock ∧ some k_ ≠ (.slice Ao18 t364.length co18 : Value).ownBlock ∧ some k_ ≠ (.slice Ao24 t371.length co24 : Value).ownBlock ∧ some k_ ≠ (.slice Ao33 t377.length co33 : Value).ownBlock ∧ some k_ ≠ (.slice Ao43 t384.length co43 : Value).ownBlock) s_.1 t400) ∧ (Kd.R (Kd.int .i64) 2 w' w.heap.size (fun k_ => some k_ ≠ (.slice Ao104 t393.length co104 : Value).ownBlock ∧ some k_ ≠ (s_.1 : Value).ownBlock ∧ some k_ ≠ (.slice Ao16 t359.length co16 : Value).ownBlock ∧ some k_ ≠ (.slice Ao18 t364.length co18 : Value).ownBlock ∧ some k_ ≠ (.slice Ao24 t371.length co24 : Value).ownBlock ∧ some k_ ≠ (.slice Ao33 t377.length co33 : Value).ownBlock ∧ some k_ ≠ (.slice Ao43 t384.length co43 : Value).ownBlock) s_.2.1 t406) ∧ (Kd.Q (Kd.int .i64) 2 w' w.heap.size (fun k_ => some k_ ≠ (.slice Ao104 t393.length co104 : Value).ownBlock ∧ some k_ ≠ (s_.1 : Value).ownBlock ∧ some k_ ≠ (s_.2.1 : Value).ownBlock ∧ some k_ ≠ (.slice Ao18 t364.length co18 : Value).ownBlock ∧ some k_ ≠ (.slice Ao24 t371.length co24 : Value).ownBlock ∧ some k_ ≠ (.slice Ao33 t377.length co33 : Value).ownBlock ∧ some k_ ≠ (.slice Ao43 t384.length co43 : Value).ownBlock) (.slice Ao16 t359.length co16) t359) ∧ (Kd.Q (Kd.int .i64) 2 w' w.heap.size (fun k_ => some k_ ≠ (.slice Ao104 t393.length co104 : Value).ownBlock ∧ some k_ ≠ (s_.1 : Value).ownBlock ∧ some k_ ≠ (s_.2.1 : Value).ownBlock ∧ some k_ ≠ (.slice Ao16 t359.length co16 : Value).ownBlock ∧ some k_ ≠ (.slice Ao24 t371.length co24 : Value).ownBlock ∧ some k_ ≠ (.slice Ao33 t377.length co33 : Value).ownBlock ∧ some k_ ≠ (.slice Ao43 t384.length co43 : Value).ownBlock) (.slice Ao18 t364.length co18) t364) ∧ (Kd.Q (Kd.int .i64) 2 w' w.heap.size (fun k_ => some k_ ≠ (.slice Ao104 t393.length co104 : Value).ownBlock ∧ some k_ ≠ (s_.1 : Value).ownBlock ∧ some k_ ≠ (s_.2.1 : Value).ownBlock ∧ some k_ ≠ (.slice Ao16 t359.length co16 : Value).ownBlock ∧ some k_ ≠ (.slice Ao18 t364.length co18 : Value).ownBlock ∧ some k_ ≠ (.slice Ao33 t377.length co33 : Value).ownBlock ∧ some k_ ≠ (.slice Ao43 t384.length co43 : Value).ownBlock) (.slice Ao24 t371.length co24) t371) ∧ (Kd.R (Kd.int .i64) 2 w' w.heap.size (fun k_ => some k_ ≠ (.slice Ao104 t393.length co104 : Value).ownBlock ∧ some k_ ≠ (s_.1 : Value).ownBlock ∧ some k_ ≠ (s_.2.1 : Value).ownBlock ∧ some k_ ≠ (.slice Ao16 t359.length co16 : Value).ownBlock ∧ some k_ ≠ (.slice Ao18 t364.length co18 : Value).ownBlock ∧ some k_ ≠ (.slice Ao24 t371.length co24 : Value).ownBlock ∧ some k_ ≠ (.slice Ao43 t384.length co43 : Value).ownBlock) (.slice Ao33 t377.length co33) t377) ∧ (Kd.R (Kd.int .i64) 2 w' w.heap.size (fun k_ => some k_ ≠ (.slice Ao104 t393.length co104 : Value).ownBlock ∧ some k_ ≠ (s_.1 : Value).ownBlock ∧ some k_ ≠ (s_.2.1 : Value).ownBlock ∧ some k_ ≠ (.slice Ao16 t359.length co16 : Value).ownBlock ∧ some k_ ≠ (.slice Ao18 t364.length co18 : Value).ownBlock ∧ some k_ ≠ (.slice Ao24 t371.length co24 : Value).ownBlock ∧ some k_ ≠ (.slice Ao33 t377.length co33 : Value).ownBlock) (.slice Ao43 t384.length co43) t384) ∧ (w'.heap[gb367]? = some (.cells #[.int .i64 t357, .int .i64 t358, .slice Ao16 t359.length co16] 27 (0, 0))) ∧ (w'.heap[gb368]? = some (.cells #[.int .i64 t362, .int .i64 t363, .slice Ao18 t364.length co18] 27 (0, 0))) ∧ (w'.heap[gb374]? = some (.cells #[.int .i64 t369, .int .i64 t370, .slice Ao24 t371.length co24] 27 (0, 0))) ∧ (w'.heap[gb381]? = some (.cells #[.int .i64 t375, .int .i64 t376, .slice Ao33 t377.length co33, .int .i64 t380] 35 (0, 0))) ∧ (w'.heap[gb388]? = some (.cells #[.int .i64 t382, .int .i64 t383, .slice Ao43 t384.length co43, .int .i64 t387] 35 (0, 0))) ∧ (w'.heap[gb390]? = some (.cells #[.int .i64 t363, .int .i64 t362, .slice Ao18 t364.length co18] 27 (0, 0))) ∧ (w'.heap[gb397]? = some (.cells #[.int .i64 t391, .int .i64 t392, .slice Ao104 t393.length co104, .int .i64 t396] 35 (0, 0))) ∧ (w'.heap[s_.2.2]? = some (.cells #[.int .i64 0, .int .i64 0, .slice none 0 0, .int .i64 0] 35 (0, 0))) ∧ (w.heap.size ≤ s_.2.2) ∧ (w.heap.size ≤ s_.2.2) ∧ (gb367 ≠ s_.2.2) ∧ (s_.2.2 ≠ gb367) ∧ (gb368 ≠ s_.2.2) ∧ (s_.2.2 ≠ gb368) ∧ (gb374 ≠ s_.2.2) ∧ (s_.2.2 ≠ gb374) ∧ (gb381 ≠ s_.2.2) ∧ (s_.2.2 ≠ gb381) ∧ (gb388 ≠ s_.2.2) ∧ (s_.2.2 ≠ gb388) ∧ (gb390 ≠ s_.2.2) ∧ (s_.2.2 ≠ gb390) ∧ (gb397 ≠ s_.2.2) ∧ (s_.2.2 ≠ gb397) ∧ (Below w.heap.size w w')) ?_ ?_
           rotate_left
           ·intro hCont
            refine two_ (i := 3) (j := 6) (Ni := some 66) (Nj := some 12) #[true, true, true, true, false, false, false, false] #[true, true, true, false, false, false, true, false] rfl rfl rfl rfl (two_of HT_.out (by kernel_rfl)) (by decide) (by decide) (fun K hK => ?_) (fun K hK => ?_)
            ·skip
             refine goes_ Try.func31 (by kernel_rfl) rfl #[.agg #[.int .i64 t362, .int .i64 t363, .slice Ao18 t364.length co18], .agg #[.int .i64 t363, .int .i64 t362, .slice Ao18 t364.length co18]] (by rfl) rfl rfl Cy.ls ?_
             with_reducible refine (impl_MatrixMul.calls kj9 t362 t363 _ _ t364 t363 t362 _ _ t364 t398 t399 t400 t403 _ ?side1 ?side2 ?side3 ?side4 A74.out).mono ?_
             (case side1 => exact Cy.cd (Kd.Q_reads' HO_369002.out).2.2)
             (case side2 => exact (Kd.Q_reads' HO_369002.out).2.1)
             (case side3 => exact Cy.cd (Kd.Q_reads' HO_369002.out).2.2)
             (case side4 => exact (Kd.Q_reads' HO_369002.out).2.1)
             rintro e w107 ⟨v401, rfl, ho0, hb⟩
             refine ⟨_, rfl, ?_⟩
             have n_ := Cy.a15 (Kd.Q_elder' (Cy.q HO_368002.out) (Kd.R_base ho0) hb) (Kd.Q_elder' (Cy.q HO_369002.out) (Kd.R_base ho0) hb) (Kd.Q_elder' (Cy.q HO_375002.out) (Kd.R_base ho0) hb) (Kd.R_elder' (Cz.r HO_382002.out) (Kd.R_base ho0) hb) (Kd.R_elder' (Cz.r HO_389002.out) (Kd.R_base ho0) hb) (Kd.R_elder' (Cz.r HO395.out) (Kd.R_base ho0) hb) (Kd.R_lower (Kd.R_new' (Kd.R_new' (Kd.R_new' (Kd.R_new' (Kd.R_new' (Kd.R_new' ho0 (Kd.Q_lt (Cy.q HO_368002.out))) (Kd.Q_lt (Cy.q HO_369002.out))) (Kd.Q_lt (Cy.q HO_375002.out))) (Kd.R_lt (Cz.r HO_382002.out))) (Kd.R_lt (Cz.r HO_389002.out))) (Kd.R_lt (Cz.r HO395.out))) (below_size (Cz.w HB.out))) (blk_below (g := gb367) (o := .cells #[.int .i64 t357, .int .i64 t358, .slice Ao16 t359.length co16] 27 (0, 0)) (Cz.b BK367.out) hb) (blk_below (g := gb368) (o := .cells #[.int .i64 t362, .int .i64 t363, .slice Ao18 t364.length co18] 27 (0, 0)) (Cz.b BK368.out) hb) (blk_below (g := gb374) (o := .cells #[.int .i64 t369, .int .i64 t370, .slice Ao24 t371.length co24] 27 (0, 0)) (Cz.b BK374.out) hb) (blk_below (g := gb381) (o := .cells #[.int .i64 t375, .int .i64 t376, .slice Ao33 t377.length co33, .int .i64 t380] 35 (0, 0)) (Cz.b BK381.out) hb) (blk_below (g := gb388) (o := .cells #[.int .i64 t382, .int .i64 t383, .slice Ao43 t384.length co43, .int .i64 t387] 35 (0, 0)) (Cz.b BK388.out) hb) (blk_below (g := gb390) (o := .cells #[.int .i64 t363, .int .i64 t362, .slice Ao18 t364.length co18] 27 (0, 0)) (Cz.b BK390.out) hb) (blk_below (g := gb397) (o := .cells #[.int .i64 t391, .int .i64 t392, .slice Ao104 t393.length co104, .int .i64 t396] 35 (0, 0)) (Cz.b BK397.out) hb) (below_step (Cz.w HB.out) hb)
             clear HO_368002 HO_369002 HO_375002 HO_382002 HO_389002 HO395 BK367 BK368 BK374 BK381 BK388 BK390 BK397 HB
             obtain ⟨HO_368002, HO_369002, HO_375002, HO_382002, HO_389002, HO395, HO402, BK367, BK368, BK374, BK381, BK388, BK390, BK397, HB⟩ := n_
             (try clear hb)
             (try clear hb2)
             (try clear hk)
             (try clear hi)
             (try clear ho0)
             obtain ⟨Ao108, co108, eo108⟩ := Kd.R_slice HO402.out
             (first | subst eo108 | (injection eo108 with f1_ f2_ f3_; have f4_ := f1_.symm; have f5_ := f3_.symm; clear f1_ f2_ f3_; subst f4_; subst f5_))
             refine hK.out _ _ ⟨(blk_cell BK367.out 0).trans rfl, (blk_cell BK367.out 1).trans rfl, (blk_cell BK367.out 2).trans rfl, (blk_cell BK368.out 0).trans rfl, (blk_cell BK368.out 1).trans rfl, (blk_cell BK368.out 2).trans rfl, (blk_cell BK390.out 0).trans rfl, (blk_cell BK390.out 1).trans rfl, (blk_cell BK390.out 2).trans rfl⟩ (fun hHeld => ?_)
             clear hK K
             refine norm_ (a' := ?_) ?_ ?_
             rotate_left
             ·show Act.put _ (some 66) _ = _
              simp only [Act.put, List.setIfInBounds_toArray, List.set_cons_zero, List.set_cons_succ, i64_w, i32_w]
              rfl
             refine Cy.pu 4 67 HT_ ?_
             refine two_ (i := 5) (j := 6) (Ni := some 68) (Nj := some 12) #[true, true, true, true, true, true, false, false] #[true, true, true, true, true, false, true, false] rfl rfl rfl rfl (two_of HT_.out (by kernel_rfl)) (by decide) (by decide) (fun K hK => ?_) (fun K hK => ?_)
             ·skip
              refine goes_ Try.func31 (by kernel_rfl) rfl #[.agg #[.int .i64 t357, .int .i64 t358, .slice Ao16 t359.length co16], .agg #[.int .i64 t398, .int .i64 t399, .slice Ao108 t400.length co108]] (by rfl) rfl rfl Cy.ls ?_
              with_reducible refine (impl_MatrixMul.calls kj9 t357 t358 _ _ t359 t398 t399 _ _ t400 t404 t405 t406 t409 _ ?side1 ?side2 ?side3 ?side4 A75.out).mono ?_
              (case side1 => exact Cy.cd (Kd.Q_reads' HO_368002.out).2.2)
              (case side2 => exact (Kd.Q_reads' HO_368002.out).2.1)
              (case side3 => exact Cy.cd (Kd.R_reads' HO402.out).2.2)
              (case side4 => exact (Kd.R_reads' HO402.out).2.1)
              rintro e w109 ⟨v407, rfl, ho0, hb⟩
              refine ⟨_, rfl, ?_⟩
              have n_ := Cy.a16 (Kd.Q_elder' (Cy.q HO_368002.out) (Kd.R_base ho0) hb) (Kd.Q_elder' (Cy.q HO_369002.out) (Kd.R_base ho0) hb) (Kd.Q_elder' (Cy.q HO_375002.out) (Kd.R_base ho0) hb) (Kd.R_elder' (Cz.r HO_382002.out) (Kd.R_base ho0) hb) (Kd.R_elder' (Cz.r HO_389002.out) (Kd.R_base ho0) hb) (Kd.R_elder' (Cz.r HO395.out) (Kd.R_base ho0) hb) (Kd.R_elder' (Cz.r HO402.out) (Kd.R_base ho0) hb) (Kd.R_lower (Kd.R_new' (Kd.R_new' (Kd.R_new' (Kd.R_new' (Kd.R_new' (Kd.R_new' (Kd.R_new' ho0 (Kd.Q_lt (Cy.q HO_368002.out))) (Kd.Q_lt (Cy.q HO_369002.out))) (Kd.Q_lt (Cy.q HO_375002.out))) (Kd.R_lt (Cz.r HO_382002.out))) (Kd.R_lt (Cz.r HO_389002.out))) (Kd.R_lt (Cz.r HO395.out))) (Kd.R_lt (Cz.r HO402.out))) (below_size (Cz.w HB.out))) (blk_below (g := gb367) (o := .cells #[.int .i64 t357, .int .i64 t358, .slice Ao16 t359.length co16] 27 (0, 0)) (Cz.b BK367.out) hb) (blk_below (g := gb368) (o := .cells #[.int .i64 t362, .int .i64 t363, .slice Ao18 t364.length co18] 27 (0, 0)) (Cz.b BK368.out) hb) (blk_below (g := gb374) (o := .cells #[.int .i64 t369, .int .i64 t370, .slice Ao24 t371.length co24] 27 (0, 0)) (Cz.b BK374.out) hb) (blk_below (g := gb381) (o := .cells #[.int .i64 t375, .int .i64 t376, .slice Ao33 t377.length co33, .int .i64 t380] 35 (0, 0)) (Cz.b BK381.out) hb) (blk_below (g := gb388) (o := .cells #[.int .i64 t382, .int .i64 t383, .slice Ao43 t384.length co43, .int .i64 t387] 35 (0, 0)) (Cz.b BK388.out) hb) (blk_below (g := gb390) (o := .cells #[.int .i64 t363, .int .i64 t362, .slice Ao18 t364.length co18] 27 (0, 0)) (Cz.b BK390.out) hb) (blk_below (g := gb397) (o := .cells #[.int .i64 t391, .int .i64 t392, .slice Ao104 t393.length co104, .int .i64 t396] 35 (0, 0)) (Cz.b BK397.out) hb) (below_step (Cz.w HB.out) hb)
              clear HO_368002 HO_369002 HO_375002 HO_382002 HO_389002 HO395 HO402 BK367 BK368 BK374 BK381 BK388 BK390 BK397 HB
              obtain ⟨HO_368002, HO_369002, HO_375002, HO_382002, HO_389002, HO395, HO402, HO408, BK367, BK368, BK374, BK381, BK388, BK390, BK397, HB⟩ := n_
              (try clear hb)
              (try clear hb2)
              (try clear hk)
              (try clear hi)
              (try clear ho0)
              refine hK.out _ _ ⟨(blk_cell BK367.out 0).trans rfl, (blk_cell BK367.out 1).trans rfl, (blk_cell BK367.out 2).trans rfl, (blk_cell BK368.out 0).trans rfl, (blk_cell BK368.out 1).trans rfl, (blk_cell BK368.out 2).trans rfl, (blk_cell BK390.out 0).trans rfl, (blk_cell BK390.out 1).trans rfl, (blk_cell BK390.out 2).trans rfl⟩ (fun hHeld => ?_)
              clear hK K
              refine norm_ (a' := ?_) ?_ ?_
              rotate_left
              ·show Act.put _ (some 68) _ = _
               simp only [Act.put, List.setIfInBounds_toArray, List.set_cons_zero, List.set_cons_succ, i64_w, i32_w]
               rfl
              refine one_ (i := 6) (N := some 12) #[true, true, true, true, true, true, true, false] rfl rfl (one_of HT_.out (by kernel_rfl)) (by decide) (fun K hK => ?_)
              refine box_step ?hg (N := 12) ?hd (cs := #[.int .i64 0, .int .i64 0, .slice none 0 0, .int .i64 0]) (t := 35) ?hr ?_; (case hd => rfl); (case hg => rfl); (case hr => first | (go_simp; done) | (go_simp; rfl))
              intro gb410 hg w110 hbox hb
              have n0_ := Aside0.mk (Kd.Q_below (Cy.q HO_368002.out) hb)
              have n1_ := Aside0.mk (Kd.Q_below (Cy.q HO_369002.out) hb)
              have n2_ := Aside0.mk (Kd.Q_below (Cy.q HO_375002.out) hb)
              have n3_ := Aside0.mk (Kd.R_below (Cz.r HO_382002.out) hb)
              have n4_ := Aside0.mk (Kd.R_below (Cz.r HO_389002.out) hb)
              have n5_ := Aside0.mk (Kd.R_below (Cz.r HO395.out) hb)
              have n6_ := Aside0.mk (Kd.R_below (Cz.r HO402.out) hb)
              have n7_ := Aside0.mk (Kd.R_below (Cz.r HO408.out) hb)
              have n8_ := Aside0.mk (blk_below (g := gb367) (o := .cells #[.int .i64 t357, .int .i64 t358, .slice Ao16 t359.length co16] 27 (0, 0)) (Cz.b BK367.out) hb)
              have n9_ := Aside0.mk (blk_below (g := gb368) (o := .cells #[.int .i64 t362, .int .i64 t363, .slice Ao18 t364.length co18] 27 (0, 0)) (Cz.b BK368.out) hb)
              have n10_ := Aside0.mk (blk_below (g := gb374) (o := .cells #[.int .i64 t369, .int .i64 t370, .slice Ao24 t371.length co24] 27 (0, 0)) (Cz.b BK374.out) hb)
              have n11_ := Aside0.mk (blk_below (g := gb381) (o := .cells #[.int .i64 t375, .int .i64 t376, .slice Ao33 t377.length co33, .int .i64 t380] 35 (0, 0)) (Cz.b BK381.out) hb)
              have n12_ := Aside0.mk (blk_below (g := gb388) (o := .cells #[.int .i64 t382, .int .i64 t383, .slice Ao43 t384.length co43, .int .i64 t387] 35 (0, 0)) (Cz.b BK388.out) hb)
              have n13_ := Aside0.mk (blk_below (g := gb390) (o := .cells #[.int .i64 t363, .int .i64 t362, .slice Ao18 t364.length co18] 27 (0, 0)) (Cz.b BK390.out) hb)
              have n14_ := Aside0.mk (blk_below (g := gb397) (o := .cells #[.int .i64 t391, .int .i64 t392, .slice Ao104 t393.length co104, .int .i64 t396] 35 (0, 0)) (Cz.b BK397.out) hb)
              have n15_ := Aside0.mk (below_step (Cz.w HB.out) hb)
              have n16_ := Aside0.mk (hbox)
              have n17_ := Aside0.mk (Cy.gw hg HB.out)
              have n18_ := Aside0.mk (Cy.gw hg HB.out)
              have n19_ := Aside0.mk ((by rw [hg]; exact Nat.ne_of_lt (blk_lt (g := gb367) (o := .cells #[.int .i64 t357, .int .i64 t358, .slice Ao16 t359.length co16] 27 (0, 0)) (Cz.b BK367.out)) : gb367 ≠ gb410))
              have n20_ := Aside0.mk ((by rw [hg]; exact Nat.ne_of_gt (blk_lt (g := gb367) (o := .cells #[.int .i64 t357, .int .i64 t358, .slice Ao16 t359.length co16] 27 (0, 0)) (Cz.b BK367.out)) : gb410 ≠ gb367))
              have n21_ := Aside0.mk ((by rw [hg]; exact Nat.ne_of_lt (blk_lt (g := gb368) (o := .cells #[.int .i64 t362, .int .i64 t363, .slice Ao18 t364.length co18] 27 (0, 0)) (Cz.b BK368.out)) : gb368 ≠ gb410))
              have n22_ := Aside0.mk ((by rw [hg]; exact Nat.ne_of_gt (blk_lt (g := gb368) (o := .cells #[.int .i64 t362, .int .i64 t363, .slice Ao18 t364.length co18] 27 (0, 0)) (Cz.b BK368.out)) : gb410 ≠ gb368))
              have n23_ := Aside0.mk ((by rw [hg]; exact Nat.ne_of_lt (blk_lt (g := gb374) (o := .cells #[.int .i64 t369, .int .i64 t370, .slice Ao24 t371.length co24] 27 (0, 0)) (Cz.b BK374.out)) : gb374 ≠ gb410))
              have n24_ := Aside0.mk ((by rw [hg]; exact Nat.ne_of_gt (blk_lt (g := gb374) (o := .cells #[.int .i64 t369, .int .i64 t370, .slice Ao24 t371.length co24] 27 (0, 0)) (Cz.b BK374.out)) : gb410 ≠ gb374))
              have n25_ := Aside0.mk ((by rw [hg]; exact Nat.ne_of_lt (blk_lt (g := gb381) (o := .cells #[.int .i64 t375, .int .i64 t376, .slice Ao33 t377.length co33, .int .i64 t380] 35 (0, 0)) (Cz.b BK381.out)) : gb381 ≠ gb410))
              have n26_ := Aside0.mk ((by rw [hg]; exact Nat.ne_of_gt (blk_lt (g := gb381) (o := .cells #[.int .i64 t375, .int .i64 t376, .slice Ao33 t377.length co33, .int .i64 t380] 35 (0, 0)) (Cz.b BK381.out)) : gb410 ≠ gb381))
              have n27_ := Aside0.mk ((by rw [hg]; exact Nat.ne_of_lt (blk_lt (g := gb388) (o := .cells #[.int .i64 t382, .int .i64 t383, .slice Ao43 t384.length co43, .int .i64 t387] 35 (0, 0)) (Cz.b BK388.out)) : gb388 ≠ gb410))
              have n28_ := Aside0.mk ((by rw [hg]; exact Nat.ne_of_gt (blk_lt (g := gb388) (o := .cells #[.int .i64 t382, .int .i64 t383, .slice Ao43 t384.length co43, .int .i64 t387] 35 (0, 0)) (Cz.b BK388.out)) : gb410 ≠ gb388))
              have n29_ := Aside0.mk ((by rw [hg]; exact Nat.ne_of_lt (blk_lt (g := gb390) (o := .cells #[.int .i64 t363, .int .i64 t362, .slice Ao18 t364.length co18] 27 (0, 0)) (Cz.b BK390.out)) : gb390 ≠ gb410))
              have n30_ := Aside0.mk ((by rw [hg]; exact Nat.ne_of_gt (blk_lt (g := gb390) (o := .cells #[.int .i64 t363, .int .i64 t362, .slice Ao18 t364.length co18] 27 (0, 0)) (Cz.b BK390.out)) : gb410 ≠ gb390))
              have n31_ := Aside0.mk ((by rw [hg]; exact Nat.ne_of_lt (blk_lt (g := gb397) (o := .cells #[.int .i64 t391, .int .i64 t392, .slice Ao104 t393.length co104, .int .i64 t396] 35 (0, 0)) (Cz.b BK397.out)) : gb397 ≠ gb410))
              have n32_ := Aside0.mk ((by rw [hg]; exact Nat.ne_of_gt (blk_lt (g := gb397) (o := .cells #[.int .i64 t391, .int .i64 t392, .slice Ao104 t393.length co104, .int .i64 t396] 35 (0, 0)) (Cz.b BK397.out)) : gb410 ≠ gb397))
              clear HO_368002 HO_369002 HO_375002 HO_382002 HO_389002 HO395 HO402 HO408 BK367 BK368 BK374 BK381 BK388 BK390 BK397 HB
              have HO_368002 := n0_
              have HO_369002 := n1_
              have HO_375002 := n2_
              have HO_382002 := n3_
              have HO_389002 := n4_
              have HO395 := n5_
              have HO402 := n6_
              have HO408 := n7_
              have BK367 := n8_
              have BK368 := n9_
              have BK374 := n10_
              have BK381 := n11_
              have BK388 := n12_
              have BK390 := n13_
              have BK397 := n14_
              have HB := n15_
              have BK410 := n16_
              have GW410 := n17_
              have GE410 := n18_
              have NB367_410 := n19_
              have NB410_367 := n20_
              have NB368_410 := n21_
              have NB410_368 := n22_
              have NB374_410 := n23_
              have NB410_374 := n24_
              have NB381_410 := n25_
              have NB410_381 := n26_
              have NB388_410 := n27_
              have NB410_388 := n28_
              have NB390_410 := n29_
              have NB410_390 := n30_
              have NB397_410 := n31_
              have NB410_397 := n32_
              clear n0_ n1_ n2_ n3_ n4_ n5_ n6_ n7_ n8_ n9_ n10_ n11_ n12_ n13_ n14_ n15_ n16_ n17_ n18_ n19_ n20_ n21_ n22_ n23_ n24_ n25_ n26_ n27_ n28_ n29_ n30_ n31_ n32_
              clear hb hbox hg
              refine hK.out _ _ ⟨(blk_cell BK367.out 0).trans rfl, (blk_cell BK367.out 1).trans rfl, (blk_cell BK367.out 2).trans rfl, (blk_cell BK368.out 0).trans rfl, (blk_cell BK368.out 1).trans rfl, (blk_cell BK368.out 2).trans rfl, (blk_cell BK390.out 0).trans rfl, (blk_cell BK390.out 1).trans rfl, (blk_cell BK390.out 2).trans rfl⟩ (fun hHeld => ?_)
              clear hK K
              refine norm_ (a' := ?_) ?_ ?_
              rotate_left
              ·show Act.put _ (some 12) _ = _
               simp only [Act.put, List.setIfInBounds_toArray, List.set_cons_zero, List.set_cons_succ, i64_w, i32_w]
               rfl
              exact norm_ (by simp only [putAll, Act.put, List.setIfInBounds_toArray, List.set_cons_zero, List.set_cons_succ]) (hCont (.slice Ao108 t400.length co108, v407, gb410) _ ⟨hHeld, (by (with_reducible repeat (first | apply Kd.R_alloc | apply Kd.R_drewN | apply Kd.R_drew)); exact Kd.R_mono HO395.out (fun _ hk => ⟨hk.1.2, ⟨hk.2, ⟨hk.1.1.1, ⟨hk.1.1.2.1, ⟨hk.1.1.2.2.1, ⟨hk.1.1.2.2.2.1, hk.1.1.2.2.2.2⟩⟩⟩⟩⟩⟩)), (by (with_reducible repeat (first | apply Kd.R_alloc | apply Kd.R_drewN | apply Kd.R_drew)); exact Kd.R_mono HO402.out (fun _ hk => ⟨hk.1.2, ⟨hk.2, ⟨hk.1.1.1.1.1.1.2, ⟨hk.1.1.1.1.1.2, ⟨hk.1.1.1.1.2, ⟨hk.1.1.1.2, hk.1.1.2⟩⟩⟩⟩⟩⟩)), (by (with_reducible repeat (first | apply Kd.R_alloc | apply Kd.R_drewN | apply Kd.R_drew)); exact Kd.R_mono HO408.out (fun _ hk => ⟨hk.1.2, ⟨hk.2, ⟨hk.1.1.1.1.1.1.2, ⟨hk.1.1.1.1.1.2, ⟨hk.1.1.1.1.2, ⟨hk.1.1.1.2, hk.1.1.2⟩⟩⟩⟩⟩⟩)), (by (with_reducible repeat (first | apply Kd.Q_alloc | apply Kd.Q_drewN | apply Kd.Q_drew)); exact Kd.Q_mono HO_368002.out (fun _ hk => ⟨hk.1.1.2.2.2.2, ⟨hk.1.2, ⟨hk.2, ⟨hk.1.1.1, ⟨hk.1.1.2.1, ⟨hk.1.1.2.2.1, hk.1.1.2.2.2.1⟩⟩⟩⟩⟩⟩)), (by (with_reducible repeat (first | apply Kd.Q_alloc | apply Kd.Q_drewN | apply Kd.Q_drew)); exact Kd.Q_mono HO_369002.out (fun _ hk => ⟨hk.1.1.2.2.2.2, ⟨hk.1.2, ⟨hk.2, ⟨hk.1.1.1, ⟨hk.1.1.2.1, ⟨hk.1.1.2.2.1, hk.1.1.2.2.2.1⟩⟩⟩⟩⟩⟩)), (by (with_reducible repeat (first | apply Kd.Q_alloc | apply Kd.Q_drewN | apply Kd.Q_drew)); exact Kd.Q_mono HO_375002.out (fun _ hk => ⟨hk.1.1.2.2.2.2, ⟨hk.1.2, ⟨hk.2, ⟨hk.1.1.1, ⟨hk.1.1.2.1, ⟨hk.1.1.2.2.1, hk.1.1.2.2.2.1⟩⟩⟩⟩⟩⟩)), (by (with_reducible repeat (first | apply Kd.R_alloc | apply Kd.R_drewN | apply Kd.R_drew)); exact Kd.R_mono HO_382002.out (fun _ hk => ⟨hk.1.1.2.2.2.2, ⟨hk.1.2, ⟨hk.2, ⟨hk.1.1.1, ⟨hk.1.1.2.1, ⟨hk.1.1.2.2.1, hk.1.1.2.2.2.1⟩⟩⟩⟩⟩⟩)), (by (with_reducible repeat (first | apply Kd.R_alloc | apply Kd.R_drewN | apply Kd.R_drew)); exact Kd.R_mono HO_389002.out (fun _ hk => ⟨hk.1.1.2.2.2.2, ⟨hk.1.2, ⟨hk.2, ⟨hk.1.1.1, ⟨hk.1.1.2.1, ⟨hk.1.1.2.2.1, hk.1.1.2.2.2.1⟩⟩⟩⟩⟩⟩)), (Cz.b BK367.out), (Cz.b BK368.out), (Cz.b BK374.out), (Cz.b BK381.out), (Cz.b BK388.out), (Cz.b BK390.out), (Cz.b BK397.out), (Cz.b BK410.out), GW410.out, GE410.out, NB367_410.out, NB410_367.out, NB368_410.out, NB410_368.out, NB374_410.out, NB410_374.out, NB381_410.out, NB410_381.out, NB388_410.out, NB410_388.out, NB390_410.out, NB410_390.out, NB397_410.out, NB410_397.out, (Cz.w HB.out)⟩)
             ·skip
              refine box_step ?hg (N := 12) ?hd (cs := #[.int .i64 0, .int .i64 0, .slice none 0 0, .int .i64 0]) (t := 35) ?hr ?_; (case hd => rfl); (case hg => rfl); (case hr => first | (go_simp; done) | (go_simp; rfl))
              intro gb410 hg w108 hbox hb
              have n0_ := Aside0.mk (Kd.Q_below (Cy.q HO_368002.out) hb)
              have n1_ := Aside0.mk (Kd.Q_below (Cy.q HO_369002.out) hb)
              have n2_ := Aside0.mk (Kd.Q_below (Cy.q HO_375002.out) hb)
              have n3_ := Aside0.mk (Kd.R_below (Cz.r HO_382002.out) hb)
              have n4_ := Aside0.mk (Kd.R_below (Cz.r HO_389002.out) hb)
              have n5_ := Aside0.mk (Kd.R_below (Cz.r HO395.out) hb)
              have n6_ := Aside0.mk (Kd.R_below (Cz.r HO402.out) hb)
              have n7_ := Aside0.mk (blk_below (g := gb367) (o := .cells #[.int .i64 t357, .int .i64 t358, .slice Ao16 t359.length co16] 27 (0, 0)) (Cz.b BK367.out) hb)
              have n8_ := Aside0.mk (blk_below (g := gb368) (o := .cells #[.int .i64 t362, .int .i64 t363, .slice Ao18 t364.length co18] 27 (0, 0)) (Cz.b BK368.out) hb)
              have n9_ := Aside0.mk (blk_below (g := gb374) (o := .cells #[.int .i64 t369, .int .i64 t370, .slice Ao24 t371.length co24] 27 (0, 0)) (Cz.b BK374.out) hb)
              have n10_ := Aside0.mk (blk_below (g := gb381) (o := .cells #[.int .i64 t375, .int .i64 t376, .slice Ao33 t377.length co33, .int .i64 t380] 35 (0, 0)) (Cz.b BK381.out) hb)
              have n11_ := Aside0.mk (blk_below (g := gb388) (o := .cells #[.int .i64 t382, .int .i64 t383, .slice Ao43 t384.length co43, .int .i64 t387] 35 (0, 0)) (Cz.b BK388.out) hb)
              have n12_ := Aside0.mk (blk_below (g := gb390) (o := .cells #[.int .i64 t363, .int .i64 t362, .slice Ao18 t364.length co18] 27 (0, 0)) (Cz.b BK390.out) hb)
              have n13_ := Aside0.mk (blk_below (g := gb397) (o := .cells #[.int .i64 t391, .int .i64 t392, .slice Ao104 t393.length co104, .int .i64 t396] 35 (0, 0)) (Cz.b BK397.out) hb)
              have n14_ := Aside0.mk (below_step (Cz.w HB.out) hb)
              have n15_ := Aside0.mk (hbox)
              have n16_ := Aside0.mk (Cy.gw hg HB.out)
              have n17_ := Aside0.mk (Cy.gw hg HB.out)
              have n18_ := Aside0.mk ((by rw [hg]; exact Nat.ne_of_lt (blk_lt (g := gb367) (o := .cells #[.int .i64 t357, .int .i64 t358, .slice Ao16 t359.length co16] 27 (0, 0)) (Cz.b BK367.out)) : gb367 ≠ gb410))
              have n19_ := Aside0.mk ((by rw [hg]; exact Nat.ne_of_gt (blk_lt (g := gb367) (o := .cells #[.int .i64 t357, .int .i64 t358, .slice Ao16 t359.length co16] 27 (0, 0)) (Cz.b BK367.out)) : gb410 ≠ gb367))
              have n20_ := Aside0.mk ((by rw [hg]; exact Nat.ne_of_lt (blk_lt (g := gb368) (o := .cells #[.int .i64 t362, .int .i64 t363, .slice Ao18 t364.length co18] 27 (0, 0)) (Cz.b BK368.out)) : gb368 ≠ gb410))
              have n21_ := Aside0.mk ((by rw [hg]; exact Nat.ne_of_gt (blk_lt (g := gb368) (o := .cells #[.int .i64 t362, .int .i64 t363, .slice Ao18 t364.length co18] 27 (0, 0)) (Cz.b BK368.out)) : gb410 ≠ gb368))
              have n22_ := Aside0.mk ((by rw [hg]; exact Nat.ne_of_lt (blk_lt (g := gb374) (o := .cells #[.int .i64 t369, .int .i64 t370, .slice Ao24 t371.length co24] 27 (0, 0)) (Cz.b BK374.out)) : gb374 ≠ gb410))
              have n23_ := Aside0.mk ((by rw [hg]; exact Nat.ne_of_gt (blk_lt (g := gb374) (o := .cells #[.int .i64 t369, .int .i64 t370, .slice Ao24 t371.length co24] 27 (0, 0)) (Cz.b BK374.out)) : gb410 ≠ gb374))
              have n24_ := Aside0.mk ((by rw [hg]; exact Nat.ne_of_lt (blk_lt (g := gb381) (o := .cells #[.int .i64 t375, .int .i64 t376, .slice Ao33 t377.length co33, .int .i64 t380] 35 (0, 0)) (Cz.b BK381.out)) : gb381 ≠ gb410))
              have n25_ := Aside0.mk ((by rw [hg]; exact Nat.ne_of_gt (blk_lt (g := gb381) (o := .cells #[.int .i64 t375, .int .i64 t376, .slice Ao33 t377.length co33, .int .i64 t380] 35 (0, 0)) (Cz.b BK381.out)) : gb410 ≠ gb381))
              have n26_ := Aside0.mk ((by rw [hg]; exact Nat.ne_of_lt (blk_lt (g := gb388) (o := .cells #[.int .i64 t382, .int .i64 t383, .slice Ao43 t384.length co43, .int .i64 t387] 35 (0, 0)) (Cz.b BK388.out)) : gb388 ≠ gb410))
              have n27_ := Aside0.mk ((by rw [hg]; exact Nat.ne_of_gt (blk_lt (g := gb388) (o := .cells #[.int .i64 t382, .int .i64 t383, .slice Ao43 t384.length co43, .int .i64 t387] 35 (0, 0)) (Cz.b BK388.out)) : gb410 ≠ gb388))
              have n28_ := Aside0.mk ((by rw [hg]; exact Nat.ne_of_lt (blk_lt (g := gb390) (o := .cells #[.int .i64 t363, .int .i64 t362, .slice Ao18 t364.length co18] 27 (0, 0)) (Cz.b BK390.out)) : gb390 ≠ gb410))
              have n29_ := Aside0.mk ((by rw [hg]; exact Nat.ne_of_gt (blk_lt (g := gb390) (o := .cells #[.int .i64 t363, .int .i64 t362, .slice Ao18 t364.length co18] 27 (0, 0)) (Cz.b BK390.out)) : gb410 ≠ gb390))
              have n30_ := Aside0.mk ((by rw [hg]; exact Nat.ne_of_lt (blk_lt (g := gb397) (o := .cells #[.int .i64 t391, .int .i64 t392, .slice Ao104 t393.length co104, .int .i64 t396] 35 (0, 0)) (Cz.b BK397.out)) : gb397 ≠ gb410))
              have n31_ := Aside0.mk ((by rw [hg]; exact Nat.ne_of_gt (blk_lt (g := gb397) (o := .cells #[.int .i64 t391, .int .i64 t392, .slice Ao104 t393.length co104, .int .i64 t396] 35 (0, 0)) (Cz.b BK397.out)) : gb410 ≠ gb397))
              clear HO_368002 HO_369002 HO_375002 HO_382002 HO_389002 HO395 HO402 BK367 BK368 BK374 BK381 BK388 BK390 BK397 HB
              have HO_368002 := n0_
              have HO_369002 := n1_
              have HO_375002 := n2_
              have HO_382002 := n3_
              have HO_389002 := n4_
              have HO395 := n5_
              have HO402 := n6_
              have BK367 := n7_
              have BK368 := n8_
              have BK374 := n9_
              have BK381 := n10_
              have BK388 := n11_
              have BK390 := n12_
              have BK397 := n13_
              have HB := n14_
              have BK410 := n15_
              have GW410 := n16_
              have GE410 := n17_
              have NB367_410 := n18_
              have NB410_367 := n19_
              have NB368_410 := n20_
              have NB410_368 := n21_
              have NB374_410 := n22_
              have NB410_374 := n23_
              have NB381_410 := n24_
              have NB410_381 := n25_
              have NB388_410 := n26_
              have NB410_388 := n27_
              have NB390_410 := n28_
              have NB410_390 := n29_
              have NB397_410 := n30_
              have NB410_397 := n31_
              clear n0_ n1_ n2_ n3_ n4_ n5_ n6_ n7_ n8_ n9_ n10_ n11_ n12_ n13_ n14_ n15_ n16_ n17_ n18_ n19_ n20_ n21_ n22_ n23_ n24_ n25_ n26_ n27_ n28_ n29_ n30_ n31_
              clear hb hbox hg
              obtain ⟨Ao109, co109, eo109⟩ := Kd.R_slice HO402.out
              (first | subst eo109 | (injection eo109 with f1_ f2_ f3_; have f4_ := f1_.symm; have f5_ := f3_.symm; clear f1_ f2_ f3_; subst f4_; subst f5_))
              refine hK.out _ _ ⟨(blk_cell BK367.out 0).trans rfl, (blk_cell BK367.out 1).trans rfl, (blk_cell BK367.out 2).trans rfl, (blk_cell BK368.out 0).trans rfl, (blk_cell BK368.out 1).trans rfl, (blk_cell BK368.out 2).trans rfl, (blk_cell BK390.out 0).trans rfl, (blk_cell BK390.out 1).trans rfl, (blk_cell BK390.out 2).trans rfl⟩ (fun hHeld => ?_)
              clear hK K
              refine norm_ (a' := ?_) ?_ ?_
              rotate_left
              ·show Act.put _ (some 12) _ = _
               simp only [Act.put, List.setIfInBounds_toArray, List.set_cons_zero, List.set_cons_succ, i64_w, i32_w]
               rfl
              refine one_ (i := 5) (N := some 68) #[true, true, true, true, true, true, true, false] rfl rfl (one_of HT_.out (by kernel_rfl)) (by decide) (fun K hK => ?_)
              refine goes_ Try.func31 (by kernel_rfl) rfl #[.agg #[.int .i64 t357, .int .i64 t358, .slice Ao16 t359.length co16], .agg #[.int .i64 t398, .int .i64 t399, .slice Ao109 t400.length co109]] (by rfl) rfl rfl Cy.ls ?_
              with_reducible refine (impl_MatrixMul.calls kj9 t357 t358 _ _ t359 t398 t399 _ _ t400 t404 t405 t406 t409 _ ?side1 ?side2 ?side3 ?side4 A75.out).mono ?_
              (case side1 => exact Cy.cd (Kd.Q_reads' HO_368002.out).2.2)
              (case side2 => exact (Kd.Q_reads' HO_368002.out).2.1)
              (case side3 => exact Cy.cd (Kd.R_reads' HO402.out).2.2)
              (case side4 => exact (Kd.R_reads' HO402.out).2.1)
              rintro e w110 ⟨v407, rfl, ho0, hb⟩
              refine ⟨_, rfl, ?_⟩
              have n_ := Cy.a17 (Kd.Q_elder' (Cy.q HO_368002.out) (Kd.R_base ho0) hb) (Kd.Q_elder' (Cy.q HO_369002.out) (Kd.R_base ho0) hb) (Kd.Q_elder' (Cy.q HO_375002.out) (Kd.R_base ho0) hb) (Kd.R_elder' (Cz.r HO_382002.out) (Kd.R_base ho0) hb) (Kd.R_elder' (Cz.r HO_389002.out) (Kd.R_base ho0) hb) (Kd.R_elder' (Cz.r HO395.out) (Kd.R_base ho0) hb) (Kd.R_elder' (Cz.r HO402.out) (Kd.R_base ho0) hb) (Kd.R_lower (Kd.R_new' (Kd.R_new' (Kd.R_new' (Kd.R_new' (Kd.R_new' (Kd.R_new' (Kd.R_new' ho0 (Kd.Q_lt (Cy.q HO_368002.out))) (Kd.Q_lt (Cy.q HO_369002.out))) (Kd.Q_lt (Cy.q HO_375002.out))) (Kd.R_lt (Cz.r HO_382002.out))) (Kd.R_lt (Cz.r HO_389002.out))) (Kd.R_lt (Cz.r HO395.out))) (Kd.R_lt (Cz.r HO402.out))) (below_size (Cz.w HB.out))) (blk_below (g := gb367) (o := .cells #[.int .i64 t357, .int .i64 t358, .slice Ao16 t359.length co16] 27 (0, 0)) (Cz.b BK367.out) hb) (blk_below (g := gb368) (o := .cells #[.int .i64 t362, .int .i64 t363, .slice Ao18 t364.length co18] 27 (0, 0)) (Cz.b BK368.out) hb) (blk_below (g := gb374) (o := .cells #[.int .i64 t369, .int .i64 t370, .slice Ao24 t371.length co24] 27 (0, 0)) (Cz.b BK374.out) hb) (blk_below (g := gb381) (o := .cells #[.int .i64 t375, .int .i64 t376, .slice Ao33 t377.length co33, .int .i64 t380] 35 (0, 0)) (Cz.b BK381.out) hb) (blk_below (g := gb388) (o := .cells #[.int .i64 t382, .int .i64 t383, .slice Ao43 t384.length co43, .int .i64 t387] 35 (0, 0)) (Cz.b BK388.out) hb) (blk_below (g := gb390) (o := .cells #[.int .i64 t363, .int .i64 t362, .slice Ao18 t364.length co18] 27 (0, 0)) (Cz.b BK390.out) hb) (blk_below (g := gb397) (o := .cells #[.int .i64 t391, .int .i64 t392, .slice Ao104 t393.length co104, .int .i64 t396] 35 (0, 0)) (Cz.b BK397.out) hb) (blk_below (g := gb410) (o := .cells #[.int .i64 0, .int .i64 0, .slice none 0 0, .int .i64 0] 35 (0, 0)) (Cz.b BK410.out) hb) (below_step (Cz.w HB.out) hb)
              clear HO_368002 HO_369002 HO_375002 HO_382002 HO_389002 HO395 HO402 BK367 BK368 BK374 BK381 BK388 BK390 BK397 BK410 HB
              obtain ⟨HO_368002, HO_369002, HO_375002, HO_382002, HO_389002, HO395, HO402, HO408, BK367, BK368, BK374, BK381, BK388, BK390, BK397, BK410, HB⟩ := n_
              (try clear hb)
              (try clear hb2)
              (try clear hk)
              (try clear hi)
              (try clear ho0)
              refine hK.out _ _ ⟨(blk_cell BK367.out 0).trans rfl, (blk_cell BK367.out 1).trans rfl, (blk_cell BK367.out 2).trans rfl, (blk_cell BK368.out 0).trans rfl, (blk_cell BK368.out 1).trans rfl, (blk_cell BK368.out 2).trans rfl, (blk_cell BK390.out 0).trans rfl, (blk_cell BK390.out 1).trans rfl, (blk_cell BK390.out 2).trans rfl⟩ (fun hHeld => ?_)
              clear hK K
              refine norm_ (a' := ?_) ?_ ?_
              rotate_left
              ·show Act.put _ (some 68) _ = _
               simp only [Act.put, List.setIfInBounds_toArray, List.set_cons_zero, List.set_cons_succ, i64_w, i32_w]
               rfl
              exact norm_ (by simp only [putAll, Act.put, List.setIfInBounds_toArray, List.set_cons_zero, List.set_cons_succ]) (hCont (.slice Ao109 t400.length co109, v407, gb410) _ ⟨hHeld, (by (with_reducible repeat (first | apply Kd.R_alloc | apply Kd.R_drewN | apply Kd.R_drew)); exact Kd.R_mono HO395.out (fun _ hk => ⟨hk.1.2, ⟨hk.2, ⟨hk.1.1.1, ⟨hk.1.1.2.1, ⟨hk.1.1.2.2.1, ⟨hk.1.1.2.2.2.1, hk.1.1.2.2.2.2⟩⟩⟩⟩⟩⟩)), (by (with_reducible repeat (first | apply Kd.R_alloc | apply Kd.R_drewN | apply Kd.R_drew)); exact Kd.R_mono HO402.out (fun _ hk => ⟨hk.1.2, ⟨hk.2, ⟨hk.1.1.1.1.1.1.2, ⟨hk.1.1.1.1.1.2, ⟨hk.1.1.1.1.2, ⟨hk.1.1.1.2, hk.1.1.2⟩⟩⟩⟩⟩⟩)), (by (with_reducible repeat (first | apply Kd.R_alloc | apply Kd.R_drewN | apply Kd.R_drew)); exact Kd.R_mono HO408.out (fun _ hk => ⟨hk.1.2, ⟨hk.2, ⟨hk.1.1.1.1.1.1.2, ⟨hk.1.1.1.1.1.2, ⟨hk.1.1.1.1.2, ⟨hk.1.1.1.2, hk.1.1.2⟩⟩⟩⟩⟩⟩)), (by (with_reducible repeat (first | apply Kd.Q_alloc | apply Kd.Q_drewN | apply Kd.Q_drew)); exact Kd.Q_mono HO_368002.out (fun _ hk => ⟨hk.1.1.2.2.2.2, ⟨hk.1.2, ⟨hk.2, ⟨hk.1.1.1, ⟨hk.1.1.2.1, ⟨hk.1.1.2.2.1, hk.1.1.2.2.2.1⟩⟩⟩⟩⟩⟩)), (by (with_reducible repeat (first | apply Kd.Q_alloc | apply Kd.Q_drewN | apply Kd.Q_drew)); exact Kd.Q_mono HO_369002.out (fun _ hk => ⟨hk.1.1.2.2.2.2, ⟨hk.1.2, ⟨hk.2, ⟨hk.1.1.1, ⟨hk.1.1.2.1, ⟨hk.1.1.2.2.1, hk.1.1.2.2.2.1⟩⟩⟩⟩⟩⟩)), (by (with_reducible repeat (first | apply Kd.Q_alloc | apply Kd.Q_drewN | apply Kd.Q_drew)); exact Kd.Q_mono HO_375002.out (fun _ hk => ⟨hk.1.1.2.2.2.2, ⟨hk.1.2, ⟨hk.2, ⟨hk.1.1.1, ⟨hk.1.1.2.1, ⟨hk.1.1.2.2.1, hk.1.1.2.2.2.1⟩⟩⟩⟩⟩⟩)), (by (with_reducible repeat (first | apply Kd.R_alloc | apply Kd.R_drewN | apply Kd.R_drew)); exact Kd.R_mono HO_382002.out (fun _ hk => ⟨hk.1.1.2.2.2.2, ⟨hk.1.2, ⟨hk.2, ⟨hk.1.1.1, ⟨hk.1.1.2.1, ⟨hk.1.1.2.2.1, hk.1.1.2.2.2.1⟩⟩⟩⟩⟩⟩)), (by (with_reducible repeat (first | apply Kd.R_alloc | apply Kd.R_drewN | apply Kd.R_drew)); exact Kd.R_mono HO_389002.out (fun _ hk => ⟨hk.1.1.2.2.2.2, ⟨hk.1.2, ⟨hk.2, ⟨hk.1.1.1, ⟨hk.1.1.2.1, ⟨hk.1.1.2.2.1, hk.1.1.2.2.2.1⟩⟩⟩⟩⟩⟩)), (Cz.b BK367.out), (Cz.b BK368.out), (Cz.b BK374.out), (Cz.b BK381.out), (Cz.b BK388.out), (Cz.b BK390.out), (Cz.b BK397.out), (Cz.b BK410.out), GW410.out, GE410.out, NB367_410.out, NB410_367.out, NB368_410.out, NB410_368.out, NB374_410.out, NB410_374.out, NB381_410.out, NB410_381.out, NB388_410.out, NB410_388.out, NB390_410.out, NB410_390.out, NB397_410.out, NB410_397.out, (Cz.w HB.out)⟩)
            ·skip
             refine box_step ?hg (N := 12) ?hd (cs := #[.int .i64 0, .int .i64 0, .slice none 0 0, .int .i64 0]) (t := 35) ?hr ?_; (case hd => rfl); (case hg => rfl); (case hr => first | (go_simp; done) | (go_simp; rfl))
             intro gb410 hg w107 hbox hb
             have n0_ := Aside0.mk (Kd.Q_below (Cy.q HO_368002.out) hb)
             have n1_ := Aside0.mk (Kd.Q_below (Cy.q HO_369002.out) hb)
             have n2_ := Aside0.mk (Kd.Q_below (Cy.q HO_375002.out) hb)
             have n3_ := Aside0.mk (Kd.R_below (Cz.r HO_382002.out) hb)
             have n4_ := Aside0.mk (Kd.R_below (Cz.r HO_389002.out) hb)
             have n5_ := Aside0.mk (Kd.R_below (Cz.r HO395.out) hb)
             have n6_ := Aside0.mk (blk_below (g := gb367) (o := .cells #[.int .i64 t357, .int .i64 t358, .slice Ao16 t359.length co16] 27 (0, 0)) (Cz.b BK367.out) hb)
             have n7_ := Aside0.mk (blk_below (g := gb368) (o := .cells #[.int .i64 t362, .int .i64 t363, .slice Ao18 t364.length co18] 27 (0, 0)) (Cz.b BK368.out) hb)
             have n8_ := Aside0.mk (blk_below (g := gb374) (o := .cells #[.int .i64 t369, .int .i64 t370, .slice Ao24 t371.length co24] 27 (0, 0)) (Cz.b BK374.out) hb)
             have n9_ := Aside0.mk (blk_below (g := gb381) (o := .cells #[.int .i64 t375, .int .i64 t376, .slice Ao33 t377.length co33, .int .i64 t380] 35 (0, 0)) (Cz.b BK381.out) hb)
             have n10_ := Aside0.mk (blk_below (g := gb388) (o := .cells #[.int .i64 t382, .int .i64 t383, .slice Ao43 t384.length co43, .int .i64 t387] 35 (0, 0)) (Cz.b BK388.out) hb)
             have n11_ := Aside0.mk (blk_below (g := gb390) (o := .cells #[.int .i64 t363, .int .i64 t362, .slice Ao18 t364.length co18] 27 (0, 0)) (Cz.b BK390.out) hb)
             have n12_ := Aside0.mk (blk_below (g := gb397) (o := .cells #[.int .i64 t391, .int .i64 t392, .slice Ao104 t393.length co104, .int .i64 t396] 35 (0, 0)) (Cz.b BK397.out) hb)
             have n13_ := Aside0.mk (below_step (Cz.w HB.out) hb)
             have n14_ := Aside0.mk (hbox)
             have n15_ := Aside0.mk (Cy.gw hg HB.out)
             have n16_ := Aside0.mk (Cy.gw hg HB.out)
             have n17_ := Aside0.mk ((by rw [hg]; exact Nat.ne_of_lt (blk_lt (g := gb367) (o := .cells #[.int .i64 t357, .int .i64 t358, .slice Ao16 t359.length co16] 27 (0, 0)) (Cz.b BK367.out)) : gb367 ≠ gb410))
             have n18_ := Aside0.mk ((by rw [hg]; exact Nat.ne_of_gt (blk_lt (g := gb367) (o := .cells #[.int .i64 t357, .int .i64 t358, .slice Ao16 t359.length co16] 27 (0, 0)) (Cz.b BK367.out)) : gb410 ≠ gb367))
             have n19_ := Aside0.mk ((by rw [hg]; exact Nat.ne_of_lt (blk_lt (g := gb368) (o := .cells #[.int .i64 t362, .int .i64 t363, .slice Ao18 t364.length co18] 27 (0, 0)) (Cz.b BK368.out)) : gb368 ≠ gb410))
             have n20_ := Aside0.mk ((by rw [hg]; exact Nat.ne_of_gt (blk_lt (g := gb368) (o := .cells #[.int .i64 t362, .int .i64 t363, .slice Ao18 t364.length co18] 27 (0, 0)) (Cz.b BK368.out)) : gb410 ≠ gb368))
             have n21_ := Aside0.mk ((by rw [hg]; exact Nat.ne_of_lt (blk_lt (g := gb374) (o := .cells #[.int .i64 t369, .int .i64 t370, .slice Ao24 t371.length co24] 27 (0, 0)) (Cz.b BK374.out)) : gb374 ≠ gb410))
             have n22_ := Aside0.mk ((by rw [hg]; exact Nat.ne_of_gt (blk_lt (g := gb374) (o := .cells #[.int .i64 t369, .int .i64 t370, .slice Ao24 t371.length co24] 27 (0, 0)) (Cz.b BK374.out)) : gb410 ≠ gb374))
             have n23_ := Aside0.mk ((by rw [hg]; exact Nat.ne_of_lt (blk_lt (g := gb381) (o := .cells #[.int .i64 t375, .int .i64 t376, .slice Ao33 t377.length co33, .int .i64 t380] 35 (0, 0)) (Cz.b BK381.out)) : gb381 ≠ gb410))
             have n24_ := Aside0.mk ((by rw [hg]; exact Nat.ne_of_gt (blk_lt (g := gb381) (o := .cells #[.int .i64 t375, .int .i64 t376, .slice Ao33 t377.length co33, .int .i64 t380] 35 (0, 0)) (Cz.b BK381.out)) : gb410 ≠ gb381))
             have n25_ := Aside0.mk ((by rw [hg]; exact Nat.ne_of_lt (blk_lt (g := gb388) (o := .cells #[.int .i64 t382, .int .i64 t383, .slice Ao43 t384.length co43, .int .i64 t387] 35 (0, 0)) (Cz.b BK388.out)) : gb388 ≠ gb410))
             have n26_ := Aside0.mk ((by rw [hg]; exact Nat.ne_of_gt (blk_lt (g := gb388) (o := .cells #[.int .i64 t382, .int .i64 t383, .slice Ao43 t384.length co43, .int .i64 t387] 35 (0, 0)) (Cz.b BK388.out)) : gb410 ≠ gb388))
             have n27_ := Aside0.mk ((by rw [hg]; exact Nat.ne_of_lt (blk_lt (g := gb390) (o := .cells #[.int .i64 t363, .int .i64 t362, .slice Ao18 t364.length co18] 27 (0, 0)) (Cz.b BK390.out)) : gb390 ≠ gb410))
             have n28_ := Aside0.mk ((by rw [hg]; exact Nat.ne_of_gt (blk_lt (g := gb390) (o := .cells #[.int .i64 t363, .int .i64 t362, .slice Ao18 t364.length co18] 27 (0, 0)) (Cz.b BK390.out)) : gb410 ≠ gb390))
             have n29_ := Aside0.mk ((by rw [hg]; exact Nat.ne_of_lt (blk_lt (g := gb397) (o := .cells #[.int .i64 t391, .int .i64 t392, .slice Ao104 t393.length co104, .int .i64 t396] 35 (0, 0)) (Cz.b BK397.out)) : gb397 ≠ gb410))
             have n30_ := Aside0.mk ((by rw [hg]; exact Nat.ne_of_gt (blk_lt (g := gb397) (o := .cells #[.int .i64 t391, .int .i64 t392, .slice Ao104 t393.length co104, .int .i64 t396] 35 (0, 0)) (Cz.b BK397.out)) : gb410 ≠ gb397))
             clear HO_368002 HO_369002 HO_375002 HO_382002 HO_389002 HO395 BK367 BK368 BK374 BK381 BK388 BK390 BK397 HB
             have HO_368002 := n0_
             have HO_369002 := n1_
             have HO_375002 := n2_
             have HO_382002 := n3_
             have HO_389002 := n4_
             have HO395 := n5_
             have BK367 := n6_
             have BK368 := n7_
             have BK374 := n8_
             have BK381 := n9_
             have BK388 := n10_
             have BK390 := n11_
             have BK397 := n12_
             have HB := n13_
             have BK410 := n14_
             have GW410 := n15_
             have GE410 := n16_
             have NB367_410 := n17_
             have NB410_367 := n18_
             have NB368_410 := n19_
             have NB410_368 := n20_
             have NB374_410 := n21_
             have NB410_374 := n22_
             have NB381_410 := n23_
             have NB410_381 := n24_
             have NB388_410 := n25_
             have NB410_388 := n26_
             have NB390_410 := n27_
             have NB410_390 := n28_
             have NB397_410 := n29_
             have NB410_397 := n30_
             clear n0_ n1_ n2_ n3_ n4_ n5_ n6_ n7_ n8_ n9_ n10_ n11_ n12_ n13_ n14_ n15_ n16_ n17_ n18_ n19_ n20_ n21_ n22_ n23_ n24_ n25_ n26_ n27_ n28_ n29_ n30_
             clear hb hbox hg
             refine hK.out _ _ ⟨(blk_cell BK367.out 0).trans rfl, (blk_cell BK367.out 1).trans rfl, (blk_cell BK367.out 2).trans rfl, (blk_cell BK368.out 0).trans rfl, (blk_cell BK368.out 1).trans rfl, (blk_cell BK368.out 2).trans rfl, (blk_cell BK390.out 0).trans rfl, (blk_cell BK390.out 1).trans rfl, (blk_cell BK390.out 2).trans rfl⟩ (fun hHeld => ?_)
             clear hK K
             refine norm_ (a' := ?_) ?_ ?_
             rotate_left
             ·show Act.put _ (some 12) _ = _
              simp only [Act.put, List.setIfInBounds_toArray, List.set_cons_zero, List.set_cons_succ, i64_w, i32_w]
              rfl
             refine one_ (i := 3) (N := some 66) #[true, true, true, true, false, false, true, false] rfl rfl (one_of HT_.out (by kernel_rfl)) (by decide) (fun K hK => ?_)
             refine goes_ Try.func31 (by kernel_rfl) rfl #[.agg #[.int .i64 t362, .int .i64 t363, .slice Ao18 t364.length co18], .agg #[.int .i64 t363, .int .i64 t362, .slice Ao18 t364.length co18]] (by rfl) rfl rfl Cy.ls ?_
             with_reducible refine (impl_MatrixMul.calls kj9 t362 t363 _ _ t364 t363 t362 _ _ t364 t398 t399 t400 t403 _ ?side1 ?side2 ?side3 ?side4 A74.out).mono ?_
             (case side1 => exact Cy.cd (Kd.Q_reads' HO_369002.out).2.2)
             (case side2 => exact (Kd.Q_reads' HO_369002.out).2.1)
             (case side3 => exact Cy.cd (Kd.Q_reads' HO_369002.out).2.2)
             (case side4 => exact (Kd.Q_reads' HO_369002.out).2.1)
             rintro e w108 ⟨v401, rfl, ho0, hb⟩
             refine ⟨_, rfl, ?_⟩
             have n_ := Cy.a16 (Kd.Q_elder' (Cy.q HO_368002.out) (Kd.R_base ho0) hb) (Kd.Q_elder' (Cy.q HO_369002.out) (Kd.R_base ho0) hb) (Kd.Q_elder' (Cy.q HO_375002.out) (Kd.R_base ho0) hb) (Kd.R_elder' (Cz.r HO_382002.out) (Kd.R_base ho0) hb) (Kd.R_elder' (Cz.r HO_389002.out) (Kd.R_base ho0) hb) (Kd.R_elder' (Cz.r HO395.out) (Kd.R_base ho0) hb) (Kd.R_lower (Kd.R_new' (Kd.R_new' (Kd.R_new' (Kd.R_new' (Kd.R_new' (Kd.R_new' ho0 (Kd.Q_lt (Cy.q HO_368002.out))) (Kd.Q_lt (Cy.q HO_369002.out))) (Kd.Q_lt (Cy.q HO_375002.out))) (Kd.R_lt (Cz.r HO_382002.out))) (Kd.R_lt (Cz.r HO_389002.out))) (Kd.R_lt (Cz.r HO395.out))) (below_size (Cz.w HB.out))) (blk_below (g := gb367) (o := .cells #[.int .i64 t357, .int .i64 t358, .slice Ao16 t359.length co16] 27 (0, 0)) (Cz.b BK367.out) hb) (blk_below (g := gb368) (o := .cells #[.int .i64 t362, .int .i64 t363, .slice Ao18 t364.length co18] 27 (0, 0)) (Cz.b BK368.out) hb) (blk_below (g := gb374) (o := .cells #[.int .i64 t369, .int .i64 t370, .slice Ao24 t371.length co24] 27 (0, 0)) (Cz.b BK374.out) hb) (blk_below (g := gb381) (o := .cells #[.int .i64 t375, .int .i64 t376, .slice Ao33 t377.length co33, .int .i64 t380] 35 (0, 0)) (Cz.b BK381.out) hb) (blk_below (g := gb388) (o := .cells #[.int .i64 t382, .int .i64 t383, .slice Ao43 t384.length co43, .int .i64 t387] 35 (0, 0)) (Cz.b BK388.out) hb) (blk_below (g := gb390) (o := .cells #[.int .i64 t363, .int .i64 t362, .slice Ao18 t364.length co18] 27 (0, 0)) (Cz.b BK390.out) hb) (blk_below (g := gb397) (o := .cells #[.int .i64 t391, .int .i64 t392, .slice Ao104 t393.length co104, .int .i64 t396] 35 (0, 0)) (Cz.b BK397.out) hb) (blk_below (g := gb410) (o := .cells #[.int .i64 0, .int .i64 0, .slice none 0 0, .int .i64 0] 35 (0, 0)) (Cz.b BK410.out) hb) (below_step (Cz.w HB.out) hb)
             clear HO_368002 HO_369002 HO_375002 HO_382002 HO_389002 HO395 BK367 BK368 BK374 BK381 BK388 BK390 BK397 BK410 HB
             obtain ⟨HO_368002, HO_369002, HO_375002, HO_382002, HO_389002, HO395, HO402, BK367, BK368, BK374, BK381, BK388, BK390, BK397, BK410, HB⟩ := n_
             (try clear hb)
             (try clear hb2)
             (try clear hk)
             (try clear hi)
             (try clear ho0)
             obtain ⟨Ao109, co109, eo109⟩ := Kd.R_slice HO402.out
             (first | subst eo109 | (injection eo109 with f1_ f2_ f3_; have f4_ := f1_.symm; have f5_ := f3_.symm; clear f1_ f2_ f3_; subst f4_; subst f5_))
             refine hK.out _ _ ⟨(blk_cell BK367.out 0).trans rfl, (blk_cell BK367.out 1).trans rfl, (blk_cell BK367.out 2).trans rfl, (blk_cell BK368.out 0).trans rfl, (blk_cell BK368.out 1).trans rfl, (blk_cell BK368.out 2).trans rfl, (blk_cell BK390.out 0).trans rfl, (blk_cell BK390.out 1).trans rfl, (blk_cell BK390.out 2).trans rfl⟩ (fun hHeld => ?_)
             clear hK K
             refine norm_ (a' := ?_) ?_ ?_
             rotate_left
             ·show Act.put _ (some 66) _ = _
              simp only [Act.put, List.setIfInBounds_toArray, List.set_cons_zero, List.set_cons_succ, i64_w, i32_w]
              rfl
             refine Cy.pu 4 67 HT_ ?_
             refine one_ (i := 5) (N := some 68) #[true, true, true, true, true, true, true, false] rfl rfl (one_of HT_.out (by kernel_rfl)) (by decide) (fun K hK => ?_)
             refine goes_ Try.func31 (by kernel_rfl) rfl #[.agg #[.int .i64 t357, .int .i64 t358, .slice Ao16 t359.length co16], .agg #[.int .i64 t398, .int .i64 t399, .slice Ao109 t400.length co109]] (by rfl) rfl rfl Cy.ls ?_
             with_reducible refine (impl_MatrixMul.calls kj9 t357 t358 _ _ t359 t398 t399 _ _ t400 t404 t405 t406 t409 _ ?side1 ?side2 ?side3 ?side4 A75.out).mono ?_
             (case side1 => exact Cy.cd (Kd.Q_reads' HO_368002.out).2.2)
             (case side2 => exact (Kd.Q_reads' HO_368002.out).2.1)
             (case side3 => exact Cy.cd (Kd.R_reads' HO402.out).2.2)
             (case side4 => exact (Kd.R_reads' HO402.out).2.1)
             rintro e w110 ⟨v407, rfl, ho0, hb⟩
             refine ⟨_, rfl, ?_⟩
             have n_ := Cy.a17 (Kd.Q_elder' (Cy.q HO_368002.out) (Kd.R_base ho0) hb) (Kd.Q_elder' (Cy.q HO_369002.out) (Kd.R_base ho0) hb) (Kd.Q_elder' (Cy.q HO_375002.out) (Kd.R_base ho0) hb) (Kd.R_elder' (Cz.r HO_382002.out) (Kd.R_base ho0) hb) (Kd.R_elder' (Cz.r HO_389002.out) (Kd.R_base ho0) hb) (Kd.R_elder' (Cz.r HO395.out) (Kd.R_base ho0) hb) (Kd.R_elder' (Cz.r HO402.out) (Kd.R_base ho0) hb) (Kd.R_lower (Kd.R_new' (Kd.R_new' (Kd.R_new' (Kd.R_new' (Kd.R_new' (Kd.R_new' (Kd.R_new' ho0 (Kd.Q_lt (Cy.q HO_368002.out))) (Kd.Q_lt (Cy.q HO_369002.out))) (Kd.Q_lt (Cy.q HO_375002.out))) (Kd.R_lt (Cz.r HO_382002.out))) (Kd.R_lt (Cz.r HO_389002.out))) (Kd.R_lt (Cz.r HO395.out))) (Kd.R_lt (Cz.r HO402.out))) (below_size (Cz.w HB.out))) (blk_below (g := gb367) (o := .cells #[.int .i64 t357, .int .i64 t358, .slice Ao16 t359.length co16] 27 (0, 0)) (Cz.b BK367.out) hb) (blk_below (g := gb368) (o := .cells #[.int .i64 t362, .int .i64 t363, .slice Ao18 t364.length co18] 27 (0, 0)) (Cz.b BK368.out) hb) (blk_below (g := gb374) (o := .cells #[.int .i64 t369, .int .i64 t370, .slice Ao24 t371.length co24] 27 (0, 0)) (Cz.b BK374.out) hb) (blk_below (g := gb381) (o := .cells #[.int .i64 t375, .int .i64 t376, .slice Ao33 t377.length co33, .int .i64 t380] 35 (0, 0)) (Cz.b BK381.out) hb) (blk_below (g := gb388) (o := .cells #[.int .i64 t382, .int .i64 t383, .slice Ao43 t384.length co43, .int .i64 t387] 35 (0, 0)) (Cz.b BK388.out) hb) (blk_below (g := gb390) (o := .cells #[.int .i64 t363, .int .i64 t362, .slice Ao18 t364.length co18] 27 (0, 0)) (Cz.b BK390.out) hb) (blk_below (g := gb397) (o := .cells #[.int .i64 t391, .int .i64 t392, .slice Ao104 t393.length co104, .int .i64 t396] 35 (0, 0)) (Cz.b BK397.out) hb) (blk_below (g := gb410) (o := .cells #[.int .i64 0, .int .i64 0, .slice none 0 0, .int .i64 0] 35 (0, 0)) (Cz.b BK410.out) hb) (below_step (Cz.w HB.out) hb)
             clear HO_368002 HO_369002 HO_375002 HO_382002 HO_389002 HO395 HO402 BK367 BK368 BK374 BK381 BK388 BK390 BK397 BK410 HB
             obtain ⟨HO_368002, HO_369002, HO_375002, HO_382002, HO_389002, HO395, HO402, HO408, BK367, BK368, BK374, BK381, BK388, BK390, BK397, BK410, HB⟩ := n_
             (try clear hb)
             (try clear hb2)
             (try clear hk)
             (try clear hi)
             (try clear ho0)
             refine hK.out _ _ ⟨(blk_cell BK367.out 0).trans rfl, (blk_cell BK367.out 1).trans rfl, (blk_cell BK367.out 2).trans rfl, (blk_cell BK368.out 0).trans rfl, (blk_cell BK368.out 1).trans rfl, (blk_cell BK368.out 2).trans rfl, (blk_cell BK390.out 0).trans rfl, (blk_cell BK390.out 1).trans rfl, (blk_cell BK390.out 2).trans rfl⟩ (fun hHeld => ?_)
             clear hK K
             refine norm_ (a' := ?_) ?_ ?_
             rotate_left
             ·show Act.put _ (some 68) _ = _
              simp only [Act.put, List.setIfInBounds_toArray, List.set_cons_zero, List.set_cons_succ, i64_w, i32_w]
              rfl
             exact norm_ (by simp only [putAll, Act.put, List.setIfInBounds_toArray, List.set_cons_zero, List.set_cons_succ]) (hCont (.slice Ao109 t400.length co109, v407, gb410) _ ⟨hHeld, (by (with_reducible repeat (first | apply Kd.R_alloc | apply Kd.R_drewN | apply Kd.R_drew)); exact Kd.R_mono HO395.out (fun _ hk => ⟨hk.1.2, ⟨hk.2, ⟨hk.1.1.1, ⟨hk.1.1.2.1, ⟨hk.1.1.2.2.1, ⟨hk.1.1.2.2.2.1, hk.1.1.2.2.2.2⟩⟩⟩⟩⟩⟩)), (by (with_reducible repeat (first | apply Kd.R_alloc | apply Kd.R_drewN | apply Kd.R_drew)); exact Kd.R_mono HO402.out (fun _ hk => ⟨hk.1.2, ⟨hk.2, ⟨hk.1.1.1.1.1.1.2, ⟨hk.1.1.1.1.1.2, ⟨hk.1.1.1.1.2, ⟨hk.1.1.1.2, hk.1.1.2⟩⟩⟩⟩⟩⟩)), (by (with_reducible repeat (first | apply Kd.R_alloc | apply Kd.R_drewN | apply Kd.R_drew)); exact Kd.R_mono HO408.out (fun _ hk => ⟨hk.1.2, ⟨hk.2, ⟨hk.1.1.1.1.1.1.2, ⟨hk.1.1.1.1.1.2, ⟨hk.1.1.1.1.2, ⟨hk.1.1.1.2, hk.1.1.2⟩⟩⟩⟩⟩⟩)), (by (with_reducible repeat (first | apply Kd.Q_alloc | apply Kd.Q_drewN | apply Kd.Q_drew)); exact Kd.Q_mono HO_368002.out (fun _ hk => ⟨hk.1.1.2.2.2.2, ⟨hk.1.2, ⟨hk.2, ⟨hk.1.1.1, ⟨hk.1.1.2.1, ⟨hk.1.1.2.2.1, hk.1.1.2.2.2.1⟩⟩⟩⟩⟩⟩)), (by (with_reducible repeat (first | apply Kd.Q_alloc | apply Kd.Q_drewN | apply Kd.Q_drew)); exact Kd.Q_mono HO_369002.out (fun _ hk => ⟨hk.1.1.2.2.2.2, ⟨hk.1.2, ⟨hk.2, ⟨hk.1.1.1, ⟨hk.1.1.2.1, ⟨hk.1.1.2.2.1, hk.1.1.2.2.2.1⟩⟩⟩⟩⟩⟩)), (by (with_reducible repeat (first | apply Kd.Q_alloc | apply Kd.Q_drewN | apply Kd.Q_drew)); exact Kd.Q_mono HO_375002.out (fun _ hk => ⟨hk.1.1.2.2.2.2, ⟨hk.1.2, ⟨hk.2, ⟨hk.1.1.1, ⟨hk.1.1.2.1, ⟨hk.1.1.2.2.1, hk.1.1.2.2.2.1⟩⟩⟩⟩⟩⟩)), (by (with_reducible repeat (first | apply Kd.R_alloc | apply Kd.R_drewN | apply Kd.R_drew)); exact Kd.R_mono HO_382002.out (fun _ hk => ⟨hk.1.1.2.2.2.2, ⟨hk.1.2, ⟨hk.2, ⟨hk.1.1.1, ⟨hk.1.1.2.1, ⟨hk.1.1.2.2.1, hk.1.1.2.2.2.1⟩⟩⟩⟩⟩⟩)), (by (with_reducible repeat (first | apply Kd.R_alloc | apply Kd.R_drewN | apply Kd.R_drew)); exact Kd.R_mono HO_389002.out (fun _ hk => ⟨hk.1.1.2.2.2.2, ⟨hk.1.2, ⟨hk.2, ⟨hk.1.1.1, ⟨hk.1.1.2.1, ⟨hk.1.1.2.2.1, hk.1.1.2.2.2.1⟩⟩⟩⟩⟩⟩)), (Cz.b BK367.out), (Cz.b BK368.out), (Cz.b BK374.out), (Cz.b BK381.out), (Cz.b BK388.out), (Cz.b BK390.out), (Cz.b BK397.out), (Cz.b BK410.out), GW410.out, GE410.out, NB367_410.out, NB410_367.out, NB368_410.out, NB410_368.out, NB374_410.out, NB410_374.out, NB381_410.out, NB410_381.out, NB388_410.out, NB410_388.out, NB390_410.out, NB410_390.out, NB397_410.out, NB410_397.out, (Cz.w HB.out)⟩)
           rintro ⟨v401, v407, gb410⟩ w111 ⟨hS_, h0_, h1_, h2_, h3_, h4_, h5_, h6_, h7_, h8_, h9_, h10_, h11_, h12_, h13_, h14_, h15_, h16_, h17_, h18_, h19_, h20_, h21_, h22_, h23_, h24_, h25_, h26_, h27_, h28_, h29_, h30_, h31_, h32_⟩
           have n0_ : Aside0 (Kd.R (Kd.int .i64) 2 w111 w.heap.size (fun k_ => some k_ ≠ (v401 : Value).ownBlock ∧ some k_ ≠ (v407 : Value).ownBlock ∧ some k_ ≠ (.slice Ao16 t359.length co16 : Value).ownBlock ∧ some k_ ≠ (.slice Ao18 t364.length co18 : Value).ownBlock ∧ some k_ ≠ (.slice Ao24 t371.length co24 : Value).ownBlock ∧ some k_ ≠ (.slice Ao33 t377.length co33 : Value).ownBlock ∧ some k_ ≠ (.slice Ao43 t384.length co43 : Value).ownBlock) (.slice Ao104 t393.length co104) t393) := ⟨h0_⟩
           have n1_ : Aside0 (Kd.R (Kd.int .i64) 2 w111 w.heap.size (fun k_ => some k_ ≠ (.slice Ao104 t393.length co104 : Value).ownBlock ∧ some k_ ≠ (v407 : Value).ownBlock ∧ some k_ ≠ (.slice Ao16 t359.length co16 : Value).ownBlock ∧ some k_ ≠ (.slice Ao18 t364.length co18 : Value).ownBlock ∧ some k_ ≠ (.slice Ao24 t371.length co24 : Value).ownBlock ∧ some k_ ≠ (.slice Ao33 t377.length co33 : Value).ownBlock ∧ some k_ ≠ (.slice Ao43 t384.length co43 : Value).ownBlock) v401 t400) := ⟨h1_⟩
           have n2_ : Aside0 (Kd.R (Kd.int .i64) 2 w111 w.heap.size (fun k_ => some k_ ≠ (.slice Ao104 t393.length co104 : Value).ownBlock ∧ some k_ ≠ (v401 : Value).ownBlock ∧ some k_ ≠ (.slice Ao16 t359.length co16 : Value).ownBlock ∧ some k_ ≠ (.slice Ao18 t364.length co18 : Value).ownBlock ∧ some k_ ≠ (.slice Ao24 t371.length co24 : Value).ownBlock ∧ some k_ ≠ (.slice Ao33 t377.length co33 : Value).ownBlock ∧ some k_ ≠ (.slice Ao43 t384.length co43 : Value).ownBlock) v407 t406) := ⟨h2_⟩
           have n3_ : Aside0 (Kd.Q (Kd.int .i64) 2 w111 w.heap.size (fun k_ => some k_ ≠ (.slice Ao104 t393.length co104 : Value).ownBlock ∧ some k_ ≠ (v401 : Value).ownBlock ∧ some k_ ≠ (v407 : Value).ownBlock ∧ some k_ ≠ (.slice Ao18 t364.length co18 : Value).ownBlock ∧ some k_ ≠ (.slice Ao24 t371.length co24 : Value).ownBlock ∧ some k_ ≠ (.slice Ao33 t377.length co33 : Value).ownBlock ∧ some k_ ≠ (.slice Ao43 t384.length co43 : Value).ownBlock) (.slice Ao16 t359.length co16) t359) := ⟨h3_⟩
           have n4_ : Aside0 (Kd.Q (Kd.int .i64) 2 w111 w.heap.size (fun k_ => some k_ ≠ (.slice Ao104 t393.length co104 : Value).ownBlock ∧ some k_ ≠ (v401 : Value).ownBlock ∧ some k_ ≠ (v407 : Value).ownBlock ∧ some k_ ≠ (.slice Ao16 t359.length co16 : Value).ownBlock ∧ some k_ ≠ (.slice Ao24 t371.length co24 : Value).ownBlock ∧ some k_ ≠ (.slice Ao33 t377.length co33 : Value).ownBlock ∧ some k_ ≠ (.slice Ao43 t384.length co43 : Value).ownBlock) (.slice Ao18 t364.length co18) t364) := ⟨h4_⟩
           have n5_ : Aside0 (Kd.Q (Kd.int .i64) 2 w111 w.heap.size (fun k_ => some k_ ≠ (.slice Ao104 t393.length co104 : Value).ownBlock ∧ some k_ ≠ (v401 : Value).ownBlock ∧ some k_ ≠ (v407 : Value).ownBlock ∧ some k_ ≠ (.slice Ao16 t359.length co16 : Value).ownBlock ∧ some k_ ≠ (.slice Ao18 t364.length co18 : Value).ownBlock ∧ some k_ ≠ (.slice Ao33 t377.length co33 : Value).ownBlock ∧ some k_ ≠ (.slice Ao43 t384.length co43 : Value).ownBlock) (.slice Ao24 t371.length co24) t371) := ⟨h5_⟩
           have n6_ : Aside0 (Kd.R (Kd.int .i64) 2 w111 w.heap.size (fun k_ => some k_ ≠ (.slice Ao104 t393.length co104 : Value).ownBlock ∧ some k_ ≠ (v401 : Value).ownBlock ∧ some k_ ≠ (v407 : Value).ownBlock ∧ some k_ ≠ (.slice Ao16 t359.length co16 : Value).ownBlock ∧ some k_ ≠ (.slice Ao18 t364.length co18 : Value).ownBlock ∧ some k_ ≠ (.slice Ao24 t371.length co24 : Value).ownBlock ∧ some k_ ≠ (.slice Ao43 t384.length co43 : Value).ownBlock) (.slice Ao33 t377.length co33) t377) := ⟨h6_⟩
           have n7_ : Aside0 (Kd.R (Kd.int .i64) 2 w111 w.heap.size (fun k_ => some k_ ≠ (.slice Ao104 t393.length co104 : Value).ownBlock ∧ some k_ ≠ (v401 : Value).ownBlock ∧ some k_ ≠ (v407 : Value).ownBlock ∧ some k_ ≠ (.slice Ao16 t359.length co16 : Value).ownBlock ∧ some k_ ≠ (.slice Ao18 t364.length co18 : Value).ownBlock ∧ some k_ ≠ (.slice Ao24 t371.length co24 : Value).ownBlock ∧ some k_ ≠ (.slice Ao33 t377.length co33 : Value).ownBlock) (.slice Ao43 t384.length co43) t384) := ⟨h7_⟩
           have n8_ : Aside0 (w111.heap[gb367]? = some (.cells #[.int .i64 t357, .int .i64 t358, .slice Ao16 t359.length co16] 27 (0, 0))) := ⟨h8_⟩
           have n9_ : Aside0 (w111.heap[gb368]? = some (.cells #[.int .i64 t362, .int .i64 t363, .slice Ao18 t364.length co18] 27 (0, 0))) := ⟨h9_⟩
           have n10_ : Aside0 (w111.heap[gb374]? = some (.cells #[.int .i64 t369, .int .i64 t370, .slice Ao24 t371.length co24] 27 (0, 0))) := ⟨h10_⟩
           have n11_ : Aside0 (w111.heap[gb381]? = some (.cells #[.int .i64 t375, .int .i64 t376, .slice Ao33 t377.length co33, .int .i64 t380] 35 (0, 0))) := ⟨h11_⟩
           have n12_ : Aside0 (w111.heap[gb388]? = some (.cells #[.int .i64 t382, .int .i64 t383, .slice Ao43 t384.length co43, .int .i64 t387] 35 (0, 0))) := ⟨h12_⟩
           have n13_ : Aside0 (w111.heap[gb390]? = some (.cells #[.int .i64 t363, .int .i64 t362, .slice Ao18 t364.length co18] 27 (0, 0))) := ⟨h13_⟩
           have n14_ : Aside0 (w111.heap[gb397]? = some (.cells #[.int .i64 t391, .int .i64 t392, .slice Ao104 t393.length co104, .int .i64 t396] 35 (0, 0))) := ⟨h14_⟩
           have n15_ : Aside0 (w111.heap[gb410]? = some (.cells #[.int .i64 0, .int .i64 0, .slice none 0 0, .int .i64 0] 35 (0, 0))) := ⟨h15_⟩
           have n16_ : Aside0 (w.heap.size ≤ gb410) := ⟨h16_⟩
           have n17_ : Aside0 (w.heap.size ≤ gb410) := ⟨h17_⟩
           have n18_ : Aside0 (gb367 ≠ gb410) := ⟨h18_⟩
           have n19_ : Aside0 (gb410 ≠ gb367) := ⟨h19_⟩
           have n20_ : Aside0 (gb368 ≠ gb410) := ⟨h20_⟩
           have n21_ : Aside0 (gb410 ≠ gb368) := ⟨h21_⟩
           have n22_ : Aside0 (gb374 ≠ gb410) := ⟨h22_⟩
           have n23_ : Aside0 (gb410 ≠ gb374) := ⟨h23_⟩
           have n24_ : Aside0 (gb381 ≠ gb410) := ⟨h24_⟩
           have n25_ : Aside0 (gb410 ≠ gb381) := ⟨h25_⟩
           have n26_ : Aside0 (gb388 ≠ gb410) := ⟨h26_⟩
           have n27_ : Aside0 (gb410 ≠ gb388) := ⟨h27_⟩
           have n28_ : Aside0 (gb390 ≠ gb410) := ⟨h28_⟩
           have n29_ : Aside0 (gb410 ≠ gb390) := ⟨h29_⟩
           have n30_ : Aside0 (gb397 ≠ gb410) := ⟨h30_⟩
           have n31_ : Aside0 (gb410 ≠ gb397) := ⟨h31_⟩
           have n32_ : Aside0 (Below w.heap.size w w111) := ⟨h32_⟩
           clear HO_368002 HO_369002 HO_375002 HO_382002 HO_389002 HO395 BK367 BK368 BK374 BK381 BK388 BK390 BK397 HB
           clear h0_ h1_ h2_ h3_ h4_ h5_ h6_ h7_ h8_ h9_ h10_ h11_ h12_ h13_ h14_ h15_ h16_ h17_ h18_ h19_ h20_ h21_ h22_ h23_ h24_ h25_ h26_ h27_ h28_ h29_ h30_ h31_ h32_
           have HO395 := n0_
           have HO402 := n1_
           have HO408 := n2_
           have HO_368002 := n3_
           have HO_369002 := n4_
           have HO_375002 := n5_
           have HO_382002 := n6_
           have HO_389002 := n7_
           have BK367 := n8_
           have BK368 := n9_
           have BK374 := n10_
           have BK381 := n11_
           have BK388 := n12_
           have BK390 := n13_
           have BK397 := n14_
           have BK410 := n15_
           have GW410 := n16_
           have GE410 := n17_
           have NB367_410 := n18_
           have NB410_367 := n19_
           have NB368_410 := n20_
           have NB410_368 := n21_
           have NB374_410 := n22_
           have NB410_374 := n23_
           have NB381_410 := n24_
           have NB410_381 := n25_
           have NB388_410 := n26_
           have NB410_388 := n27_
           have NB390_410 := n28_
           have NB410_390 := n29_
           have NB397_410 := n30_
           have NB410_397 := n31_
           have HB := n32_
           clear n0_ n1_ n2_ n3_ n4_ n5_ n6_ n7_ n8_ n9_ n10_ n11_ n12_ n13_ n14_ n15_ n16_ n17_ n18_ n19_ n20_ n21_ n22_ n23_ n24_ n25_ n26_ n27_ n28_ n29_ n30_ n31_ n32_
           have hHeld : w111.cell? ⟨gb367, 0, none⟩ = some (.int .i64 t357) ∧ w111.cell? ⟨gb367, 1, none⟩ = some (.int .i64 t358) ∧ w111.cell? ⟨gb367, 2, none⟩ = some (.slice Ao16 t359.length co16) ∧ w111.cell? ⟨gb368, 0, none⟩ = some (.int .i64 t362) ∧ w111.cell? ⟨gb368, 1, none⟩ = some (.int .i64 t363) ∧ w111.cell? ⟨gb368, 2, none⟩ = some (.slice Ao18 t364.length co18) ∧ w111.cell? ⟨gb390, 0, none⟩ = some (.int .i64 t363) ∧ w111.cell? ⟨gb390, 1, none⟩ = some (.int .i64 t362) ∧ w111.cell? ⟨gb390, 2, none⟩ = some (.slice Ao18 t364.length co18) := hS_
           obtain ⟨Ao114, co114, eo114⟩ := Kd.R_slice HO408.out
           (first | subst eo114 | (injection eo114 with f1_ f2_ f3_; have f4_ := f1_.symm; have f5_ := f3_.symm; clear f1_ f2_ f3_; subst f4_; subst f5_))
           refine norm_ (a' := ?_) ?_ ?_
           rotate_left
           ·simp only [putAll, Act.put, List.setIfInBounds_toArray, List.set_cons_zero, List.set_cons_succ]
            rfl
           refine one_ (i := 7) (N := none) #[true, true, true, true, true, true, true, true] rfl rfl (one_of HT_.out (by kernel_rfl)) (by decide) (fun K hK => ?_)
           have hs112 : w111.cell? ⟨gb410, 0, none⟩ = some (.int .i64 0) := (blk_cell BK410.out 0).trans rfl
           have hfs112 := blk_frozen BK410.out 0
           have hns112_0 := NB367_410.out
           have hns112_1 := NB368_410.out
           have hns112_2 := NB374_410.out
           have hns112_3 := NB381_410.out
           have hns112_4 := NB388_410.out
           have hns112_5 := NB390_410.out
           have hns112_6 := NB397_410.out
           have hms112_0 := NB410_367.out
           have hms112_1 := NB410_368.out
           have hms112_2 := NB410_374.out
           have hms112_3 := NB410_381.out
           have hms112_4 := NB410_388.out
           have hms112_5 := NB410_390.out
           have hms112_6 := NB410_397.out
           have hs113 : w111.cell? ⟨gb410, 1, none⟩ = some (.int .i64 0) := (blk_cell BK410.out 1).trans rfl
           have hfs113 := blk_frozen BK410.out 1
           have hns113_0 := NB367_410.out
           have hns113_1 := NB368_410.out
           have hns113_2 := NB374_410.out
           have hns113_3 := NB381_410.out
           have hns113_4 := NB388_410.out
           have hns113_5 := NB390_410.out
           have hns113_6 := NB397_410.out
           have hms113_0 := NB410_367.out
           have hms113_1 := NB410_368.out
           have hms113_2 := NB410_374.out
           have hms113_3 := NB410_381.out
           have hms113_4 := NB410_388.out
           have hms113_5 := NB410_390.out
           have hms113_6 := NB410_397.out
           have hs115 : w111.cell? ⟨gb410, 2, none⟩ = some (.slice none 0 0) := (blk_cell BK410.out 2).trans rfl
           have hfs115 := blk_frozen BK410.out 2
           have hns115_0 := NB367_410.out
           have hns115_1 := NB368_410.out
           have hns115_2 := NB374_410.out
           have hns115_3 := NB381_410.out
           have hns115_4 := NB388_410.out
           have hns115_5 := NB390_410.out
           have hns115_6 := NB397_410.out
           have hms115_0 := NB410_367.out
           have hms115_1 := NB410_368.out
           have hms115_2 := NB410_374.out
           have hms115_3 := NB410_381.out
           have hms115_4 := NB410_388.out
           have hms115_5 := NB410_390.out
           have hms115_6 := NB410_397.out
           have hs116 : w111.cell? ⟨gb410, 3, none⟩ = some (.int .i64 0) := (blk_cell BK410.out 3).trans rfl
           have hfs116 := blk_frozen BK410.out 3
           have hns116_0 := NB367_410.out
           have hns116_1 := NB368_410.out
           have hns116_2 := NB374_410.out
           have hns116_3 := NB381_410.out
           have hns116_4 := NB388_410.out
           have hns116_5 := NB390_410.out
           have hns116_6 := NB397_410.out
           have hms116_0 := NB410_367.out
           have hms116_1 := NB410_368.out
           have hms116_2 := NB410_374.out
           have hms116_3 := NB410_381.out
           have hms116_4 := NB410_388.out
           have hms116_5 := NB410_390.out
           have hms116_6 := NB410_397.out
           refine skip_ (w1 := ?_) (by rfl) rfl ?_ ?_
           rotate_left
           ·go_simp
            rfl
           refine hK.out _ _ ⟨((cell_far (p := ⟨gb410, _, none⟩) NB367_410.out _).trans (((cell_far (p := ⟨gb410, _, none⟩) NB367_410.out _).trans (((cell_far (p := ⟨gb410, _, none⟩) NB367_410.out _).trans (((cell_far (p := ⟨gb410, _, none⟩) NB367_410.out _).trans (hHeld.1)))))))), ((cell_far (p := ⟨gb410, _, none⟩) NB367_410.out _).trans (((cell_far (p := ⟨gb410, _, none⟩) NB367_410.out _).trans (((cell_far (p := ⟨gb410, _, none⟩) NB367_410.out _).trans (((cell_far (p := ⟨gb410, _, none⟩) NB367_410.out _).trans (hHeld.2.1)))))))), ((cell_far (p := ⟨gb410, _, none⟩) NB367_410.out _).trans (((cell_far (p := ⟨gb410, _, none⟩) NB367_410.out _).trans (((cell_far (p := ⟨gb410, _, none⟩) NB367_410.out _).trans (((cell_far (p := ⟨gb410, _, none⟩) NB367_410.out _).trans (hHeld.2.2.1)))))))), ((cell_far (p := ⟨gb410, _, none⟩) NB368_410.out _).trans (((cell_far (p := ⟨gb410, _, none⟩) NB368_410.out _).trans (((cell_far (p := ⟨gb410, _, none⟩) NB368_410.out _).trans (((cell_far (p := ⟨gb410, _, none⟩) NB368_410.out _).trans (hHeld.2.2.2.1)))))))), ((cell_far (p := ⟨gb410, _, none⟩) NB368_410.out _).trans (((cell_far (p := ⟨gb410, _, none⟩) NB368_410.out _).trans (((cell_far (p := ⟨gb410, _, none⟩) NB368_410.out _).trans (((cell_far (p := ⟨gb410, _, none⟩) NB368_410.out _).trans (hHeld.2.2.2.2.1)))))))), ((cell_far (p := ⟨gb410, _, none⟩) NB368_410.out _).trans (((cell_far (p := ⟨gb410, _, none⟩) NB368_410.out _).trans (((cell_far (p := ⟨gb410, _, none⟩) NB368_410.out _).trans (((cell_far (p := ⟨gb410, _, none⟩) NB368_410.out _).trans (hHeld.2.2.2.2.2.1)))))))), ((cell_far (p := ⟨gb410, _, none⟩) NB390_410.out _).trans (((cell_far (p := ⟨gb410, _, none⟩) NB390_410.out _).trans (((cell_far (p := ⟨gb410, _, none⟩) NB390_410.out _).trans (((cell_far (p := ⟨gb410, _, none⟩) NB390_410.out _).trans (hHeld.2.2.2.2.2.2.1)))))))), ((cell_far (p := ⟨gb410, _, none⟩) NB390_410.out _).trans (((cell_far (p := ⟨gb410, _, none⟩) NB390_410.out _).trans (((cell_far (p := ⟨gb410, _, none⟩) NB390_410.out _).trans (((cell_far (p := ⟨gb410, _, none⟩) NB390_410.out _).trans (hHeld.2.2.2.2.2.2.2.1)))))))), ((cell_far (p := ⟨gb410, _, none⟩) NB390_410.out _).trans (((cell_far (p := ⟨gb410, _, none⟩) NB390_410.out _).trans (((cell_far (p := ⟨gb410, _, none⟩) NB390_410.out _).trans (((cell_far (p := ⟨gb410, _, none⟩) NB390_410.out _).trans (hHeld.2.2.2.2.2.2.2.2))))))))⟩ (fun hHeld => ?_)
           clear hK K
           refine done_ (done_of HT_.out (by kernel_rfl)) ?_
           have hnb117 := NB397_410.out
           have hnc117 := NB410_397.out
           obtain ⟨hcz118_0, hcz118_1, hcz118_2, hcz118_3, hfz118_0, hfz118_1, hfz118_2, hfz118_3⟩ := Cy.z4 BK397.out
           have hnb119 := NB410_367.out
           have hnc119 := NB367_410.out
           have hnb120 := NB410_368.out
           have hnc120 := NB368_410.out
           have hnb121 := NB410_374.out
           have hnc121 := NB374_410.out
           have hnb122 := NB410_381.out
           have hnc122 := NB381_410.out
           have hnb123 := NB410_388.out
           have hnc123 := NB388_410.out
           have hnb124 := NB410_390.out
           have hnc124 := NB390_410.out
           obtain ⟨hcz125_0, hcz125_1, hcz125_2, hcz125_3, hfz125_0, hfz125_1, hfz125_2, hfz125_3⟩ := Cy.z4 BK410.out
           try go_wp2_with (first | (go_at_call 24; (with_reducible refine (laws_lwSame.calls kj9 t391 t392 _ _ t393 t404 t405 _ _ t406 true _ ?side1 ?side2 ?side3 ?side4 A77.out).mono ?_); (case side1 => refine (Kd.R_reads' (e := 2) (base := w.heap.size) (ok := fun k_ => (some k_ ≠ (v401 : Value).ownBlock ∧ (some k_ ≠ (.slice Ao114 t406.length co114 : Value).ownBlock ∧ (some k_ ≠ (.slice Ao16 t359.length co16 : Value).ownBlock ∧ (some k_ ≠ (.slice Ao18 t364.length co18 : Value).ownBlock ∧ (some k_ ≠ (.slice Ao24 t371.length co24 : Value).ownBlock ∧ (some k_ ≠ (.slice Ao33 t377.length co33 : Value).ownBlock ∧ some k_ ≠ (.slice Ao43 t384.length co43 : Value).ownBlock))))))) (n := t393.length) (c := co104) ?_).2.2; exact (Cz.q4 HO395.out BK410.out)); (case side2 => exact (Kd.R_reads' HO395.out).2.1); (case side3 => refine (Kd.R_reads' (e := 2) (base := w.heap.size) (ok := fun k_ => (some k_ ≠ (.slice Ao104 t393.length co104 : Value).ownBlock ∧ (some k_ ≠ (v401 : Value).ownBlock ∧ (some k_ ≠ (.slice Ao16 t359.length co16 : Value).ownBlock ∧ (some k_ ≠ (.slice Ao18 t364.length co18 : Value).ownBlock ∧ (some k_ ≠ (.slice Ao24 t371.length co24 : Value).ownBlock ∧ (some k_ ≠ (.slice Ao33 t377.length co33 : Value).ownBlock ∧ some k_ ≠ (.slice Ao43 t384.length co43 : Value).ownBlock))))))) (n := t406.length) (c := co114) ?_).2.2; exact (Cz.q4 HO408.out BK410.out)); (case side4 => exact (Kd.R_reads' HO408.out).2.1); rintro e w126 ⟨rfl, hb⟩; have n_ := Cy.a17 (Kd.Q_below (by (with_reducible repeat (first | apply Kd.Q_alloc | apply Kd.Q_drewN | apply Kd.Q_drew)); exact (Kd.Q_mono (Kd.Q_far (p := ⟨gb410, 3, none⟩) (Kd.Q_far (p := ⟨gb410, 2, none⟩) (Kd.Q_far (p := ⟨gb410, 1, none⟩) (Kd.Q_far (p := ⟨gb410, 0, none⟩) (Kd.Q_types HO_368002.out BK410.out (by decide)) (fun _ hk => hk.2) (.int .i64 t404)) (fun _ hk => hk.2) (.int .i64 t405)) (fun _ hk => hk.2) (.slice Ao114 t406.length co114)) (fun _ hk => hk.2) (.int .i64 t409)) (fun _ h_ => h_.1))) hb) (Kd.Q_below (by (with_reducible repeat (first | apply Kd.Q_alloc | apply Kd.Q_drewN | apply Kd.Q_drew)); exact (Kd.Q_mono (Kd.Q_far (p := ⟨gb410, 3, none⟩) (Kd.Q_far (p := ⟨gb410, 2, none⟩) (Kd.Q_far (p := ⟨gb410, 1, none⟩) (Kd.Q_far (p := ⟨gb410, 0, none⟩) (Kd.Q_types HO_369002.out BK410.out (by decide)) (fun _ hk => hk.2) (.int .i64 t404)) (fun _ hk => hk.2) (.int .i64 t405)) (fun _ hk => hk.2) (.slice Ao114 t406.length co114)) (fun _ hk => hk.2) (.int .i64 t409)) (fun _ h_ => h_.1))) hb) (Kd.Q_below (by (with_reducible repeat (first | apply Kd.Q_alloc | apply Kd.Q_drewN | apply Kd.Q_drew)); exact (Kd.Q_mono (Kd.Q_far (p := ⟨gb410, 3, none⟩) (Kd.Q_far (p := ⟨gb410, 2, none⟩) (Kd.Q_far (p := ⟨gb410, 1, none⟩) (Kd.Q_far (p := ⟨gb410, 0, none⟩) (Kd.Q_types HO_375002.out BK410.out (by decide)) (fun _ hk => hk.2) (.int .i64 t404)) (fun _ hk => hk.2) (.int .i64 t405)) (fun _ hk => hk.2) (.slice Ao114 t406.length co114)) (fun _ hk => hk.2) (.int .i64 t409)) (fun _ h_ => h_.1))) hb) (Kd.R_below (Cz.q4 HO_382002.out BK410.out) hb) (Kd.R_below (Cz.q4 HO_389002.out BK410.out) hb) (Kd.R_below (Cz.q4 HO395.out BK410.out) hb) (Kd.R_below (Cz.q4 HO402.out BK410.out) hb) (Kd.R_below (Cz.q4 HO408.out BK410.out) hb) (blk_below (g := gb367) (o := .cells #[.int .i64 t357, .int .i64 t358, .slice Ao16 t359.length co16] 27 (0, 0)) (Cz.f BK367.out NB367_410.out) hb) (blk_below (g := gb368) (o := .cells #[.int .i64 t362, .int .i64 t363, .slice Ao18 t364.length co18] 27 (0, 0)) (Cz.f BK368.out NB368_410.out) hb) (blk_below (g := gb374) (o := .cells #[.int .i64 t369, .int .i64 t370, .slice Ao24 t371.length co24] 27 (0, 0)) (Cz.f BK374.out NB374_410.out) hb) (blk_below (g := gb381) (o := .cells #[.int .i64 t375, .int .i64 t376, .slice Ao33 t377.length co33, .int .i64 t380] 35 (0, 0)) (Cz.f BK381.out NB381_410.out) hb) (blk_below (g := gb388) (o := .cells #[.int .i64 t382, .int .i64 t383, .slice Ao43 t384.length co43, .int .i64 t387] 35 (0, 0)) (Cz.f BK388.out NB388_410.out) hb) (blk_below (g := gb390) (o := .cells #[.int .i64 t363, .int .i64 t362, .slice Ao18 t364.length co18] 27 (0, 0)) (Cz.f BK390.out NB390_410.out) hb) (blk_below (g := gb397) (o := .cells #[.int .i64 t391, .int .i64 t392, .slice Ao104 t393.length co104, .int .i64 t396] 35 (0, 0)) (Cz.f BK397.out NB397_410.out) hb) (blk_below (g := gb410) (o := .cells #[.int .i64 t404, .int .i64 t405, .slice Ao114 t406.length co114, .int .i64 t409] 35 (0, 0)) (Cz.p4 BK410.out) hb) (below_step (Cz.w HB.out) hb); clear HO_368002 HO_369002 HO_375002 HO_382002 HO_389002 HO395 HO402 HO408 BK367 BK368 BK374 BK381 BK388 BK390 BK397 BK410 HB; obtain ⟨HO_368002, HO_369002, HO_375002, HO_382002, HO_389002, HO395, HO402, HO408, BK367, BK368, BK374, BK381, BK388, BK390, BK397, BK410, HB⟩ := n_; (try clear hb); (try clear hb2); (try clear hk); (try clear hi)))
           go_meet
           case rel => exact ⟨_, H', ⟨by have := HJ2.out; have := HJ9.out; first | omega | exact Nat.le_refl _⟩, ⟨by (with_reducible repeat (first | apply Kd.Q_alloc | apply Kd.Q_drewN | apply Kd.Q_drew)); exact Kd.Q_mono HO_368002.out (fun _ hk => ⟨hk.2.2.2.1, ⟨hk.2.2.2.2.1, ⟨hk.2.2.2.2.2.1, hk.2.2.2.2.2.2⟩⟩⟩)⟩, ⟨by (with_reducible repeat (first | apply Kd.Q_alloc | apply Kd.Q_drewN | apply Kd.Q_drew)); exact Kd.Q_mono HO_369002.out (fun _ hk => ⟨hk.2.2.2.1, ⟨hk.2.2.2.2.1, ⟨hk.2.2.2.2.2.1, hk.2.2.2.2.2.2⟩⟩⟩)⟩, ⟨by (with_reducible repeat (first | apply Kd.Q_alloc | apply Kd.Q_drewN | apply Kd.Q_drew)); exact Kd.Q_mono HO_375002.out (fun _ hk => ⟨hk.2.2.2.1, ⟨hk.2.2.2.2.1, ⟨hk.2.2.2.2.2.1, hk.2.2.2.2.2.2⟩⟩⟩)⟩, ⟨by (with_reducible repeat (first | apply Kd.R_alloc | apply Kd.R_drewN | apply Kd.R_drew)); exact Kd.R_mono HO_382002.out (fun _ hk => ⟨hk.2.2.2.1, ⟨hk.2.2.2.2.1, ⟨hk.2.2.2.2.2.1, hk.2.2.2.2.2.2⟩⟩⟩)⟩, ⟨by (with_reducible repeat (first | apply Kd.R_alloc | apply Kd.R_drewN | apply Kd.R_drew)); exact Kd.R_mono HO_389002.out (fun _ hk => ⟨hk.2.2.2.1, ⟨hk.2.2.2.2.1, ⟨hk.2.2.2.2.2.1, hk.2.2.2.2.2.2⟩⟩⟩)⟩, ⟨Cz.b BK367.out⟩, ⟨Cz.b BK368.out⟩, ⟨Cz.b BK374.out⟩, ⟨Cz.b BK381.out⟩, ⟨Cz.b BK388.out⟩, ⟨Cz.w HB.out⟩⟩
          ·replace c78 := Bool.eq_false_iff.mpr c78
           subst c78
           have H1 : (none) = some r := by rw [if_neg (show ¬ (false = true) by decide)] at H; exact H
           clear H
           have H := H1
           clear H1
           exact absurd H (by simp)
         ·rw [if_neg c76] at H
          exact absurd H (by simp)
        ·rw [if_neg c72] at H
         have c72b0 : (t380 == 0) = false := beq_eq_false_iff_ne.mpr c72
         have c72b1 : (t380 != 0) = true := bne_iff_ne.mpr c72
         (first | rw [c72b0] | (simp only [i64_w, i32_w]; rw [c72b0]) | skip)
         have H' := Aside0.mk H
         clear H
         go_wp2
         go_meet
         case rel => exact ⟨_, H', ⟨by have := HJ2.out; have := HJ9.out; first | omega | exact Nat.le_refl _⟩, ⟨Cy.q HO_368002.out⟩, ⟨Cy.q HO_369002.out⟩, ⟨Cy.q HO_375002.out⟩, ⟨Cz.r HO_382002.out⟩, ⟨Cz.r HO_389002.out⟩, ⟨Cz.b BK367.out⟩, ⟨Cz.b BK368.out⟩, ⟨Cz.b BK374.out⟩, ⟨Cz.b BK381.out⟩, ⟨Cz.b BK388.out⟩, ⟨Cz.w HB.out⟩⟩
       case rest =>
        clear HC66
        try clear c1
        try clear p2
        try clear c3
        try clear c7
        try clear c11
        try clear c12
        try clear c31
        try clear c72
        try clear c72b0
        try clear c72b1
        try clear c76
        try clear c78
        try clear c117
        try clear c119
        try clear c120
        try clear c121
        try clear c122
        try clear c123
        try clear c124
        try clear hcz118_0
        try clear hcz118_1
        try clear hcz118_2
        try clear hcz118_3
        try clear hcz125_0
        try clear hcz125_1
        try clear hcz125_2
        try clear hcz125_3
        try clear hfz118_0
        try clear hfz118_1
        try clear hfz118_2
        try clear hfz118_3
        try clear hfz125_0
        try clear hfz125_1
        try clear hfz125_2
        try clear hfz125_3
        obtain ⟨kq, HA, HJ65, HO_368002, HO_369002, HO_375002, HO_382002, HO_389002, BK367, BK368, BK374, BK381, BK388, HB⟩ := hcut
        cases kq with
        | zero => exact absurd HA.out (by simp [laws_FnMatrix.j2])
        | succ kj65 =>
         have H := HA.out
         clear HA
         simp only [laws_FnMatrix.j2] at H
         have HC127 := Aside0.mk H
         clear H
         go_upto_region 15 with (fail)
         go_cut [89] (fun v89 wc => ∃ (kq : Nat) (x89_126 : Bool), v89 = .bool x89_126 ∧ Aside0 (laws_FnMatrix.j3 kq x89_126 t369 t370 t371 = some r) ∧ Aside0 (kq ≤ kj65) ∧ Aside0 (Kd.Q (Kd.int .i64) 2 wc w.heap.size (fun k_ => some k_ ≠ ((.slice Ao18 t364.length co18) : Value).ownBlock ∧ some k_ ≠ ((.slice Ao24 t371.length co24) : Value).ownBlock ∧ some k_ ≠ ((.slice Ao33 t377.length co33) : Value).ownBlock ∧ some k_ ≠ ((.slice Ao43 t384.length co43) : Value).ownBlock) (.slice Ao16 t359.length co16) t359) ∧ Aside0 (Kd.Q (Kd.int .i64) 2 wc w.heap.size (fun k_ => some k_ ≠ ((.slice Ao16 t359.length co16) : Value).ownBlock ∧ some k_ ≠ ((.slice Ao24 t371.length co24) : Value).ownBlock ∧ some k_ ≠ ((.slice Ao33 t377.length co33) : Value).ownBlock ∧ some k_ ≠ ((.slice Ao43 t384.length co43) : Value).ownBlock) (.slice Ao18 t364.length co18) t364) ∧ Aside0 (Kd.Q (Kd.int .i64) 2 wc w.heap.size (fun k_ => some k_ ≠ ((.slice Ao16 t359.length co16) : Value).ownBlock ∧ some k_ ≠ ((.slice Ao18 t364.length co18) : Value).ownBlock ∧ some k_ ≠ ((.slice Ao33 t377.length co33) : Value).ownBlock ∧ some k_ ≠ ((.slice Ao43 t384.length co43) : Value).ownBlock) (.slice Ao24 t371.length co24) t371) ∧ Aside0 (Kd.R (Kd.int .i64) 2 wc w.heap.size (fun k_ => some k_ ≠ ((.slice Ao16 t359.length co16) : Value).ownBlock ∧ some k_ ≠ ((.slice Ao18 t364.length co18) : Value).ownBlock ∧ some k_ ≠ ((.slice Ao24 t371.length co24) : Value).ownBlock ∧ some k_ ≠ ((.slice Ao43 t384.length co43) : Value).ownBlock) (.slice Ao33 t377.length co33) t377) ∧ Aside0 (Kd.R (Kd.int .i64) 2 wc w.heap.size (fun k_ => some k_ ≠ ((.slice Ao16 t359.length co16) : Value).ownBlock ∧ some k_ ≠ ((.slice Ao18 t364.length co18) : Value).ownBlock ∧ some k_ ≠ ((.slice Ao24 t371.length co24) : Value).ownBlock ∧ some k_ ≠ ((.slice Ao33 t377.length co33) : Value).ownBlock) (.slice Ao43 t384.length co43) t384) ∧ Aside0 (wc.heap[gb367]? = some (.cells #[.int .i64 t357, .int .i64 t358, (.slice Ao16 t359.length co16)] 27 (0, 0))) ∧ Aside0 (wc.heap[gb368]? = some (.cells #[.int .i64 t362, .int .i64 t363, (.slice Ao18 t364.length co18)] 27 (0, 0))) ∧ Aside0 (wc.heap[gb374]? = some (.cells #[.int .i64 t369, .int .i64 t370, (.slice Ao24 t371.length co24)] 27 (0, 0))) ∧ Aside0 (wc.heap[gb381]? = some (.cells #[.int .i64 t375, .int .i64 t376, (.slice Ao33 t377.length co33), .int .i64 t380] 35 (0, 0))) ∧ Aside0 (wc.heap[gb388]? = some (.cells #[.int .i64 t382, .int .i64 t383, (.slice Ao43 t384.length co43), .int .i64 t387] 35 (0, 0))) ∧ Aside0 (Below w.heap.size w wc))
         case first =>
          have H := HC127.out
          clear HC127
          replace H := Option.bind_eq_some_iff.mp H
          obtain ⟨t412, A1280, H⟩ := H
          replace H : (if t412 = true then (laws_FnMatrix.j3 kj65 (t369 != t370) t369 t370 t371) else (laws_FnMatrix.j3 kj65 true t369 t370 t371)) = some r := H
          have A128 := Aside0.mk A1280
          clear A1280
          by_cases c129 : t412 = true
          ·subst c129
           have H1 : (laws_FnMatrix.j3 kj65 (t369 != t370) t369 t370 t371) = some r := by rw [if_pos rfl] at H; exact H
           clear H
           have H := H1
           clear H1
           have H' := Aside0.mk H
           clear H
           have hnb130 := NB374_367.out
           have hnc130 := NB367_374.out
           have hnb131 := NB374_368.out
           have hnc131 := NB368_374.out
           have hnb132 := NB374_381.out
           have hnc132 := NB381_374.out
           have hnb133 := NB374_388.out
           have hnc133 := NB388_374.out
           obtain ⟨hcz134_0, hcz134_1, hcz134_2, hfz134_0, hfz134_1, hfz134_2⟩ := Cy.z3 BK374.out
           go_wp2_with (first | ((with_reducible refine gate_callee (f := 16) rfl ?_); refine goesL_ (some 81) rfl rfl Try.func16 (by kernel_rfl) rfl #[.agg #[.int .i64 t369, .int .i64 t370, .slice Ao24 t371.length co24]] rfl Cy.ls ?_; (with_reducible refine (spec_MatrixRight.calls kj65 t369 t370 _ _ t371 true _ ?side1 ?side2 A128.out).mono ?_); (case side1 => exact Cy.cd (Kd.Q_reads' HO_375002.out).2.2); (case side2 => exact (Kd.Q_reads' HO_375002.out).2.1); rintro e w135 ⟨rfl, hb⟩; refine ⟨_, rfl, ?_⟩; have n_ := Cy.a11 (Kd.Q_below (Cy.q HO_368002.out) hb) (Kd.Q_below (Cy.q HO_369002.out) hb) (Kd.Q_below (Cy.q HO_375002.out) hb) (Kd.R_below (Cz.r HO_382002.out) hb) (Kd.R_below (Cz.r HO_389002.out) hb) (blk_below (g := gb367) (o := .cells #[.int .i64 t357, .int .i64 t358, .slice Ao16 t359.length co16] 27 (0, 0)) (Cz.b BK367.out) hb) (blk_below (g := gb368) (o := .cells #[.int .i64 t362, .int .i64 t363, .slice Ao18 t364.length co18] 27 (0, 0)) (Cz.b BK368.out) hb) (blk_below (g := gb374) (o := .cells #[.int .i64 t369, .int .i64 t370, .slice Ao24 t371.length co24] 27 (0, 0)) (Cz.b BK374.out) hb) (blk_below (g := gb381) (o := .cells #[.int .i64 t375, .int .i64 t376, .slice Ao33 t377.length co33, .int .i64 t380] 35 (0, 0)) (Cz.b BK381.out) hb) (blk_below (g := gb388) (o := .cells #[.int .i64 t382, .int .i64 t383, .slice Ao43 t384.length co43, .int .i64 t387] 35 (0, 0)) (Cz.b BK388.out) hb) (below_step (Cz.w HB.out) hb); clear HO_368002 HO_369002 HO_375002 HO_382002 HO_389002 BK367 BK368 BK374 BK381 BK388 HB; obtain ⟨HO_368002, HO_369002, HO_375002, HO_382002, HO_389002, BK367, BK368, BK374, BK381, BK388, HB⟩ := n_; (try clear hb); (try clear hb2); (try clear hk); (try clear hi); obtain ⟨hcz136_0, hcz136_1, hcz136_2, hfz136_0, hfz136_1, hfz136_2⟩ := Cy.z3 BK374.out))
           go_meet
           case rel => exact ⟨_, ((t369 != t370)), (by first | rfl | (simp; done) | (simp [*]; done)), H', ⟨by have := HJ2.out; have := HJ9.out; have := HJ65.out; first | omega | exact Nat.le_refl _⟩, ⟨Cy.q HO_368002.out⟩, ⟨Cy.q HO_369002.out⟩, ⟨Cy.q HO_375002.out⟩, ⟨Cz.r HO_382002.out⟩, ⟨Cz.r HO_389002.out⟩, ⟨Cz.b BK367.out⟩, ⟨Cz.b BK368.out⟩, ⟨Cz.b BK374.out⟩, ⟨Cz.b BK381.out⟩, ⟨Cz.b BK388.out⟩, ⟨Cz.w HB.out⟩⟩
          ·replace c129 := Bool.eq_false_iff.mpr c129
           subst c129
           have H1 : (laws_FnMatrix.j3 kj65 true t369 t370 t371) = some r := by rw [if_neg (show ¬ (false = true) by decide)] at H; exact H
           clear H
           have H := H1
           clear H1
           have H' := Aside0.mk H
           clear H
           have hnb137 := NB374_367.out
           have hnc137 := NB367_374.out
           have hnb138 := NB374_368.out
           have hnc138 := NB368_374.out
           have hnb139 := NB374_381.out
           have hnc139 := NB381_374.out
           have hnb140 := NB374_388.out
           have hnc140 := NB388_374.out
           obtain ⟨hcz141_0, hcz141_1, hcz141_2, hfz141_0, hfz141_1, hfz141_2⟩ := Cy.z3 BK374.out
           go_wp2_with (first | ((with_reducible refine gate_callee (f := 16) rfl ?_); refine goesL_ (some 81) rfl rfl Try.func16 (by kernel_rfl) rfl #[.agg #[.int .i64 t369, .int .i64 t370, .slice Ao24 t371.length co24]] rfl Cy.ls ?_; (with_reducible refine (spec_MatrixRight.calls kj65 t369 t370 _ _ t371 false _ ?side1 ?side2 A128.out).mono ?_); (case side1 => exact Cy.cd (Kd.Q_reads' HO_375002.out).2.2); (case side2 => exact (Kd.Q_reads' HO_375002.out).2.1); rintro e w142 ⟨rfl, hb⟩; refine ⟨_, rfl, ?_⟩; have n_ := Cy.a11 (Kd.Q_below (Cy.q HO_368002.out) hb) (Kd.Q_below (Cy.q HO_369002.out) hb) (Kd.Q_below (Cy.q HO_375002.out) hb) (Kd.R_below (Cz.r HO_382002.out) hb) (Kd.R_below (Cz.r HO_389002.out) hb) (blk_below (g := gb367) (o := .cells #[.int .i64 t357, .int .i64 t358, .slice Ao16 t359.length co16] 27 (0, 0)) (Cz.b BK367.out) hb) (blk_below (g := gb368) (o := .cells #[.int .i64 t362, .int .i64 t363, .slice Ao18 t364.length co18] 27 (0, 0)) (Cz.b BK368.out) hb) (blk_below (g := gb374) (o := .cells #[.int .i64 t369, .int .i64 t370, .slice Ao24 t371.length co24] 27 (0, 0)) (Cz.b BK374.out) hb) (blk_below (g := gb381) (o := .cells #[.int .i64 t375, .int .i64 t376, .slice Ao33 t377.length co33, .int .i64 t380] 35 (0, 0)) (Cz.b BK381.out) hb) (blk_below (g := gb388) (o := .cells #[.int .i64 t382, .int .i64 t383, .slice Ao43 t384.length co43, .int .i64 t387] 35 (0, 0)) (Cz.b BK388.out) hb) (below_step (Cz.w HB.out) hb); clear HO_368002 HO_369002 HO_375002 HO_382002 HO_389002 BK367 BK368 BK374 BK381 BK388 HB; obtain ⟨HO_368002, HO_369002, HO_375002, HO_382002, HO_389002, BK367, BK368, BK374, BK381, BK388, HB⟩ := n_; (try clear hb); (try clear hb2); (try clear hk); (try clear hi)))
           go_meet
           case rel => exact ⟨_, (true), (by first | rfl | (simp; done) | (simp [*]; done)), H', ⟨by have := HJ2.out; have := HJ9.out; have := HJ65.out; first | omega | exact Nat.le_refl _⟩, ⟨Cy.q HO_368002.out⟩, ⟨Cy.q HO_369002.out⟩, ⟨Cy.q HO_375002.out⟩, ⟨Cz.r HO_382002.out⟩, ⟨Cz.r HO_389002.out⟩, ⟨Cz.b BK367.out⟩, ⟨Cz.b BK368.out⟩, ⟨Cz.b BK374.out⟩, ⟨Cz.b BK381.out⟩, ⟨Cz.b BK388.out⟩, ⟨Cz.w HB.out⟩⟩
         case rest =>
          clear HC127
          try clear c1
          try clear p2
          try clear c3
          try clear c7
          try clear c11
          try clear c12
          try clear c13
          try clear c14
          try clear c16
          try clear c31
          try clear c72
          try clear c72b0
          try clear c72b1
          try clear c76
          try clear c78
          try clear c117
          try clear c119
          try clear c120
          try clear c121
          try clear c122
          try clear c123
          try clear c124
          try clear c129
          try clear c130
          try clear c131
          try clear c132
          try clear c133
          try clear c137
          try clear c138
          try clear c139
          try clear c140
          try clear hcz118_0
          try clear hcz118_1
          try clear hcz118_2
          try clear hcz118_3
          try clear hcz125_0
          try clear hcz125_1
          try clear hcz125_2
          try clear hcz125_3
          try clear hcz134_0
          try clear hcz134_1
          try clear hcz134_2
          try clear hcz136_0
          try clear hcz136_1
          try clear hcz136_2
          try clear hcz141_0
          try clear hcz141_1
          try clear hcz141_2
          try clear hfz118_0
          try clear hfz118_1
          try clear hfz118_2
          try clear hfz118_3
          try clear hfz125_0
          try clear hfz125_1
          try clear hfz125_2
          try clear hfz125_3
          try clear hfz134_0
          try clear hfz134_1
          try clear hfz134_2
          try clear hfz136_0
          try clear hfz136_1
          try clear hfz136_2
          try clear hfz141_0
          try clear hfz141_1
          try clear hfz141_2
          try clear p2
          obtain ⟨kq, x89_126, rfl, HA, HJ126, HO_368002, HO_369002, HO_375002, HO_382002, HO_389002, BK367, BK368, BK374, BK381, BK388, HB⟩ := hcut
          cases kq with
          | zero => exact absurd HA.out (by simp [laws_FnMatrix.j3])
          | succ kj126 =>
           have H := HA.out
           clear HA
           simp only [laws_FnMatrix.j3] at H
           by_cases c143 : x89_126 = true
           ·subst c143
            have H1 : ((impl_MatrixInv.f kj126 t369 t370 t371).bind fun bt413 => (some (bt413.2.2.2 == 1))) = some r := by rw [if_pos rfl] at H; exact H
            clear H
            have H := H1
            clear H1
            replace H := Option.bind_eq_some_iff.mp H
            obtain ⟨⟨t413, t414, t415, t418⟩, A1440, H⟩ := H
            replace H : (some (t418 == 1)) = some r := H
            have A144 := Aside0.mk A1440
            clear A1440
            obtain rfl := Option.some.inj H
            have hnb145 := NB374_367.out
            have hnc145 := NB367_374.out
            have hnb146 := NB374_368.out
            have hnc146 := NB368_374.out
            have hnb147 := NB374_381.out
            have hnc147 := NB381_374.out
            have hnb148 := NB374_388.out
            have hnc148 := NB388_374.out
            obtain ⟨hcz149_0, hcz149_1, hcz149_2, hfz149_0, hfz149_1, hfz149_2⟩ := Cy.z3 BK374.out
            go_wp2_with (first | ((with_reducible refine gate_callee (f := 28) rfl ?_); refine goesL_ (some 91) rfl rfl Try.func28 (by kernel_rfl) rfl #[.agg #[.int .i64 t369, .int .i64 t370, .slice Ao24 t371.length co24]] rfl Cy.ls ?_; (with_reducible refine (impl_MatrixInv.calls kj126 t369 t370 _ _ t371 t413 t414 t415 t418 _ ?side1 ?side2 A144.out).mono ?_); (case side1 => exact Cy.cd (Kd.Q_reads' HO_375002.out).2.2); (case side2 => exact (Kd.Q_reads' HO_375002.out).2.1); rintro e w150 ⟨v416, rfl, ho0, hb⟩; refine ⟨_, rfl, ?_⟩; have n_ := Cy.a12 (Kd.Q_elder' (Cy.q HO_368002.out) (Kd.R_base ho0) hb) (Kd.Q_elder' (Cy.q HO_369002.out) (Kd.R_base ho0) hb) (Kd.Q_elder' (Cy.q HO_375002.out) (Kd.R_base ho0) hb) (Kd.R_elder' (Cz.r HO_382002.out) (Kd.R_base ho0) hb) (Kd.R_elder' (Cz.r HO_389002.out) (Kd.R_base ho0) hb) (Kd.R_lower (Kd.R_new' (Kd.R_new' (Kd.R_new' (Kd.R_new' (Kd.R_new' ho0 (Kd.Q_lt (Cy.q HO_368002.out))) (Kd.Q_lt (Cy.q HO_369002.out))) (Kd.Q_lt (Cy.q HO_375002.out))) (Kd.R_lt (Cz.r HO_382002.out))) (Kd.R_lt (Cz.r HO_389002.out))) (below_size (Cz.w HB.out))) (blk_below (g := gb367) (o := .cells #[.int .i64 t357, .int .i64 t358, .slice Ao16 t359.length co16] 27 (0, 0)) (Cz.b BK367.out) hb) (blk_below (g := gb368) (o := .cells #[.int .i64 t362, .int .i64 t363, .slice Ao18 t364.length co18] 27 (0, 0)) (Cz.b BK368.out) hb) (blk_below (g := gb374) (o := .cells #[.int .i64 t369, .int .i64 t370, .slice Ao24 t371.length co24] 27 (0, 0)) (Cz.b BK374.out) hb) (blk_below (g := gb381) (o := .cells #[.int .i64 t375, .int .i64 t376, .slice Ao33 t377.length co33, .int .i64 t380] 35 (0, 0)) (Cz.b BK381.out) hb) (blk_below (g := gb388) (o := .cells #[.int .i64 t382, .int .i64 t383, .slice Ao43 t384.length co43, .int .i64 t387] 35 (0, 0)) (Cz.b BK388.out) hb) (below_step (Cz.w HB.out) hb); clear HO_368002 HO_369002 HO_375002 HO_382002 HO_389002 BK367 BK368 BK374 BK381 BK388 HB; obtain ⟨HO_368002, HO_369002, HO_375002, HO_382002, HO_389002, HO417, BK367, BK368, BK374, BK381, BK388, HB⟩ := n_; (try clear hb); (try clear hb2); (try clear hk); (try clear hi); (try clear ho0)))
            go_ret
            exact ⟨by first | rfl | (simp [errW_none, errW_some] <;> rfl) | (simp [*, errW_none, errW_some] <;> rfl), Cz.w HB.out⟩
           ·replace c143 := Bool.eq_false_iff.mpr c143
            subst c143
            have H1 : ((impl_MatrixInv.f kj126 t369 t370 t371).bind fun bt419 => ((impl_MatrixRank.f t369 t370 t371).bind fun t426 => (if t426 = t369 then (if bt419.2.2.2 = 0 then ((impl_MatrixMul.f kj126 t369 t370 t371 bt419.1 bt419.2.1 bt419.2.2.1).bind fun bt427 => ((laws_lwUnit.f kj126 bt427.1 bt427.2.1 bt427.2.2.1).bind fun t433 => (if t433 = true then ((impl_MatrixMul.f kj126 bt419.1 bt419.2.1 bt419.2.2.1 t369 t370 t371).bind fun bt434 => ((laws_lwUnit.f kj126 bt434.1 bt434.2.1 bt434.2.2.1).bind fun t440 => (some t440))) else (none)))) else (none)) else (some (bt419.2.2.2 == 8))))) = some r := by rw [if_neg (show ¬ (false = true) by decide)] at H; exact H
            clear H
            have H := H1
            clear H1
            replace H := Option.bind_eq_some_iff.mp H
            obtain ⟨⟨t419, t420, t421, t424⟩, A1510, H⟩ := H
            replace H : ((impl_MatrixRank.f t369 t370 t371).bind fun t426 => (if t426 = t369 then (if t424 = 0 then ((impl_MatrixMul.f kj126 t369 t370 t371 t419 t420 t421).bind fun bt427 => ((laws_lwUnit.f kj126 bt427.1 bt427.2.1 bt427.2.2.1).bind fun t433 => (if t433 = true then ((impl_MatrixMul.f kj126 t419 t420 t421 t369 t370 t371).bind fun bt434 => ((laws_lwUnit.f kj126 bt434.1 bt434.2.1 bt434.2.2.1).bind fun t440 => (some t440))) else (none)))) else (none)) else (some (t424 == 8)))) = some r := H
            have A151 := Aside0.mk A1510
            clear A1510
            replace H := Option.bind_eq_some_iff.mp H
            obtain ⟨t426, A1520, H⟩ := H
            replace H : (if t426 = t369 then (if t424 = 0 then ((impl_MatrixMul.f kj126 t369 t370 t371 t419 t420 t421).bind fun bt427 => ((laws_lwUnit.f kj126 bt427.1 bt427.2.1 bt427.2.2.1).bind fun t433 => (if t433 = true then ((impl_MatrixMul.f kj126 t419 t420 t421 t369 t370 t371).bind fun bt434 => ((laws_lwUnit.f kj126 bt434.1 bt434.2.1 bt434.2.2.1).bind fun t440 => (some t440))) else (none)))) else (none)) else (some (t424 == 8))) = some r := H
            have A152 := Aside0.mk A1520
            clear A1520
            by_cases c153 : t426 = t369
            ·rw [if_pos c153] at H
             have c153b0 : (t426 == t369) = true := beq_iff_eq.mpr c153
             have c153b1 : (t426 != t369) = false := bne_eq_false_iff_eq.mpr c153
             clear c153
             by_cases c154 : t424 = 0
             ·rw [if_pos c154] at H
              have c154b0 : (t424 == 0) = true := beq_iff_eq.mpr c154
              have c154b1 : (t424 != 0) = false := bne_eq_false_iff_eq.mpr c154
              clear c154
              replace H := Option.bind_eq_some_iff.mp H
              obtain ⟨⟨t427, t428, t429, t432⟩, A1550, H⟩ := H
              replace H : ((laws_lwUnit.f kj126 t427 t428 t429).bind fun t433 => (if t433 = true then ((impl_MatrixMul.f kj126 t419 t420 t421 t369 t370 t371).bind fun bt434 => ((laws_lwUnit.f kj126 bt434.1 bt434.2.1 bt434.2.2.1).bind fun t440 => (some t440))) else (none))) = some r := H
              have A155 := Aside0.mk A1550
              clear A1550
              replace H := Option.bind_eq_some_iff.mp H
              obtain ⟨t433, A1560, H⟩ := H
              replace H : (if t433 = true then ((impl_MatrixMul.f kj126 t419 t420 t421 t369 t370 t371).bind fun bt434 => ((laws_lwUnit.f kj126 bt434.1 bt434.2.1 bt434.2.2.1).bind fun t440 => (some t440))) else (none)) = some r := H
              have A156 := Aside0.mk A1560
              clear A1560
              by_cases c157 : t433 = true
              ·subst c157
               have H1 : ((impl_MatrixMul.f kj126 t419 t420 t421 t369 t370 t371).bind fun bt434 => ((laws_lwUnit.f kj126 bt434.1 bt434.2.1 bt434.2.2.1).bind fun t440 => (some t440))) = some r := by rw [if_pos rfl] at H; exact H
               clear H
               have H := H1
               clear H1
               replace H := Option.bind_eq_some_iff.mp H
               obtain ⟨⟨t434, t435, t436, t439⟩, A1580, H⟩ := H
               replace H : ((laws_lwUnit.f kj126 t434 t435 t436).bind fun t440 => (some t440)) = some r := H
               have A158 := Aside0.mk A1580
               clear A1580
               replace H := Option.bind_eq_some_iff.mp H
               obtain ⟨t440, A1590, H⟩ := H
               replace H : (some t440) = some r := H
               have A159 := Aside0.mk A1590
               clear A1590
               obtain rfl := Option.some.inj H
               have hnb160 := NB374_367.out
               have hnc160 := NB367_374.out
               have hnb161 := NB374_368.out
               have hnc161 := NB368_374.out
               have hnb162 := NB374_381.out
               have hnc162 := NB381_374.out
               have hnb163 := NB374_388.out
               have hnc163 := NB388_374.out
               obtain ⟨hcz164_0, hcz164_1, hcz164_2, hfz164_0, hfz164_1, hfz164_2⟩ := Cy.z3 BK374.out
               try go_wp2_with (first | ((with_reducible refine gate_callee (f := 28) rfl ?_); refine goesL_ (some 95) rfl rfl Try.func28 (by kernel_rfl) rfl #[.agg #[.int .i64 t369, .int .i64 t370, .slice Ao24 t371.length co24]] rfl Cy.ls ?_; (with_reducible refine (impl_MatrixInv.calls kj126 t369 t370 _ _ t371 t419 t420 t421 t424 _ ?side1 ?side2 A151.out).mono ?_); (case side1 => exact Cy.cd (Kd.Q_reads' HO_375002.out).2.2); (case side2 => exact (Kd.Q_reads' HO_375002.out).2.1); rintro e w165 ⟨v422, rfl, ho0, hb⟩; refine ⟨_, rfl, ?_⟩; have n_ := Cy.a12 (Kd.Q_elder' (Cy.q HO_368002.out) (Kd.R_base ho0) hb) (Kd.Q_elder' (Cy.q HO_369002.out) (Kd.R_base ho0) hb) (Kd.Q_elder' (Cy.q HO_375002.out) (Kd.R_base ho0) hb) (Kd.R_elder' (Cz.r HO_382002.out) (Kd.R_base ho0) hb) (Kd.R_elder' (Cz.r HO_389002.out) (Kd.R_base ho0) hb) (Kd.R_lower (Kd.R_new' (Kd.R_new' (Kd.R_new' (Kd.R_new' (Kd.R_new' ho0 (Kd.Q_lt (Cy.q HO_368002.out))) (Kd.Q_lt (Cy.q HO_369002.out))) (Kd.Q_lt (Cy.q HO_375002.out))) (Kd.R_lt (Cz.r HO_382002.out))) (Kd.R_lt (Cz.r HO_389002.out))) (below_size (Cz.w HB.out))) (blk_below (g := gb367) (o := .cells #[.int .i64 t357, .int .i64 t358, .slice Ao16 t359.length co16] 27 (0, 0)) (Cz.b BK367.out) hb) (blk_below (g := gb368) (o := .cells #[.int .i64 t362, .int .i64 t363, .slice Ao18 t364.length co18] 27 (0, 0)) (Cz.b BK368.out) hb) (blk_below (g := gb374) (o := .cells #[.int .i64 t369, .int .i64 t370, .slice Ao24 t371.length co24] 27 (0, 0)) (Cz.b BK374.out) hb) (blk_below (g := gb381) (o := .cells #[.int .i64 t375, .int .i64 t376, .slice Ao33 t377.length co33, .int .i64 t380] 35 (0, 0)) (Cz.b BK381.out) hb) (blk_below (g := gb388) (o := .cells #[.int .i64 t382, .int .i64 t383, .slice Ao43 t384.length co43, .int .i64 t387] 35 (0, 0)) (Cz.b BK388.out) hb) (below_step (Cz.w HB.out) hb); clear HO_368002 HO_369002 HO_375002 HO_382002 HO_389002 BK367 BK368 BK374 BK381 BK388 HB; obtain ⟨HO_368002, HO_369002, HO_375002, HO_382002, HO_389002, HO423, BK367, BK368, BK374, BK381, BK388, HB⟩ := n_; (try clear hb); (try clear hb2); (try clear hk); (try clear hi); (try clear ho0)) | ((with_reducible refine gate_dst (N := 13) rfl ?_); (try (refine gate_guard (by rfl) ?_; dsimp only)); refine box_event ?hg (N := 13) ?hd (cs := #[.int .i64 0, .int .i64 0, .slice none 0 0, .int .i64 0]) (t := 35) ?hr ?_; (case hd => rfl); (case hg => rfl); (case hr => first | (go_simp; done) | (go_simp; rfl)); intro gb425 hg w166 hbox hb; have n0_ := Aside0.mk (Kd.Q_below (Cy.q HO_368002.out) hb); have n1_ := Aside0.mk (Kd.Q_below (Cy.q HO_369002.out) hb); have n2_ := Aside0.mk (Kd.Q_below (Cy.q HO_375002.out) hb); have n3_ := Aside0.mk (Kd.R_below (Cz.r HO_382002.out) hb); have n4_ := Aside0.mk (Kd.R_below (Cz.r HO_389002.out) hb); have n5_ := Aside0.mk (Kd.R_below (Cz.r HO423.out) hb); have n6_ := Aside0.mk (blk_below (g := gb367) (o := .cells #[.int .i64 t357, .int .i64 t358, .slice Ao16 t359.length co16] 27 (0, 0)) (Cz.b BK367.out) hb); have n7_ := Aside0.mk (blk_below (g := gb368) (o := .cells #[.int .i64 t362, .int .i64 t363, .slice Ao18 t364.length co18] 27 (0, 0)) (Cz.b BK368.out) hb); have n8_ := Aside0.mk (blk_below (g := gb374) (o := .cells #[.int .i64 t369, .int .i64 t370, .slice Ao24 t371.length co24] 27 (0, 0)) (Cz.b BK374.out) hb); have n9_ := Aside0.mk (blk_below (g := gb381) (o := .cells #[.int .i64 t375, .int .i64 t376, .slice Ao33 t377.length co33, .int .i64 t380] 35 (0, 0)) (Cz.b BK381.out) hb); have n10_ := Aside0.mk (blk_below (g := gb388) (o := .cells #[.int .i64 t382, .int .i64 t383, .slice Ao43 t384.length co43, .int .i64 t387] 35 (0, 0)) (Cz.b BK388.out) hb); have n11_ := Aside0.mk (below_step (Cz.w HB.out) hb); have n12_ := Aside0.mk (hbox); have n13_ := Aside0.mk (Cy.gw hg HB.out); have n14_ := Aside0.mk (Cy.gw hg HB.out); have n15_ := Aside0.mk ((by rw [hg]; exact Nat.ne_of_lt (blk_lt (g := gb367) (o := .cells #[.int .i64 t357, .int .i64 t358, .slice Ao16 t359.length co16] 27 (0, 0)) (Cz.b BK367.out)) : gb367 ≠ gb425)); have n16_ := Aside0.mk ((by rw [hg]; exact Nat.ne_of_gt (blk_lt (g := gb367) (o := .cells #[.int .i64 t357, .int .i64 t358, .slice Ao16 t359.length co16] 27 (0, 0)) (Cz.b BK367.out)) : gb425 ≠ gb367)); have n17_ := Aside0.mk ((by rw [hg]; exact Nat.ne_of_lt (blk_lt (g := gb368) (o := .cells #[.int .i64 t362, .int .i64 t363, .slice Ao18 t364.length co18] 27 (0, 0)) (Cz.b BK368.out)) : gb368 ≠ gb425)); have n18_ := Aside0.mk ((by rw [hg]; exact Nat.ne_of_gt (blk_lt (g := gb368) (o := .cells #[.int .i64 t362, .int .i64 t363, .slice Ao18 t364.length co18] 27 (0, 0)) (Cz.b BK368.out)) : gb425 ≠ gb368)); have n19_ := Aside0.mk ((by rw [hg]; exact Nat.ne_of_lt (blk_lt (g := gb374) (o := .cells #[.int .i64 t369, .int .i64 t370, .slice Ao24 t371.length co24] 27 (0, 0)) (Cz.b BK374.out)) : gb374 ≠ gb425)); have n20_ := Aside0.mk ((by rw [hg]; exact Nat.ne_of_gt (blk_lt (g := gb374) (o := .cells #[.int .i64 t369, .int .i64 t370, .slice Ao24 t371.length co24] 27 (0, 0)) (Cz.b BK374.out)) : gb425 ≠ gb374)); have n21_ := Aside0.mk ((by rw [hg]; exact Nat.ne_of_lt (blk_lt (g := gb381) (o := .cells #[.int .i64 t375, .int .i64 t376, .slice Ao33 t377.length co33, .int .i64 t380] 35 (0, 0)) (Cz.b BK381.out)) : gb381 ≠ gb425)); have n22_ := Aside0.mk ((by rw [hg]; exact Nat.ne_of_gt (blk_lt (g := gb381) (o := .cells #[.int .i64 t375, .int .i64 t376, .slice Ao33 t377.length co33, .int .i64 t380] 35 (0, 0)) (Cz.b BK381.out)) : gb425 ≠ gb381)); have n23_ := Aside0.mk ((by rw [hg]; exact Nat.ne_of_lt (blk_lt (g := gb388) (o := .cells #[.int .i64 t382, .int .i64 t383, .slice Ao43 t384.length co43, .int .i64 t387] 35 (0, 0)) (Cz.b BK388.out)) : gb388 ≠ gb425)); have n24_ := Aside0.mk ((by rw [hg]; exact Nat.ne_of_gt (blk_lt (g := gb388) (o := .cells #[.int .i64 t382, .int .i64 t383, .slice Ao43 t384.length co43, .int .i64 t387] 35 (0, 0)) (Cz.b BK388.out)) : gb425 ≠ gb388)); clear HO_368002 HO_369002 HO_375002 HO_382002 HO_389002 HO423 BK367 BK368 BK374 BK381 BK388 HB; have HO_368002 := n0_; have HO_369002 := n1_; have HO_375002 := n2_; have HO_382002 := n3_; have HO_389002 := n4_; have HO423 := n5_; have BK367 := n6_; have BK368 := n7_; have BK374 := n8_; have BK381 := n9_; have BK388 := n10_; have HB := n11_; have BK425 := n12_; have GW425 := n13_; have GE425 := n14_; have NB367_425 := n15_; have NB425_367 := n16_; have NB368_425 := n17_; have NB425_368 := n18_; have NB374_425 := n19_; have NB425_374 := n20_; have NB381_425 := n21_; have NB425_381 := n22_; have NB388_425 := n23_; have NB425_388 := n24_; clear n0_ n1_ n2_ n3_ n4_ n5_ n6_ n7_ n8_ n9_ n10_ n11_ n12_ n13_ n14_ n15_ n16_ n17_ n18_ n19_ n20_ n21_ n22_ n23_ n24_; clear hb hbox hg; have hnb167 := NB425_367.out; have hnc167 := NB367_425.out; have hnb168 := NB425_368.out; have hnc168 := NB368_425.out; have hnb169 := NB425_374.out; have hnc169 := NB374_425.out; have hnb170 := NB425_381.out; have hnc170 := NB381_425.out; have hnb171 := NB425_388.out; have hnc171 := NB388_425.out; obtain ⟨hcz172_0, hcz172_1, hcz172_2, hcz172_3, hfz172_0, hfz172_1, hfz172_2, hfz172_3⟩ := Cy.z4 BK425.out; obtain ⟨Ao173, co173, eo173⟩ := Kd.R_slice HO423.out; subst eo173))
               have n0_ : Aside0 (Kd.Q (Kd.int .i64) 2 ((((w166.setCell ⟨gb425, 0, none⟩ (.int .i64 t419)).setCell ⟨gb425, 1, none⟩ (.int .i64 t420)).setCell ⟨gb425, 2, none⟩ (.slice Ao173 t421.length co173)).setCell ⟨gb425, 3, none⟩ (.int .i64 t424)) w.heap.size (fun k_ => some k_ ≠ (.slice Ao18 t364.length co18 : Value).ownBlock ∧ some k_ ≠ (.slice Ao24 t371.length co24 : Value).ownBlock ∧ some k_ ≠ (.slice Ao33 t377.length co33 : Value).ownBlock ∧ some k_ ≠ (.slice Ao43 t384.length co43 : Value).ownBlock ∧ some k_ ≠ (.slice Ao173 t421.length co173 : Value).ownBlock) (.slice Ao16 t359.length co16) t359) := ⟨by (with_reducible repeat (first | apply Kd.Q_alloc | apply Kd.Q_drewN | apply Kd.Q_drew)); exact Kd.Q_mono (Kd.Q_far (p := ⟨gb425, 3, none⟩) (Kd.Q_far (p := ⟨gb425, 2, none⟩) (Kd.Q_far (p := ⟨gb425, 1, none⟩) (Kd.Q_far (p := ⟨gb425, 0, none⟩) (Kd.Q_types HO_368002.out BK425.out (by decide)) (fun _ hk => hk.2) (.int .i64 t419)) (fun _ hk => hk.2) (.int .i64 t420)) (fun _ hk => hk.2) (.slice Ao173 t421.length co173)) (fun _ hk => hk.2) (.int .i64 t424)) (fun _ hk => ⟨hk.1.1.1, ⟨hk.1.1.2.1, ⟨hk.1.1.2.2.1, ⟨hk.1.1.2.2.2, hk.1.2⟩⟩⟩⟩)⟩
               have n1_ : Aside0 (Kd.Q (Kd.int .i64) 2 ((((w166.setCell ⟨gb425, 0, none⟩ (.int .i64 t419)).setCell ⟨gb425, 1, none⟩ (.int .i64 t420)).setCell ⟨gb425, 2, none⟩ (.slice Ao173 t421.length co173)).setCell ⟨gb425, 3, none⟩ (.int .i64 t424)) w.heap.size (fun k_ => some k_ ≠ (.slice Ao16 t359.length co16 : Value).ownBlock ∧ some k_ ≠ (.slice Ao24 t371.length co24 : Value).ownBlock ∧ some k_ ≠ (.slice Ao33 t377.length co33 : Value).ownBlock ∧ some k_ ≠ (.slice Ao43 t384.length co43 : Value).ownBlock ∧ some k_ ≠ (.slice Ao173 t421.length co173 : Value).ownBlock) (.slice Ao18 t364.length co18) t364) := ⟨by (with_reducible repeat (first | apply Kd.Q_alloc | apply Kd.Q_drewN | apply Kd.Q_drew)); exact Kd.Q_mono (Kd.Q_far (p := ⟨gb425, 3, none⟩) (Kd.Q_far (p := ⟨gb425, 2, none⟩) (Kd.Q_far (p := ⟨gb425, 1, none⟩) (Kd.Q_far (p := ⟨gb425, 0, none⟩) (Kd.Q_types HO_369002.out BK425.out (by decide)) (fun _ hk => hk.2) (.int .i64 t419)) (fun _ hk => hk.2) (.int .i64 t420)) (fun _ hk => hk.2) (.slice Ao173 t421.length co173)) (fun _ hk => hk.2) (.int .i64 t424)) (fun _ hk => ⟨hk.1.1.1, ⟨hk.1.1.2.1, ⟨hk.1.1.2.2.1, ⟨hk.1.1.2.2.2, hk.1.2⟩⟩⟩⟩)⟩
               have n2_ : Aside0 (Kd.Q (Kd.int .i64) 2 ((((w166.setCell ⟨gb425, 0, none⟩ (.int .i64 t419)).setCell ⟨gb425, 1, none⟩ (.int .i64 t420)).setCell ⟨gb425, 2, none⟩ (.slice Ao173 t421.length co173)).setCell ⟨gb425, 3, none⟩ (.int .i64 t424)) w.heap.size (fun k_ => some k_ ≠ (.slice Ao16 t359.length co16 : Value).ownBlock ∧ some k_ ≠ (.slice Ao18 t364.length co18 : Value).ownBlock ∧ some k_ ≠ (.slice Ao33 t377.length co33 : Value).ownBlock ∧ some k_ ≠ (.slice Ao43 t384.length co43 : Value).ownBlock ∧ some k_ ≠ (.slice Ao173 t421.length co173 : Value).ownBlock) (.slice Ao24 t371.length co24) t371) := ⟨by (with_reducible repeat (first | apply Kd.Q_alloc | apply Kd.Q_drewN | apply Kd.Q_drew)); exact Kd.Q_mono (Kd.Q_far (p := ⟨gb425, 3, none⟩) (Kd.Q_far (p := ⟨gb425, 2, none⟩) (Kd.Q_far (p := ⟨gb425, 1, none⟩) (Kd.Q_far (p := ⟨gb425, 0, none⟩) (Kd.Q_types HO_375002.out BK425.out (by decide)) (fun _ hk => hk.2) (.int .i64 t419)) (fun _ hk => hk.2) (.int .i64 t420)) (fun _ hk => hk.2) (.slice Ao173 t421.length co173)) (fun _ hk => hk.2) (.int .i64 t424)) (fun _ hk => ⟨hk.1.1.1, ⟨hk.1.1.2.1, ⟨hk.1.1.2.2.1, ⟨hk.1.1.2.2.2, hk.1.2⟩⟩⟩⟩)⟩
               have n3_ : Aside0 (Kd.R (Kd.int .i64) 2 ((((w166.setCell ⟨gb425, 0, none⟩ (.int .i64 t419)).setCell ⟨gb425, 1, none⟩ (.int .i64 t420)).setCell ⟨gb425, 2, none⟩ (.slice Ao173 t421.length co173)).setCell ⟨gb425, 3, none⟩ (.int .i64 t424)) w.heap.size (fun k_ => some k_ ≠ (.slice Ao16 t359.length co16 : Value).ownBlock ∧ some k_ ≠ (.slice Ao18 t364.length co18 : Value).ownBlock ∧ some k_ ≠ (.slice Ao24 t371.length co24 : Value).ownBlock ∧ some k_ ≠ (.slice Ao43 t384.length co43 : Value).ownBlock ∧ some k_ ≠ (.slice Ao173 t421.length co173 : Value).ownBlock) (.slice Ao33 t377.length co33) t377) := ⟨by (with_reducible repeat (first | apply Kd.R_alloc | apply Kd.R_drewN | apply Kd.R_drew)); exact Kd.R_mono (Kd.R_far (p := ⟨gb425, 3, none⟩) (Kd.R_far (p := ⟨gb425, 2, none⟩) (Kd.R_far (p := ⟨gb425, 1, none⟩) (Kd.R_far (p := ⟨gb425, 0, none⟩) (Kd.R_types HO_382002.out BK425.out (by decide)) (fun _ hk => hk.2) (.int .i64 t419)) (fun _ hk => hk.2) (.int .i64 t420)) (fun _ hk => hk.2) (.slice Ao173 t421.length co173)) (fun _ hk => hk.2) (.int .i64 t424)) (fun _ hk => ⟨hk.1.1.1, ⟨hk.1.1.2.1, ⟨hk.1.1.2.2.1, ⟨hk.1.1.2.2.2, hk.1.2⟩⟩⟩⟩)⟩
               have n4_ : Aside0 (Kd.R (Kd.int .i64) 2 ((((w166.setCell ⟨gb425, 0, none⟩ (.int .i64 t419)).setCell ⟨gb425, 1, none⟩ (.int .i64 t420)).setCell ⟨gb425, 2, none⟩ (.slice Ao173 t421.length co173)).setCell ⟨gb425, 3, none⟩ (.int .i64 t424)) w.heap.size (fun k_ => some k_ ≠ (.slice Ao16 t359.length co16 : Value).ownBlock ∧ some k_ ≠ (.slice Ao18 t364.length co18 : Value).ownBlock ∧ some k_ ≠ (.slice Ao24 t371.length co24 : Value).ownBlock ∧ some k_ ≠ (.slice Ao33 t377.length co33 : Value).ownBlock ∧ some k_ ≠ (.slice Ao173 t421.length co173 : Value).ownBlock) (.slice Ao43 t384.length co43) t384) := ⟨by (with_reducible repeat (first | apply Kd.R_alloc | apply Kd.R_drewN | apply Kd.R_drew)); exact Kd.R_mono (Kd.R_far (p := ⟨gb425, 3, none⟩) (Kd.R_far (p := ⟨gb425, 2, none⟩) (Kd.R_far (p := ⟨gb425, 1, none⟩) (Kd.R_far (p := ⟨gb425, 0, none⟩) (Kd.R_types HO_389002.out BK425.out (by decide)) (fun _ hk => hk.2) (.int .i64 t419)) (fun _ hk => hk.2) (.int .i64 t420)) (fun _ hk => hk.2) (.slice Ao173 t421.length co173)) (fun _ hk => hk.2) (.int .i64 t424)) (fun _ hk => ⟨hk.1.1.1, ⟨hk.1.1.2.1, ⟨hk.1.1.2.2.1, ⟨hk.1.1.2.2.2, hk.1.2⟩⟩⟩⟩)⟩
               have n5_ : Aside0 (Kd.R (Kd.int .i64) 2 ((((w166.setCell ⟨gb425, 0, none⟩ (.int .i64 t419)).setCell ⟨gb425, 1, none⟩ (.int .i64 t420)).setCell ⟨gb425, 2, none⟩ (.slice Ao173 t421.length co173)).setCell ⟨gb425, 3, none⟩ (.int .i64 t424)) w.heap.size (fun k_ => some k_ ≠ (.slice Ao16 t359.length co16 : Value).ownBlock ∧ some k_ ≠ (.slice Ao18 t364.length co18 : Value).ownBlock ∧ some k_ ≠ (.slice Ao24 t371.length co24 : Value).ownBlock ∧ some k_ ≠ (.slice Ao33 t377.length co33 : Value).ownBlock ∧ some k_ ≠ (.slice Ao43 t384.length co43 : Value).ownBlock) (.slice Ao173 t421.length co173) t421) := ⟨by (with_reducible repeat (first | apply Kd.R_alloc | apply Kd.R_drewN | apply Kd.R_drew)); exact Kd.R_mono (Kd.R_far (p := ⟨gb425, 3, none⟩) (Kd.R_far (p := ⟨gb425, 2, none⟩) (Kd.R_far (p := ⟨gb425, 1, none⟩) (Kd.R_far (p := ⟨gb425, 0, none⟩) (Kd.R_types HO423.out BK425.out (by decide)) (fun _ hk => hk.2) (.int .i64 t419)) (fun _ hk => hk.2) (.int .i64 t420)) (fun _ hk => hk.2) (.slice Ao173 t421.length co173)) (fun _ hk => hk.2) (.int .i64 t424)) (fun _ hk => ⟨hk.1.1.1.1.1.2, ⟨hk.1.1.1.1.2, ⟨hk.1.1.1.2, ⟨hk.1.1.2, hk.1.2⟩⟩⟩⟩)⟩
               have n6_ : Aside0 (((((w166.setCell ⟨gb425, 0, none⟩ (.int .i64 t419)).setCell ⟨gb425, 1, none⟩ (.int .i64 t420)).setCell ⟨gb425, 2, none⟩ (.slice Ao173 t421.length co173)).setCell ⟨gb425, 3, none⟩ (.int .i64 t424)).heap[gb367]? = some (.cells #[.int .i64 t357, .int .i64 t358, .slice Ao16 t359.length co16] 27 (0, 0))) := ⟨Cz.f BK367.out NB367_425.out⟩
               have n7_ : Aside0 (((((w166.setCell ⟨gb425, 0, none⟩ (.int .i64 t419)).setCell ⟨gb425, 1, none⟩ (.int .i64 t420)).setCell ⟨gb425, 2, none⟩ (.slice Ao173 t421.length co173)).setCell ⟨gb425, 3, none⟩ (.int .i64 t424)).heap[gb368]? = some (.cells #[.int .i64 t362, .int .i64 t363, .slice Ao18 t364.length co18] 27 (0, 0))) := ⟨Cz.f BK368.out NB368_425.out⟩
               have n8_ : Aside0 (((((w166.setCell ⟨gb425, 0, none⟩ (.int .i64 t419)).setCell ⟨gb425, 1, none⟩ (.int .i64 t420)).setCell ⟨gb425, 2, none⟩ (.slice Ao173 t421.length co173)).setCell ⟨gb425, 3, none⟩ (.int .i64 t424)).heap[gb374]? = some (.cells #[.int .i64 t369, .int .i64 t370, .slice Ao24 t371.length co24] 27 (0, 0))) := ⟨Cz.f BK374.out NB374_425.out⟩
               have n9_ : Aside0 (((((w166.setCell ⟨gb425, 0, none⟩ (.int .i64 t419)).setCell ⟨gb425, 1, none⟩ (.int .i64 t420)).setCell ⟨gb425, 2, none⟩ (.slice Ao173 t421.length co173)).setCell ⟨gb425, 3, none⟩ (.int .i64 t424)).heap[gb381]? = some (.cells #[.int .i64 t375, .int .i64 t376, .slice Ao33 t377.length co33, .int .i64 t380] 35 (0, 0))) := ⟨Cz.f BK381.out NB381_425.out⟩
               have n10_ : Aside0 (((((w166.setCell ⟨gb425, 0, none⟩ (.int .i64 t419)).setCell ⟨gb425, 1, none⟩ (.int .i64 t420)).setCell ⟨gb425, 2, none⟩ (.slice Ao173 t421.length co173)).setCell ⟨gb425, 3, none⟩ (.int .i64 t424)).heap[gb388]? = some (.cells #[.int .i64 t382, .int .i64 t383, .slice Ao43 t384.length co43, .int .i64 t387] 35 (0, 0))) := ⟨Cz.f BK388.out NB388_425.out⟩
               have n11_ : Aside0 (((((w166.setCell ⟨gb425, 0, none⟩ (.int .i64 t419)).setCell ⟨gb425, 1, none⟩ (.int .i64 t420)).setCell ⟨gb425, 2, none⟩ (.slice Ao173 t421.length co173)).setCell ⟨gb425, 3, none⟩ (.int .i64 t424)).heap[gb425]? = some (.cells #[.int .i64 t419, .int .i64 t420, .slice Ao173 t421.length co173, .int .i64 t424] 35 (0, 0))) := ⟨Cz.p4 BK425.out⟩
               have n12_ : Aside0 (Below w.heap.size w ((((w166.setCell ⟨gb425, 0, none⟩ (.int .i64 t419)).setCell ⟨gb425, 1, none⟩ (.int .i64 t420)).setCell ⟨gb425, 2, none⟩ (.slice Ao173 t421.length co173)).setCell ⟨gb425, 3, none⟩ (.int .i64 t424))) := ⟨Cz.w HB.out⟩
               (try clear HO_368002)
               (try clear HO_369002)
               (try clear HO_375002)
               (try clear HO_382002)
               (try clear HO_389002)
               (try clear HO423)
               (try clear BK367)
               (try clear BK368)
               (try clear BK374)
               (try clear BK381)
               (try clear BK388)
               (try clear BK425)
               (try clear HB)
               generalize ((((w166.setCell ⟨gb425, 0, none⟩ (.int .i64 t419)).setCell ⟨gb425, 1, none⟩ (.int .i64 t420)).setCell ⟨gb425, 2, none⟩ (.slice Ao173 t421.length co173)).setCell ⟨gb425, 3, none⟩ (.int .i64 t424)) = w174 at n0_ n1_ n2_ n3_ n4_ n5_ n6_ n7_ n8_ n9_ n10_ n11_ n12_ ⊢
               have HO_368002 := n0_
               have HO_369002 := n1_
               have HO_375002 := n2_
               have HO_382002 := n3_
               have HO_389002 := n4_
               have HO423 := n5_
               have BK367 := n6_
               have BK368 := n7_
               have BK374 := n8_
               have BK381 := n9_
               have BK388 := n10_
               have BK425 := n11_
               have HB := n12_
               clear n0_ n1_ n2_ n3_ n4_ n5_ n6_ n7_ n8_ n9_ n10_ n11_ n12_
               have n_ := Cy.a13 (Kd.Q_drew HO_368002.out) (Kd.Q_drew HO_369002.out) (Kd.Q_drew HO_375002.out) (Kd.R_drew HO_382002.out) (Kd.R_drew HO_389002.out) (Kd.R_drew HO423.out) (blk_drew BK367.out) (blk_drew BK368.out) (blk_drew BK374.out) (blk_drew BK381.out) (blk_drew BK388.out) (blk_drew BK425.out) (below_drew1 HB.out)
               clear HO_368002 HO_369002 HO_375002 HO_382002 HO_389002 HO423 BK367 BK368 BK374 BK381 BK388 BK425 HB
               obtain ⟨HO_368002, HO_369002, HO_375002, HO_382002, HO_389002, HO423, BK367, BK368, BK374, BK381, BK388, BK425, HB⟩ := n_
               refine start_ (n := 6) (S := fun w' => w'.cell? ⟨gb374, 0, none⟩ = some (.int .i64 t369) ∧ w'.cell? ⟨gb374, 1, none⟩ = some (.int .i64 t370) ∧ w'.cell? ⟨gb374, 2, none⟩ = some (.slice Ao24 t371.length co24)) (ds := []) #[false, false, false, false, false, false] (by kernel_rfl) rfl rfl ⟨(blk_cell BK374.out 0).trans rfl, (blk_cell BK374.out 1).trans rfl, (blk_cell BK374.out 2).trans rfl⟩ (fun hHeld => ?_)
               generalize w174.drew = w175 at HO_368002 HO_369002 HO_375002 HO_382002 HO_389002 HO423 BK367 BK368 BK374 BK381 BK388 BK425 HB hHeld ⊢
               refine pure_ (i := 2) (N := some 98) (v := ?_) (a' := ?_) #[false, false, true, false, false, false] rfl rfl (by kernel_rfl) (fun _ _ _ h => h) (Or.inl ⟨by rfl, ?_⟩) ?_ ?_
               rotate_left
               ·intro w'
                go_simp
                with_reducible rfl
               rotate_left
               ·simp only [Act.put, List.setIfInBounds_toArray, List.set_cons_zero, List.set_cons_succ, i64_w, i32_w]
                rfl
               refine take_ (i := 0) (N := some 96) (v := ?_) (a' := ?_) #[true, false, true, false, false, false] rfl rfl (by kernel_rfl) (fun _ _ _ h => h) (Or.inl ⟨by rfl, ?_⟩) hHeld ?_ ?_
               rotate_left
               ·rintro w' ⟨s0, s1, s2⟩
                go_simp
                with_reducible rfl
               rotate_left
               ·simp only [Act.put, List.setIfInBounds_toArray, List.set_cons_zero, List.set_cons_succ, i64_w, i32_w]
                rfl
               refine take_ (i := 3) (N := some 99) (v := ?_) (a' := ?_) #[true, false, true, true, false, false] rfl rfl (by kernel_rfl) (fun _ _ _ h => h) (Or.inl ⟨by rfl, ?_⟩) hHeld ?_ ?_
               rotate_left
               ·rintro w' ⟨s0, s1, s2⟩
                go_simp
                with_reducible rfl
               rotate_left
               ·simp only [Act.put, List.setIfInBounds_toArray, List.set_cons_zero, List.set_cons_succ, i64_w, i32_w]
                rfl
               refine one_ (i := 1) (N := some 97) #[true, true, true, true, false, false] rfl rfl (by kernel_rfl) (by decide) (fun K hK => ?_)
               refine goes_ Try.func29 (by kernel_rfl) rfl #[.agg #[.int .i64 t369, .int .i64 t370, .slice Ao24 t371.length co24]] (by rfl) rfl rfl Cy.ls ?_
               with_reducible refine (impl_MatrixRank.calls t369 t370 _ _ t371 t426 _ ?side1 ?side2 A152.out).mono ?_
               (case side1 => exact Cy.cd (Kd.Q_reads' HO_375002.out).2.2)
               (case side2 => exact (Kd.Q_reads' HO_375002.out).2.1)
               rintro e w176 ⟨rfl, hb⟩
               refine ⟨_, rfl, ?_⟩
               have n_ := Cy.a13 (Kd.Q_below (Cy.q HO_368002.out) hb) (Kd.Q_below (Cy.q HO_369002.out) hb) (Kd.Q_below (Cy.q HO_375002.out) hb) (Kd.R_below (Cz.r HO_382002.out) hb) (Kd.R_below (Cz.r HO_389002.out) hb) (Kd.R_below (Cz.r HO423.out) hb) (blk_below (g := gb367) (o := .cells #[.int .i64 t357, .int .i64 t358, .slice Ao16 t359.length co16] 27 (0, 0)) (Cz.b BK367.out) hb) (blk_below (g := gb368) (o := .cells #[.int .i64 t362, .int .i64 t363, .slice Ao18 t364.length co18] 27 (0, 0)) (Cz.b BK368.out) hb) (blk_below (g := gb374) (o := .cells #[.int .i64 t369, .int .i64 t370, .slice Ao24 t371.length co24] 27 (0, 0)) (Cz.b BK374.out) hb) (blk_below (g := gb381) (o := .cells #[.int .i64 t375, .int .i64 t376, .slice Ao33 t377.length co33, .int .i64 t380] 35 (0, 0)) (Cz.b BK381.out) hb) (blk_below (g := gb388) (o := .cells #[.int .i64 t382, .int .i64 t383, .slice Ao43 t384.length co43, .int .i64 t387] 35 (0, 0)) (Cz.b BK388.out) hb) (blk_below (g := gb425) (o := .cells #[.int .i64 t419, .int .i64 t420, .slice Ao173 t421.length co173, .int .i64 t424] 35 (0, 0)) (Cz.b BK425.out) hb) (below_step (Cz.w HB.out) hb)
               clear HO_368002 HO_369002 HO_375002 HO_382002 HO_389002 HO423 BK367 BK368 BK374 BK381 BK388 BK425 HB
               obtain ⟨HO_368002, HO_369002, HO_375002, HO_382002, HO_389002, HO423, BK367, BK368, BK374, BK381, BK388, BK425, HB⟩ := n_
               (try clear hb)
               (try clear hb2)
               (try clear hk)
               (try clear hi)
               refine hK.out _ _ ⟨(blk_cell BK374.out 0).trans rfl, (blk_cell BK374.out 1).trans rfl, (blk_cell BK374.out 2).trans rfl⟩ (fun hHeld => ?_)
               clear hK K
               refine norm_ (a' := ?_) ?_ ?_
               rotate_left
               ·show Act.put _ (some 97) _ = _
                simp only [Act.put, List.setIfInBounds_toArray, List.set_cons_zero, List.set_cons_succ, i64_w, i32_w]
                rfl
               refine pure_ (i := 4) (N := some 100) (v := ?_) (a' := ?_) #[true, true, true, true, true, false] rfl rfl (by kernel_rfl) (fun _ _ _ h => h) (Or.inl ⟨by rfl, ?_⟩) ?_ ?_
               rotate_left
               ·intro w'
                go_simp
                with_reducible rfl
               rotate_left
               ·simp only [Act.put, List.setIfInBounds_toArray, List.set_cons_zero, List.set_cons_succ, i64_w, i32_w]
                rfl
               refine pure_ (i := 5) (N := some 14) (v := ?_) (a' := ?_) #[true, true, true, true, true, true] rfl rfl (by kernel_rfl) (fun _ _ _ h => h) (Or.inl ⟨by rfl, ?_⟩) ?_ ?_
               rotate_left
               ·intro w'
                go_simp
                with_reducible rfl
               rotate_left
               ·simp only [Act.put, List.setIfInBounds_toArray, List.set_cons_zero, List.set_cons_succ, i64_w, i32_w]
                rfl
               refine done_ (by kernel_rfl) ?_
               obtain ⟨hcz177_0, hcz177_1, hcz177_2, hcz177_3, hfz177_0, hfz177_1, hfz177_2, hfz177_3⟩ := Cy.z4 BK425.out
               obtain ⟨hcz178_0, hcz178_1, hcz178_2, hfz178_0, hfz178_1, hfz178_2⟩ := Cy.z3 BK374.out
               try go_wp2_with (first | (go_at_call 31; (with_reducible refine (impl_MatrixMul.calls kj126 t369 t370 _ _ t371 t419 t420 _ _ t421 t427 t428 t429 t432 _ ?side1 ?side2 ?side3 ?side4 A155.out).mono ?_); (case side1 => exact Cy.cd (Kd.Q_reads' HO_375002.out).2.2); (case side2 => exact (Kd.Q_reads' HO_375002.out).2.1); (case side3 => exact Cy.cd (Kd.R_reads' HO423.out).2.2); (case side4 => exact (Kd.R_reads' HO423.out).2.1); rintro e w179 ⟨v430, rfl, ho0, hb⟩; have n_ := Cy.a14 (Kd.Q_elder' (Cy.q HO_368002.out) (Kd.R_base ho0) hb) (Kd.Q_elder' (Cy.q HO_369002.out) (Kd.R_base ho0) hb) (Kd.Q_elder' (Cy.q HO_375002.out) (Kd.R_base ho0) hb) (Kd.R_elder' (Cz.r HO_382002.out) (Kd.R_base ho0) hb) (Kd.R_elder' (Cz.r HO_389002.out) (Kd.R_base ho0) hb) (Kd.R_elder' (Cz.r HO423.out) (Kd.R_base ho0) hb) (Kd.R_lower (Kd.R_new' (Kd.R_new' (Kd.R_new' (Kd.R_new' (Kd.R_new' (Kd.R_new' ho0 (Kd.Q_lt (Cy.q HO_368002.out))) (Kd.Q_lt (Cy.q HO_369002.out))) (Kd.Q_lt (Cy.q HO_375002.out))) (Kd.R_lt (Cz.r HO_382002.out))) (Kd.R_lt (Cz.r HO_389002.out))) (Kd.R_lt (Cz.r HO423.out))) (below_size (Cz.w HB.out))) (blk_below (g := gb367) (o := .cells #[.int .i64 t357, .int .i64 t358, .slice Ao16 t359.length co16] 27 (0, 0)) (Cz.b BK367.out) hb) (blk_below (g := gb368) (o := .cells #[.int .i64 t362, .int .i64 t363, .slice Ao18 t364.length co18] 27 (0, 0)) (Cz.b BK368.out) hb) (blk_below (g := gb374) (o := .cells #[.int .i64 t369, .int .i64 t370, .slice Ao24 t371.length co24] 27 (0, 0)) (Cz.b BK374.out) hb) (blk_below (g := gb381) (o := .cells #[.int .i64 t375, .int .i64 t376, .slice Ao33 t377.length co33, .int .i64 t380] 35 (0, 0)) (Cz.b BK381.out) hb) (blk_below (g := gb388) (o := .cells #[.int .i64 t382, .int .i64 t383, .slice Ao43 t384.length co43, .int .i64 t387] 35 (0, 0)) (Cz.b BK388.out) hb) (blk_below (g := gb425) (o := .cells #[.int .i64 t419, .int .i64 t420, .slice Ao173 t421.length co173, .int .i64 t424] 35 (0, 0)) (Cz.b BK425.out) hb) (below_step (Cz.w HB.out) hb); clear HO_368002 HO_369002 HO_375002 HO_382002 HO_389002 HO423 BK367 BK368 BK374 BK381 BK388 BK425 HB; obtain ⟨HO_368002, HO_369002, HO_375002, HO_382002, HO_389002, HO423, HO431, BK367, BK368, BK374, BK381, BK388, BK425, HB⟩ := n_; (try clear hb); (try clear hb2); (try clear hk); (try clear hi); (try clear ho0); obtain ⟨Ao180, co180, eo180⟩ := Kd.R_slice HO431.out; subst eo180) | (go_at_call 48; (with_reducible refine (laws_lwUnit.calls kj126 t427 t428 _ _ t429 true _ ?side1 ?side2 A156.out).mono ?_); (case side1 => exact Cy.cd (Kd.R_reads' HO431.out).2.2); (case side2 => exact (Kd.R_reads' HO431.out).2.1); rintro e w181 ⟨rfl, hb⟩; have n_ := Cy.a14 (Kd.Q_below (Cy.q HO_368002.out) hb) (Kd.Q_below (Cy.q HO_369002.out) hb) (Kd.Q_below (Cy.q HO_375002.out) hb) (Kd.R_below (Cz.r HO_382002.out) hb) (Kd.R_below (Cz.r HO_389002.out) hb) (Kd.R_below (Cz.r HO423.out) hb) (Kd.R_below (Cz.r HO431.out) hb) (blk_below (g := gb367) (o := .cells #[.int .i64 t357, .int .i64 t358, .slice Ao16 t359.length co16] 27 (0, 0)) (Cz.b BK367.out) hb) (blk_below (g := gb368) (o := .cells #[.int .i64 t362, .int .i64 t363, .slice Ao18 t364.length co18] 27 (0, 0)) (Cz.b BK368.out) hb) (blk_below (g := gb374) (o := .cells #[.int .i64 t369, .int .i64 t370, .slice Ao24 t371.length co24] 27 (0, 0)) (Cz.b BK374.out) hb) (blk_below (g := gb381) (o := .cells #[.int .i64 t375, .int .i64 t376, .slice Ao33 t377.length co33, .int .i64 t380] 35 (0, 0)) (Cz.b BK381.out) hb) (blk_below (g := gb388) (o := .cells #[.int .i64 t382, .int .i64 t383, .slice Ao43 t384.length co43, .int .i64 t387] 35 (0, 0)) (Cz.b BK388.out) hb) (blk_below (g := gb425) (o := .cells #[.int .i64 t419, .int .i64 t420, .slice Ao173 t421.length co173, .int .i64 t424] 35 (0, 0)) (Cz.b BK425.out) hb) (below_step (Cz.w HB.out) hb); clear HO_368002 HO_369002 HO_375002 HO_382002 HO_389002 HO423 HO431 BK367 BK368 BK374 BK381 BK388 BK425 HB; obtain ⟨HO_368002, HO_369002, HO_375002, HO_382002, HO_389002, HO423, HO431, BK367, BK368, BK374, BK381, BK388, BK425, HB⟩ := n_; (try clear hb); (try clear hb2); (try clear hk); (try clear hi); obtain ⟨hcz182_0, hcz182_1, hcz182_2, hcz182_3, hfz182_0, hfz182_1, hfz182_2, hfz182_3⟩ := Cy.z4 BK425.out; obtain ⟨hcz183_0, hcz183_1, hcz183_2, hfz183_0, hfz183_1, hfz183_2⟩ := Cy.z3 BK374.out) | (go_at_call 31; (with_reducible refine (impl_MatrixMul.calls kj126 t419 t420 _ _ t421 t369 t370 _ _ t371 t434 t435 t436 t439 _ ?side1 ?side2 ?side3 ?side4 A158.out).mono ?_); (case side1 => exact Cy.cd (Kd.R_reads' HO423.out).2.2); (case side2 => exact (Kd.R_reads' HO423.out).2.1); (case side3 => exact Cy.cd (Kd.Q_reads' HO_375002.out).2.2); (case side4 => exact (Kd.Q_reads' HO_375002.out).2.1); rintro e w184 ⟨v437, rfl, ho0, hb⟩; have n_ := Cy.a15 (Kd.Q_elder' (Cy.q HO_368002.out) (Kd.R_base ho0) hb) (Kd.Q_elder' (Cy.q HO_369002.out) (Kd.R_base ho0) hb) (Kd.Q_elder' (Cy.q HO_375002.out) (Kd.R_base ho0) hb) (Kd.R_elder' (Cz.r HO_382002.out) (Kd.R_base ho0) hb) (Kd.R_elder' (Cz.r HO_389002.out) (Kd.R_base ho0) hb) (Kd.R_elder' (Cz.r HO423.out) (Kd.R_base ho0) hb) (Kd.R_elder' (Cz.r HO431.out) (Kd.R_base ho0) hb) (Kd.R_lower (Kd.R_new' (Kd.R_new' (Kd.R_new' (Kd.R_new' (Kd.R_new' (Kd.R_new' (Kd.R_new' ho0 (Kd.Q_lt (Cy.q HO_368002.out))) (Kd.Q_lt (Cy.q HO_369002.out))) (Kd.Q_lt (Cy.q HO_375002.out))) (Kd.R_lt (Cz.r HO_382002.out))) (Kd.R_lt (Cz.r HO_389002.out))) (Kd.R_lt (Cz.r HO423.out))) (Kd.R_lt (Cz.r HO431.out))) (below_size (Cz.w HB.out))) (blk_below (g := gb367) (o := .cells #[.int .i64 t357, .int .i64 t358, .slice Ao16 t359.length co16] 27 (0, 0)) (Cz.b BK367.out) hb) (blk_below (g := gb368) (o := .cells #[.int .i64 t362, .int .i64 t363, .slice Ao18 t364.length co18] 27 (0, 0)) (Cz.b BK368.out) hb) (blk_below (g := gb374) (o := .cells #[.int .i64 t369, .int .i64 t370, .slice Ao24 t371.length co24] 27 (0, 0)) (Cz.b BK374.out) hb) (blk_below (g := gb381) (o := .cells #[.int .i64 t375, .int .i64 t376, .slice Ao33 t377.length co33, .int .i64 t380] 35 (0, 0)) (Cz.b BK381.out) hb) (blk_below (g := gb388) (o := .cells #[.int .i64 t382, .int .i64 t383, .slice Ao43 t384.length co43, .int .i64 t387] 35 (0, 0)) (Cz.b BK388.out) hb) (blk_below (g := gb425) (o := .cells #[.int .i64 t419, .int .i64 t420, .slice Ao173 t421.length co173, .int .i64 t424] 35 (0, 0)) (Cz.b BK425.out) hb) (below_step (Cz.w HB.out) hb); clear HO_368002 HO_369002 HO_375002 HO_382002 HO_389002 HO423 HO431 BK367 BK368 BK374 BK381 BK388 BK425 HB; obtain ⟨HO_368002, HO_369002, HO_375002, HO_382002, HO_389002, HO423, HO431, HO438, BK367, BK368, BK374, BK381, BK388, BK425, HB⟩ := n_; (try clear hb); (try clear hb2); (try clear hk); (try clear hi); (try clear ho0); obtain ⟨Ao185, co185, eo185⟩ := Kd.R_slice HO438.out; subst eo185) | (go_at_call 48; (with_reducible refine (laws_lwUnit.calls kj126 t434 t435 _ _ t436 t440 _ ?side1 ?side2 A159.out).mono ?_); (case side1 => exact Cy.cd (Kd.R_reads' HO438.out).2.2); (case side2 => exact (Kd.R_reads' HO438.out).2.1); rintro e w186 ⟨rfl, hb⟩; have n_ := Cy.a15 (Kd.Q_below (Cy.q HO_368002.out) hb) (Kd.Q_below (Cy.q HO_369002.out) hb) (Kd.Q_below (Cy.q HO_375002.out) hb) (Kd.R_below (Cz.r HO_382002.out) hb) (Kd.R_below (Cz.r HO_389002.out) hb) (Kd.R_below (Cz.r HO423.out) hb) (Kd.R_below (Cz.r HO431.out) hb) (Kd.R_below (Cz.r HO438.out) hb) (blk_below (g := gb367) (o := .cells #[.int .i64 t357, .int .i64 t358, .slice Ao16 t359.length co16] 27 (0, 0)) (Cz.b BK367.out) hb) (blk_below (g := gb368) (o := .cells #[.int .i64 t362, .int .i64 t363, .slice Ao18 t364.length co18] 27 (0, 0)) (Cz.b BK368.out) hb) (blk_below (g := gb374) (o := .cells #[.int .i64 t369, .int .i64 t370, .slice Ao24 t371.length co24] 27 (0, 0)) (Cz.b BK374.out) hb) (blk_below (g := gb381) (o := .cells #[.int .i64 t375, .int .i64 t376, .slice Ao33 t377.length co33, .int .i64 t380] 35 (0, 0)) (Cz.b BK381.out) hb) (blk_below (g := gb388) (o := .cells #[.int .i64 t382, .int .i64 t383, .slice Ao43 t384.length co43, .int .i64 t387] 35 (0, 0)) (Cz.b BK388.out) hb) (blk_below (g := gb425) (o := .cells #[.int .i64 t419, .int .i64 t420, .slice Ao173 t421.length co173, .int .i64 t424] 35 (0, 0)) (Cz.b BK425.out) hb) (below_step (Cz.w HB.out) hb); clear HO_368002 HO_369002 HO_375002 HO_382002 HO_389002 HO423 HO431 HO438 BK367 BK368 BK374 BK381 BK388 BK425 HB; obtain ⟨HO_368002, HO_369002, HO_375002, HO_382002, HO_389002, HO423, HO431, HO438, BK367, BK368, BK374, BK381, BK388, BK425, HB⟩ := n_; (try clear hb); (try clear hb2); (try clear hk); (try clear hi)))
               go_ret
               exact ⟨by first | rfl | (simp [errW_none, errW_some] <;> rfl) | (simp [*, errW_none, errW_some] <;> rfl), Cz.w HB.out⟩
              ·replace c157 := Bool.eq_false_iff.mpr c157
               subst c157
               have H1 : (none) = some r := by rw [if_neg (show ¬ (false = true) by decide)] at H; exact H
               clear H
               have H := H1
               clear H1
               exact absurd H (by simp)
             ·rw [if_neg c154] at H
              exact absurd H (by simp)
            ·rw [if_neg c153] at H
             have c153b0 : (t426 == t369) = false := beq_eq_false_iff_ne.mpr c153
             have c153b1 : (t426 != t369) = true := bne_iff_ne.mpr c153
             obtain rfl := Option.some.inj H
             have hnb187 := NB374_367.out
             have hnc187 := NB367_374.out
             have hnb188 := NB374_368.out
             have hnc188 := NB368_374.out
             have hnb189 := NB374_381.out
             have hnc189 := NB381_374.out
             have hnb190 := NB374_388.out
             have hnc190 := NB388_374.out
             obtain ⟨hcz191_0, hcz191_1, hcz191_2, hfz191_0, hfz191_1, hfz191_2⟩ := Cy.z3 BK374.out
             try go_wp2_with (first | ((with_reducible refine gate_callee (f := 28) rfl ?_); refine goesL_ (some 95) rfl rfl Try.func28 (by kernel_rfl) rfl #[.agg #[.int .i64 t369, .int .i64 t370, .slice Ao24 t371.length co24]] rfl Cy.ls ?_; (with_reducible refine (impl_MatrixInv.calls kj126 t369 t370 _ _ t371 t419 t420 t421 t424 _ ?side1 ?side2 A151.out).mono ?_); (case side1 => exact Cy.cd (Kd.Q_reads' HO_375002.out).2.2); (case side2 => exact (Kd.Q_reads' HO_375002.out).2.1); rintro e w192 ⟨v422, rfl, ho0, hb⟩; refine ⟨_, rfl, ?_⟩; have n_ := Cy.a12 (Kd.Q_elder' (Cy.q HO_368002.out) (Kd.R_base ho0) hb) (Kd.Q_elder' (Cy.q HO_369002.out) (Kd.R_base ho0) hb) (Kd.Q_elder' (Cy.q HO_375002.out) (Kd.R_base ho0) hb) (Kd.R_elder' (Cz.r HO_382002.out) (Kd.R_base ho0) hb) (Kd.R_elder' (Cz.r HO_389002.out) (Kd.R_base ho0) hb) (Kd.R_lower (Kd.R_new' (Kd.R_new' (Kd.R_new' (Kd.R_new' (Kd.R_new' ho0 (Kd.Q_lt (Cy.q HO_368002.out))) (Kd.Q_lt (Cy.q HO_369002.out))) (Kd.Q_lt (Cy.q HO_375002.out))) (Kd.R_lt (Cz.r HO_382002.out))) (Kd.R_lt (Cz.r HO_389002.out))) (below_size (Cz.w HB.out))) (blk_below (g := gb367) (o := .cells #[.int .i64 t357, .int .i64 t358, .slice Ao16 t359.length co16] 27 (0, 0)) (Cz.b BK367.out) hb) (blk_below (g := gb368) (o := .cells #[.int .i64 t362, .int .i64 t363, .slice Ao18 t364.length co18] 27 (0, 0)) (Cz.b BK368.out) hb) (blk_below (g := gb374) (o := .cells #[.int .i64 t369, .int .i64 t370, .slice Ao24 t371.length co24] 27 (0, 0)) (Cz.b BK374.out) hb) (blk_below (g := gb381) (o := .cells #[.int .i64 t375, .int .i64 t376, .slice Ao33 t377.length co33, .int .i64 t380] 35 (0, 0)) (Cz.b BK381.out) hb) (blk_below (g := gb388) (o := .cells #[.int .i64 t382, .int .i64 t383, .slice Ao43 t384.length co43, .int .i64 t387] 35 (0, 0)) (Cz.b BK388.out) hb) (below_step (Cz.w HB.out) hb); clear HO_368002 HO_369002 HO_375002 HO_382002 HO_389002 BK367 BK368 BK374 BK381 BK388 HB; obtain ⟨HO_368002, HO_369002, HO_375002, HO_382002, HO_389002, HO423, BK367, BK368, BK374, BK381, BK388, HB⟩ := n_; (try clear hb); (try clear hb2); (try clear hk); (try clear hi); (try clear ho0)) | ((with_reducible refine gate_dst (N := 13) rfl ?_); (try (refine gate_guard (by rfl) ?_; dsimp only)); refine box_event ?hg (N := 13) ?hd (cs := #[.int .i64 0, .int .i64 0, .slice none 0 0, .int .i64 0]) (t := 35) ?hr ?_; (case hd => rfl); (case hg => rfl); (case hr => first | (go_simp; done) | (go_simp; rfl)); intro gb425 hg w193 hbox hb; have n0_ := Aside0.mk (Kd.Q_below (Cy.q HO_368002.out) hb); have n1_ := Aside0.mk (Kd.Q_below (Cy.q HO_369002.out) hb); have n2_ := Aside0.mk (Kd.Q_below (Cy.q HO_375002.out) hb); have n3_ := Aside0.mk (Kd.R_below (Cz.r HO_382002.out) hb); have n4_ := Aside0.mk (Kd.R_below (Cz.r HO_389002.out) hb); have n5_ := Aside0.mk (Kd.R_below (Cz.r HO423.out) hb); have n6_ := Aside0.mk (blk_below (g := gb367) (o := .cells #[.int .i64 t357, .int .i64 t358, .slice Ao16 t359.length co16] 27 (0, 0)) (Cz.b BK367.out) hb); have n7_ := Aside0.mk (blk_below (g := gb368) (o := .cells #[.int .i64 t362, .int .i64 t363, .slice Ao18 t364.length co18] 27 (0, 0)) (Cz.b BK368.out) hb); have n8_ := Aside0.mk (blk_below (g := gb374) (o := .cells #[.int .i64 t369, .int .i64 t370, .slice Ao24 t371.length co24] 27 (0, 0)) (Cz.b BK374.out) hb); have n9_ := Aside0.mk (blk_below (g := gb381) (o := .cells #[.int .i64 t375, .int .i64 t376, .slice Ao33 t377.length co33, .int .i64 t380] 35 (0, 0)) (Cz.b BK381.out) hb); have n10_ := Aside0.mk (blk_below (g := gb388) (o := .cells #[.int .i64 t382, .int .i64 t383, .slice Ao43 t384.length co43, .int .i64 t387] 35 (0, 0)) (Cz.b BK388.out) hb); have n11_ := Aside0.mk (below_step (Cz.w HB.out) hb); have n12_ := Aside0.mk (hbox); have n13_ := Aside0.mk (Cy.gw hg HB.out); have n14_ := Aside0.mk (Cy.gw hg HB.out); have n15_ := Aside0.mk ((by rw [hg]; exact Nat.ne_of_lt (blk_lt (g := gb367) (o := .cells #[.int .i64 t357, .int .i64 t358, .slice Ao16 t359.length co16] 27 (0, 0)) (Cz.b BK367.out)) : gb367 ≠ gb425)); have n16_ := Aside0.mk ((by rw [hg]; exact Nat.ne_of_gt (blk_lt (g := gb367) (o := .cells #[.int .i64 t357, .int .i64 t358, .slice Ao16 t359.length co16] 27 (0, 0)) (Cz.b BK367.out)) : gb425 ≠ gb367)); have n17_ := Aside0.mk ((by rw [hg]; exact Nat.ne_of_lt (blk_lt (g := gb368) (o := .cells #[.int .i64 t362, .int .i64 t363, .slice Ao18 t364.length co18] 27 (0, 0)) (Cz.b BK368.out)) : gb368 ≠ gb425)); have n18_ := Aside0.mk ((by rw [hg]; exact Nat.ne_of_gt (blk_lt (g := gb368) (o := .cells #[.int .i64 t362, .int .i64 t363, .slice Ao18 t364.length co18] 27 (0, 0)) (Cz.b BK368.out)) : gb425 ≠ gb368)); have n19_ := Aside0.mk ((by rw [hg]; exact Nat.ne_of_lt (blk_lt (g := gb374) (o := .cells #[.int .i64 t369, .int .i64 t370, .slice Ao24 t371.length co24] 27 (0, 0)) (Cz.b BK374.out)) : gb374 ≠ gb425)); have n20_ := Aside0.mk ((by rw [hg]; exact Nat.ne_of_gt (blk_lt (g := gb374) (o := .cells #[.int .i64 t369, .int .i64 t370, .slice Ao24 t371.length co24] 27 (0, 0)) (Cz.b BK374.out)) : gb425 ≠ gb374)); have n21_ := Aside0.mk ((by rw [hg]; exact Nat.ne_of_lt (blk_lt (g := gb381) (o := .cells #[.int .i64 t375, .int .i64 t376, .slice Ao33 t377.length co33, .int .i64 t380] 35 (0, 0)) (Cz.b BK381.out)) : gb381 ≠ gb425)); have n22_ := Aside0.mk ((by rw [hg]; exact Nat.ne_of_gt (blk_lt (g := gb381) (o := .cells #[.int .i64 t375, .int .i64 t376, .slice Ao33 t377.length co33, .int .i64 t380] 35 (0, 0)) (Cz.b BK381.out)) : gb425 ≠ gb381)); have n23_ := Aside0.mk ((by rw [hg]; exact Nat.ne_of_lt (blk_lt (g := gb388) (o := .cells #[.int .i64 t382, .int .i64 t383, .slice Ao43 t384.length co43, .int .i64 t387] 35 (0, 0)) (Cz.b BK388.out)) : gb388 ≠ gb425)); have n24_ := Aside0.mk ((by rw [hg]; exact Nat.ne_of_gt (blk_lt (g := gb388) (o := .cells #[.int .i64 t382, .int .i64 t383, .slice Ao43 t384.length co43, .int .i64 t387] 35 (0, 0)) (Cz.b BK388.out)) : gb425 ≠ gb388)); clear HO_368002 HO_369002 HO_375002 HO_382002 HO_389002 HO423 BK367 BK368 BK374 BK381 BK388 HB; have HO_368002 := n0_; have HO_369002 := n1_; have HO_375002 := n2_; have HO_382002 := n3_; have HO_389002 := n4_; have HO423 := n5_; have BK367 := n6_; have BK368 := n7_; have BK374 := n8_; have BK381 := n9_; have BK388 := n10_; have HB := n11_; have BK425 := n12_; have GW425 := n13_; have GE425 := n14_; have NB367_425 := n15_; have NB425_367 := n16_; have NB368_425 := n17_; have NB425_368 := n18_; have NB374_425 := n19_; have NB425_374 := n20_; have NB381_425 := n21_; have NB425_381 := n22_; have NB388_425 := n23_; have NB425_388 := n24_; clear n0_ n1_ n2_ n3_ n4_ n5_ n6_ n7_ n8_ n9_ n10_ n11_ n12_ n13_ n14_ n15_ n16_ n17_ n18_ n19_ n20_ n21_ n22_ n23_ n24_; clear hb hbox hg; have hnb194 := NB425_367.out; have hnc194 := NB367_425.out; have hnb195 := NB425_368.out; have hnc195 := NB368_425.out; have hnb196 := NB425_374.out; have hnc196 := NB374_425.out; have hnb197 := NB425_381.out; have hnc197 := NB381_425.out; have hnb198 := NB425_388.out; have hnc198 := NB388_425.out; obtain ⟨hcz199_0, hcz199_1, hcz199_2, hcz199_3, hfz199_0, hfz199_1, hfz199_2, hfz199_3⟩ := Cy.z4 BK425.out; obtain ⟨Ao200, co200, eo200⟩ := Kd.R_slice HO423.out; subst eo200))
             have n0_ : Aside0 (Kd.Q (Kd.int .i64) 2 ((((w193.setCell ⟨gb425, 0, none⟩ (.int .i64 t419)).setCell ⟨gb425, 1, none⟩ (.int .i64 t420)).setCell ⟨gb425, 2, none⟩ (.slice Ao200 t421.length co200)).setCell ⟨gb425, 3, none⟩ (.int .i64 t424)) w.heap.size (fun k_ => some k_ ≠ (.slice Ao18 t364.length co18 : Value).ownBlock ∧ some k_ ≠ (.slice Ao24 t371.length co24 : Value).ownBlock ∧ some k_ ≠ (.slice Ao33 t377.length co33 : Value).ownBlock ∧ some k_ ≠ (.slice Ao43 t384.length co43 : Value).ownBlock ∧ some k_ ≠ (.slice Ao200 t421.length co200 : Value).ownBlock) (.slice Ao16 t359.length co16) t359) := ⟨by (with_reducible repeat (first | apply Kd.Q_alloc | apply Kd.Q_drewN | apply Kd.Q_drew)); exact Kd.Q_mono (Kd.Q_far (p := ⟨gb425, 3, none⟩) (Kd.Q_far (p := ⟨gb425, 2, none⟩) (Kd.Q_far (p := ⟨gb425, 1, none⟩) (Kd.Q_far (p := ⟨gb425, 0, none⟩) (Kd.Q_types HO_368002.out BK425.out (by decide)) (fun _ hk => hk.2) (.int .i64 t419)) (fun _ hk => hk.2) (.int .i64 t420)) (fun _ hk => hk.2) (.slice Ao200 t421.length co200)) (fun _ hk => hk.2) (.int .i64 t424)) (fun _ hk => ⟨hk.1.1.1, ⟨hk.1.1.2.1, ⟨hk.1.1.2.2.1, ⟨hk.1.1.2.2.2, hk.1.2⟩⟩⟩⟩)⟩
             have n1_ : Aside0 (Kd.Q (Kd.int .i64) 2 ((((w193.setCell ⟨gb425, 0, none⟩ (.int .i64 t419)).setCell ⟨gb425, 1, none⟩ (.int .i64 t420)).setCell ⟨gb425, 2, none⟩ (.slice Ao200 t421.length co200)).setCell ⟨gb425, 3, none⟩ (.int .i64 t424)) w.heap.size (fun k_ => some k_ ≠ (.slice Ao16 t359.length co16 : Value).ownBlock ∧ some k_ ≠ (.slice Ao24 t371.length co24 : Value).ownBlock ∧ some k_ ≠ (.slice Ao33 t377.length co33 : Value).ownBlock ∧ some k_ ≠ (.slice Ao43 t384.length co43 : Value).ownBlock ∧ some k_ ≠ (.slice Ao200 t421.length co200 : Value).ownBlock) (.slice Ao18 t364.length co18) t364) := ⟨by (with_reducible repeat (first | apply Kd.Q_alloc | apply Kd.Q_drewN | apply Kd.Q_drew)); exact Kd.Q_mono (Kd.Q_far (p := ⟨gb425, 3, none⟩) (Kd.Q_far (p := ⟨gb425, 2, none⟩) (Kd.Q_far (p := ⟨gb425, 1, none⟩) (Kd.Q_far (p := ⟨gb425, 0, none⟩) (Kd.Q_types HO_369002.out BK425.out (by decide)) (fun _ hk => hk.2) (.int .i64 t419)) (fun _ hk => hk.2) (.int .i64 t420)) (fun _ hk => hk.2) (.slice Ao200 t421.length co200)) (fun _ hk => hk.2) (.int .i64 t424)) (fun _ hk => ⟨hk.1.1.1, ⟨hk.1.1.2.1, ⟨hk.1.1.2.2.1, ⟨hk.1.1.2.2.2, hk.1.2⟩⟩⟩⟩)⟩
             have n2_ : Aside0 (Kd.Q (Kd.int .i64) 2 ((((w193.setCell ⟨gb425, 0, none⟩ (.int .i64 t419)).setCell ⟨gb425, 1, none⟩ (.int .i64 t420)).setCell ⟨gb425, 2, none⟩ (.slice Ao200 t421.length co200)).setCell ⟨gb425, 3, none⟩ (.int .i64 t424)) w.heap.size (fun k_ => some k_ ≠ (.slice Ao16 t359.length co16 : Value).ownBlock ∧ some k_ ≠ (.slice Ao18 t364.length co18 : Value).ownBlock ∧ some k_ ≠ (.slice Ao33 t377.length co33 : Value).ownBlock ∧ some k_ ≠ (.slice Ao43 t384.length co43 : Value).ownBlock ∧ some k_ ≠ (.slice Ao200 t421.length co200 : Value).ownBlock) (.slice Ao24 t371.length co24) t371) := ⟨by (with_reducible repeat (first | apply Kd.Q_alloc | apply Kd.Q_drewN | apply Kd.Q_drew)); exact Kd.Q_mono (Kd.Q_far (p := ⟨gb425, 3, none⟩) (Kd.Q_far (p := ⟨gb425, 2, none⟩) (Kd.Q_far (p := ⟨gb425, 1, none⟩) (Kd.Q_far (p := ⟨gb425, 0, none⟩) (Kd.Q_types HO_375002.out BK425.out (by decide)) (fun _ hk => hk.2) (.int .i64 t419)) (fun _ hk => hk.2) (.int .i64 t420)) (fun _ hk => hk.2) (.slice Ao200 t421.length co200)) (fun _ hk => hk.2) (.int .i64 t424)) (fun _ hk => ⟨hk.1.1.1, ⟨hk.1.1.2.1, ⟨hk.1.1.2.2.1, ⟨hk.1.1.2.2.2, hk.1.2⟩⟩⟩⟩)⟩
             have n3_ : Aside0 (Kd.R (Kd.int .i64) 2 ((((w193.setCell ⟨gb425, 0, none⟩ (.int .i64 t419)).setCell ⟨gb425, 1, none⟩ (.int .i64 t420)).setCell ⟨gb425, 2, none⟩ (.slice Ao200 t421.length co200)).setCell ⟨gb425, 3, none⟩ (.int .i64 t424)) w.heap.size (fun k_ => some k_ ≠ (.slice Ao16 t359.length co16 : Value).ownBlock ∧ some k_ ≠ (.slice Ao18 t364.length co18 : Value).ownBlock ∧ some k_ ≠ (.slice Ao24 t371.length co24 : Value).ownBlock ∧ some k_ ≠ (.slice Ao43 t384.length co43 : Value).ownBlock ∧ some k_ ≠ (.slice Ao200 t421.length co200 : Value).ownBlock) (.slice Ao33 t377.length co33) t377) := ⟨by (with_reducible repeat (first | apply Kd.R_alloc | apply Kd.R_drewN | apply Kd.R_drew)); exact Kd.R_mono (Kd.R_far (p := ⟨gb425, 3, none⟩) (Kd.R_far (p := ⟨gb425, 2, none⟩) (Kd.R_far (p := ⟨gb425, 1, none⟩) (Kd.R_far (p := ⟨gb425, 0, none⟩) (Kd.R_types HO_382002.out BK425.out (by decide)) (fun _ hk => hk.2) (.int .i64 t419)) (fun _ hk => hk.2) (.int .i64 t420)) (fun _ hk => hk.2) (.slice Ao200 t421.length co200)) (fun _ hk => hk.2) (.int .i64 t424)) (fun _ hk => ⟨hk.1.1.1, ⟨hk.1.1.2.1, ⟨hk.1.1.2.2.1, ⟨hk.1.1.2.2.2, hk.1.2⟩⟩⟩⟩)⟩
             have n4_ : Aside0 (Kd.R (Kd.int .i64) 2 ((((w193.setCell ⟨gb425, 0, none⟩ (.int .i64 t419)).setCell ⟨gb425, 1, none⟩ (.int .i64 t420)).setCell ⟨gb425, 2, none⟩ (.slice Ao200 t421.length co200)).setCell ⟨gb425, 3, none⟩ (.int .i64 t424)) w.heap.size (fun k_ => some k_ ≠ (.slice Ao16 t359.length co16 : Value).ownBlock ∧ some k_ ≠ (.slice Ao18 t364.length co18 : Value).ownBlock ∧ some k_ ≠ (.slice Ao24 t371.length co24 : Value).ownBlock ∧ some k_ ≠ (.slice Ao33 t377.length co33 : Value).ownBlock ∧ some k_ ≠ (.slice Ao200 t421.length co200 : Value).ownBlock) (.slice Ao43 t384.length co43) t384) := ⟨by (with_reducible repeat (first | apply Kd.R_alloc | apply Kd.R_drewN | apply Kd.R_drew)); exact Kd.R_mono (Kd.R_far (p := ⟨gb425, 3, none⟩) (Kd.R_far (p := ⟨gb425, 2, none⟩) (Kd.R_far (p := ⟨gb425, 1, none⟩) (Kd.R_far (p := ⟨gb425, 0, none⟩) (Kd.R_types HO_389002.out BK425.out (by decide)) (fun _ hk => hk.2) (.int .i64 t419)) (fun _ hk => hk.2) (.int .i64 t420)) (fun _ hk => hk.2) (.slice Ao200 t421.length co200)) (fun _ hk => hk.2) (.int .i64 t424)) (fun _ hk => ⟨hk.1.1.1, ⟨hk.1.1.2.1, ⟨hk.1.1.2.2.1, ⟨hk.1.1.2.2.2, hk.1.2⟩⟩⟩⟩)⟩
             have n5_ : Aside0 (Kd.R (Kd.int .i64) 2 ((((w193.setCell ⟨gb425, 0, none⟩ (.int .i64 t419)).setCell ⟨gb425, 1, none⟩ (.int .i64 t420)).setCell ⟨gb425, 2, none⟩ (.slice Ao200 t421.length co200)).setCell ⟨gb425, 3, none⟩ (.int .i64 t424)) w.heap.size (fun k_ => some k_ ≠ (.slice Ao16 t359.length co16 : Value).ownBlock ∧ some k_ ≠ (.slice Ao18 t364.length co18 : Value).ownBlock ∧ some k_ ≠ (.slice Ao24 t371.length co24 : Value).ownBlock ∧ some k_ ≠ (.slice Ao33 t377.length co33 : Value).ownBlock ∧ some k_ ≠ (.slice Ao43 t384.length co43 : Value).ownBlock) (.slice Ao200 t421.length co200) t421) := ⟨by (with_reducible repeat (first | apply Kd.R_alloc | apply Kd.R_drewN | apply Kd.R_drew)); exact Kd.R_mono (Kd.R_far (p := ⟨gb425, 3, none⟩) (Kd.R_far (p := ⟨gb425, 2, none⟩) (Kd.R_far (p := ⟨gb425, 1, none⟩) (Kd.R_far (p := ⟨gb425, 0, none⟩) (Kd.R_types HO423.out BK425.out (by decide)) (fun _ hk => hk.2) (.int .i64 t419)) (fun _ hk => hk.2) (.int .i64 t420)) (fun _ hk => hk.2) (.slice Ao200 t421.length co200)) (fun _ hk => hk.2) (.int .i64 t424)) (fun _ hk => ⟨hk.1.1.1.1.1.2, ⟨hk.1.1.1.1.2, ⟨hk.1.1.1.2, ⟨hk.1.1.2, hk.1.2⟩⟩⟩⟩)⟩
             have n6_ : Aside0 (((((w193.setCell ⟨gb425, 0, none⟩ (.int .i64 t419)).setCell ⟨gb425, 1, none⟩ (.int .i64 t420)).setCell ⟨gb425, 2, none⟩ (.slice Ao200 t421.length co200)).setCell ⟨gb425, 3, none⟩ (.int .i64 t424)).heap[gb367]? = some (.cells #[.int .i64 t357, .int .i64 t358, .slice Ao16 t359.length co16] 27 (0, 0))) := ⟨Cz.f BK367.out NB367_425.out⟩
             have n7_ : Aside0 (((((w193.setCell ⟨gb425, 0, none⟩ (.int .i64 t419)).setCell ⟨gb425, 1, none⟩ (.int .i64 t420)).setCell ⟨gb425, 2, none⟩ (.slice Ao200 t421.length co200)).setCell ⟨gb425, 3, none⟩ (.int .i64 t424)).heap[gb368]? = some (.cells #[.int .i64 t362, .int .i64 t363, .slice Ao18 t364.length co18] 27 (0, 0))) := ⟨Cz.f BK368.out NB368_425.out⟩
             have n8_ : Aside0 (((((w193.setCell ⟨gb425, 0, none⟩ (.int .i64 t419)).setCell ⟨gb425, 1, none⟩ (.int .i64 t420)).setCell ⟨gb425, 2, none⟩ (.slice Ao200 t421.length co200)).setCell ⟨gb425, 3, none⟩ (.int .i64 t424)).heap[gb374]? = some (.cells #[.int .i64 t369, .int .i64 t370, .slice Ao24 t371.length co24] 27 (0, 0))) := ⟨Cz.f BK374.out NB374_425.out⟩
             have n9_ : Aside0 (((((w193.setCell ⟨gb425, 0, none⟩ (.int .i64 t419)).setCell ⟨gb425, 1, none⟩ (.int .i64 t420)).setCell ⟨gb425, 2, none⟩ (.slice Ao200 t421.length co200)).setCell ⟨gb425, 3, none⟩ (.int .i64 t424)).heap[gb381]? = some (.cells #[.int .i64 t375, .int .i64 t376, .slice Ao33 t377.length co33, .int .i64 t380] 35 (0, 0))) := ⟨Cz.f BK381.out NB381_425.out⟩
             have n10_ : Aside0 (((((w193.setCell ⟨gb425, 0, none⟩ (.int .i64 t419)).setCell ⟨gb425, 1, none⟩ (.int .i64 t420)).setCell ⟨gb425, 2, none⟩ (.slice Ao200 t421.length co200)).setCell ⟨gb425, 3, none⟩ (.int .i64 t424)).heap[gb388]? = some (.cells #[.int .i64 t382, .int .i64 t383, .slice Ao43 t384.length co43, .int .i64 t387] 35 (0, 0))) := ⟨Cz.f BK388.out NB388_425.out⟩
             have n11_ : Aside0 (((((w193.setCell ⟨gb425, 0, none⟩ (.int .i64 t419)).setCell ⟨gb425, 1, none⟩ (.int .i64 t420)).setCell ⟨gb425, 2, none⟩ (.slice Ao200 t421.length co200)).setCell ⟨gb425, 3, none⟩ (.int .i64 t424)).heap[gb425]? = some (.cells #[.int .i64 t419, .int .i64 t420, .slice Ao200 t421.length co200, .int .i64 t424] 35 (0, 0))) := ⟨Cz.p4 BK425.out⟩
             have n12_ : Aside0 (Below w.heap.size w ((((w193.setCell ⟨gb425, 0, none⟩ (.int .i64 t419)).setCell ⟨gb425, 1, none⟩ (.int .i64 t420)).setCell ⟨gb425, 2, none⟩ (.slice Ao200 t421.length co200)).setCell ⟨gb425, 3, none⟩ (.int .i64 t424))) := ⟨Cz.w HB.out⟩
             (try clear HO_368002)
             (try clear HO_369002)
             (try clear HO_375002)
             (try clear HO_382002)
             (try clear HO_389002)
             (try clear HO423)
             (try clear BK367)
             (try clear BK368)
             (try clear BK374)
             (try clear BK381)
             (try clear BK388)
             (try clear BK425)
             (try clear HB)
             generalize ((((w193.setCell ⟨gb425, 0, none⟩ (.int .i64 t419)).setCell ⟨gb425, 1, none⟩ (.int .i64 t420)).setCell ⟨gb425, 2, none⟩ (.slice Ao200 t421.length co200)).setCell ⟨gb425, 3, none⟩ (.int .i64 t424)) = w201 at n0_ n1_ n2_ n3_ n4_ n5_ n6_ n7_ n8_ n9_ n10_ n11_ n12_ ⊢
             have HO_368002 := n0_
             have HO_369002 := n1_
             have HO_375002 := n2_
             have HO_382002 := n3_
             have HO_389002 := n4_
             have HO423 := n5_
             have BK367 := n6_
             have BK368 := n7_
             have BK374 := n8_
             have BK381 := n9_
             have BK388 := n10_
             have BK425 := n11_
             have HB := n12_
             clear n0_ n1_ n2_ n3_ n4_ n5_ n6_ n7_ n8_ n9_ n10_ n11_ n12_
             have n_ := Cy.a13 (Kd.Q_drew HO_368002.out) (Kd.Q_drew HO_369002.out) (Kd.Q_drew HO_375002.out) (Kd.R_drew HO_382002.out) (Kd.R_drew HO_389002.out) (Kd.R_drew HO423.out) (blk_drew BK367.out) (blk_drew BK368.out) (blk_drew BK374.out) (blk_drew BK381.out) (blk_drew BK388.out) (blk_drew BK425.out) (below_drew1 HB.out)
             clear HO_368002 HO_369002 HO_375002 HO_382002 HO_389002 HO423 BK367 BK368 BK374 BK381 BK388 BK425 HB
             obtain ⟨HO_368002, HO_369002, HO_375002, HO_382002, HO_389002, HO423, BK367, BK368, BK374, BK381, BK388, BK425, HB⟩ := n_
             refine start_ (n := 6) (S := fun w' => w'.cell? ⟨gb374, 0, none⟩ = some (.int .i64 t369) ∧ w'.cell? ⟨gb374, 1, none⟩ = some (.int .i64 t370) ∧ w'.cell? ⟨gb374, 2, none⟩ = some (.slice Ao24 t371.length co24)) (ds := []) #[false, false, false, false, false, false] (by kernel_rfl) rfl rfl ⟨(blk_cell BK374.out 0).trans rfl, (blk_cell BK374.out 1).trans rfl, (blk_cell BK374.out 2).trans rfl⟩ (fun hHeld => ?_)
             generalize w201.drew = w202 at HO_368002 HO_369002 HO_375002 HO_382002 HO_389002 HO423 BK367 BK368 BK374 BK381 BK388 BK425 HB hHeld ⊢
             refine pure_ (i := 2) (N := some 98) (v := ?_) (a' := ?_) #[false, false, true, false, false, false] rfl rfl (by kernel_rfl) (fun _ _ _ h => h) (Or.inl ⟨by rfl, ?_⟩) ?_ ?_
             rotate_left
             ·intro w'
              go_simp
              with_reducible rfl
             rotate_left
             ·simp only [Act.put, List.setIfInBounds_toArray, List.set_cons_zero, List.set_cons_succ, i64_w, i32_w]
              rfl
             refine take_ (i := 0) (N := some 96) (v := ?_) (a' := ?_) #[true, false, true, false, false, false] rfl rfl (by kernel_rfl) (fun _ _ _ h => h) (Or.inl ⟨by rfl, ?_⟩) hHeld ?_ ?_
             rotate_left
             ·rintro w' ⟨s0, s1, s2⟩
              go_simp
              with_reducible rfl
             rotate_left
             ·simp only [Act.put, List.setIfInBounds_toArray, List.set_cons_zero, List.set_cons_succ, i64_w, i32_w]
              rfl
             refine take_ (i := 3) (N := some 99) (v := ?_) (a' := ?_) #[true, false, true, true, false, false] rfl rfl (by kernel_rfl) (fun _ _ _ h => h) (Or.inl ⟨by rfl, ?_⟩) hHeld ?_ ?_
             rotate_left
             ·rintro w' ⟨s0, s1, s2⟩
              go_simp
              with_reducible rfl
             rotate_left
             ·simp only [Act.put, List.setIfInBounds_toArray, List.set_cons_zero, List.set_cons_succ, i64_w, i32_w]
              rfl
             refine one_ (i := 1) (N := some 97) #[true, true, true, true, false, false] rfl rfl (by kernel_rfl) (by decide) (fun K hK => ?_)
             refine goes_ Try.func29 (by kernel_rfl) rfl #[.agg #[.int .i64 t369, .int .i64 t370, .slice Ao24 t371.length co24]] (by rfl) rfl rfl Cy.ls ?_
             with_reducible refine (impl_MatrixRank.calls t369 t370 _ _ t371 t426 _ ?side1 ?side2 A152.out).mono ?_
             (case side1 => exact Cy.cd (Kd.Q_reads' HO_375002.out).2.2)
             (case side2 => exact (Kd.Q_reads' HO_375002.out).2.1)
             rintro e w203 ⟨rfl, hb⟩
             refine ⟨_, rfl, ?_⟩
             have n_ := Cy.a13 (Kd.Q_below (Cy.q HO_368002.out) hb) (Kd.Q_below (Cy.q HO_369002.out) hb) (Kd.Q_below (Cy.q HO_375002.out) hb) (Kd.R_below (Cz.r HO_382002.out) hb) (Kd.R_below (Cz.r HO_389002.out) hb) (Kd.R_below (Cz.r HO423.out) hb) (blk_below (g := gb367) (o := .cells #[.int .i64 t357, .int .i64 t358, .slice Ao16 t359.length co16] 27 (0, 0)) (Cz.b BK367.out) hb) (blk_below (g := gb368) (o := .cells #[.int .i64 t362, .int .i64 t363, .slice Ao18 t364.length co18] 27 (0, 0)) (Cz.b BK368.out) hb) (blk_below (g := gb374) (o := .cells #[.int .i64 t369, .int .i64 t370, .slice Ao24 t371.length co24] 27 (0, 0)) (Cz.b BK374.out) hb) (blk_below (g := gb381) (o := .cells #[.int .i64 t375, .int .i64 t376, .slice Ao33 t377.length co33, .int .i64 t380] 35 (0, 0)) (Cz.b BK381.out) hb) (blk_below (g := gb388) (o := .cells #[.int .i64 t382, .int .i64 t383, .slice Ao43 t384.length co43, .int .i64 t387] 35 (0, 0)) (Cz.b BK388.out) hb) (blk_below (g := gb425) (o := .cells #[.int .i64 t419, .int .i64 t420, .slice Ao200 t421.length co200, .int .i64 t424] 35 (0, 0)) (Cz.b BK425.out) hb) (below_step (Cz.w HB.out) hb)
             clear HO_368002 HO_369002 HO_375002 HO_382002 HO_389002 HO423 BK367 BK368 BK374 BK381 BK388 BK425 HB
             obtain ⟨HO_368002, HO_369002, HO_375002, HO_382002, HO_389002, HO423, BK367, BK368, BK374, BK381, BK388, BK425, HB⟩ := n_
             (try clear hb)
             (try clear hb2)
             (try clear hk)
             (try clear hi)
             refine hK.out _ _ ⟨(blk_cell BK374.out 0).trans rfl, (blk_cell BK374.out 1).trans rfl, (blk_cell BK374.out 2).trans rfl⟩ (fun hHeld => ?_)
             clear hK K
             refine norm_ (a' := ?_) ?_ ?_
             rotate_left
             ·show Act.put _ (some 97) _ = _
              simp only [Act.put, List.setIfInBounds_toArray, List.set_cons_zero, List.set_cons_succ, i64_w, i32_w]
              rfl
             refine pure_ (i := 4) (N := some 100) (v := ?_) (a' := ?_) #[true, true, true, true, true, false] rfl rfl (by kernel_rfl) (fun _ _ _ h => h) (Or.inl ⟨by rfl, ?_⟩) ?_ ?_
             rotate_left
             ·intro w'
              go_simp
              with_reducible rfl
             rotate_left
             ·simp only [Act.put, List.setIfInBounds_toArray, List.set_cons_zero, List.set_cons_succ, i64_w, i32_w]
              rfl
             refine pure_ (i := 5) (N := some 14) (v := ?_) (a' := ?_) #[true, true, true, true, true, true] rfl rfl (by kernel_rfl) (fun _ _ _ h => h) (Or.inl ⟨by rfl, ?_⟩) ?_ ?_
             rotate_left
             ·intro w'
              go_simp
              with_reducible rfl
             rotate_left
             ·simp only [Act.put, List.setIfInBounds_toArray, List.set_cons_zero, List.set_cons_succ, i64_w, i32_w]
              rfl
             refine done_ (by kernel_rfl) ?_
             obtain ⟨hcz204_0, hcz204_1, hcz204_2, hcz204_3, hfz204_0, hfz204_1, hfz204_2, hfz204_3⟩ := Cy.z4 BK425.out
             try go_wp2
             go_ret
             exact ⟨by first | rfl | (simp [errW_none, errW_some] <;> rfl) | (simp [*, errW_none, errW_some] <;> rfl), Cz.w HB.out⟩
/-- THE ONE PURE STATEMENT of laws_FnMatrix: yours. -/
def laws_FnMatrix.Pure : Prop := ∀ (l0 : List Int) (l1 : List Int), l0.length ≤ maxLen → l0.length * 1 ≤ 140737488351232 → (∀ x ∈ l0, (Lit.int .u8 x).wf = true) → l1.length ≤ maxLen → l1.length * 1 ≤ 140737488351232 → (∀ x ∈ l1, (Lit.int .u8 x).wf = true) → ∃ k, laws_FnMatrix.f k l0 l1 = some true
theorem laws_FnMatrix.walk (P : laws_FnMatrix.Pure) (a0 : Option Addr) (len0 cap0 : Nat) (z0 : List Int) (a1 : Option Addr) (len1 cap1 : Nat) (z1 : List Int) (w : World) (w0 : (a0 = none ∧ len0 = 0 ∧ cap0 = 0 ∧ z0 = []) ∨ ∃ x, a0 = some x ∧ len0 ≤ cap0 ∧ cap0 ≤ maxLen ∧ z0.length = cap0 ∧ (∀ i, i < z0.length → w.cell? (x.add i) = some (.int .u8 (z0.getD i 0))) ∧ ∀ n ∈ z0, (Lit.int .u8 n).wf = true) (y0 : len0 * 1 ≤ 140737488351232) (w1 : (a1 = none ∧ len1 = 0 ∧ cap1 = 0 ∧ z1 = []) ∨ ∃ x, a1 = some x ∧ len1 ≤ cap1 ∧ cap1 ≤ maxLen ∧ z1.length = cap1 ∧ (∀ i, i < z1.length → w.cell? (x.add i) = some (.int .u8 (z1.getD i 0))) ∧ ∀ n ∈ z1, (Lit.int .u8 n).wf = true) (y1 : len1 * 1 ≤ 140737488351232) :
  Calls Try.prog 10 #[.slice a0 len0 cap0, .slice a1 len1 cap1] w fun e w' => e = .returned (.bool true) ∧ Below w.heap.size w w' := by
 obtain ⟨l0, rfl, hr0, hm0, hw0, hc0⟩ := ReadsInt.ofRowC w0
 obtain ⟨l1, rfl, hr1, hm1, hw1, hc1⟩ := ReadsInt.ofRowC w1
 obtain ⟨k, h⟩ := P l0 l1 hm0 y0 hw0 hm1 y1 hw1
 refine (laws_FnMatrix.calls k _ _ l0 _ _ l1 true w (Kd.C_of_reads (d := (0 : Int)) (h1 := fun _ => rfl) hr0) hc0 (Kd.C_of_reads (d := (0 : Int)) (h1 := fun _ => rfl) hr1) hc1 h).mono ?_
 rintro e w' ⟨rfl, hd⟩
 exact ⟨rfl, hd⟩
end Go.Proofs.Ytlololbhlnapkaa.XFnMatrix

/- Plain functions of what the law reaches, proofs that the calls come to them, and the law's row: written by a program of this session (xprint.py) over the kit's print. No conditions beyond each lemma's own. -/
import Derived.Test.YtlololbhlnapkaaKyCy
import Derived.Test.YtlololbhlnapkaaKyXFnExactDecodex0
import Derived.Test.YtlololbhlnapkaaKyXFnExactDecodex1
import Derived.Test.YtlololbhlnapkaaKyXFnExactDecodex9
import Derived.Test.YtlololbhlnapkaaKyXFnExactDecodex10
import Derived.Test.YtlololbhlnapkaaKyXFnExactDecodex15
namespace Go.Proofs.Ytlololbhlnapkaa.XFnExactDecode
open Go.RowKit Go.Proofs.YtlololbhlnapkaaW.PrintWords Go.Proofs.YtlololbhlnapkaaW.PrintLast Go.Proofs.YtlololbhlnapkaaW.PrintMore
attribute [local go_sem] max2_int min2_int max_two min_two max_three min_three max_four min_four   -- for this text's walks alone
set_option linter.unusedVariables false
set_option linter.unusedSimpArgs false
def impl_ShardSize.f (a0 : Int) (a1 : Int) : Option (Int) := (impl_within.f a0 1 8).bind fun t461 => (if t461 = true then ((impl_within.f a1 0 20000).bind fun t462 => (if t462 = true then (if a0 = 0 then (none) else (some (wrap64 (Int.tdiv (wrap64 ((wrap64 (a1 + a0)) - 1)) a0)))) else (some 0))) else (some 0))
set_option maxHeartbeats 8000000 in
set_option maxRecDepth 100000 in
theorem impl_ShardSize.calls (a0 : Int) (a1 : Int) (r : Int) (w : World) (h : impl_ShardSize.f a0 a1 = some r) :
  Calls Try.prog 118 #[.int .i64 a0, .int .i64 a1] w fun e w' => e = .returned (.int .i64 r) ∧ Drawn0 w w' := by
 have H : ((impl_within.f a0 1 8).bind fun t461 => (if t461 = true then ((impl_within.f a1 0 20000).bind fun t462 => (if t462 = true then (if a0 = 0 then (none) else (some (wrap64 (Int.tdiv (wrap64 ((wrap64 (a1 + a0)) - 1)) a0)))) else (some 0))) else (some 0))) = some r := h
 clear h
 replace H := Option.bind_eq_some_iff.mp H
 obtain ⟨t461, A30, H⟩ := H
 replace H : (if t461 = true then ((impl_within.f a1 0 20000).bind fun t462 => (if t462 = true then (if a0 = 0 then (none) else (some (wrap64 (Int.tdiv (wrap64 ((wrap64 (a1 + a0)) - 1)) a0)))) else (some 0))) else (some 0)) = some r := H
 have A3 := Aside0.mk A30
 clear A30
 by_cases c4 : t461 = true
 ·subst c4
  have H1 : ((impl_within.f a1 0 20000).bind fun t462 => (if t462 = true then (if a0 = 0 then (none) else (some (wrap64 (Int.tdiv (wrap64 ((wrap64 (a1 + a0)) - 1)) a0)))) else (some 0))) = some r := by rw [if_pos rfl] at H; exact H
  clear H
  have H := H1
  clear H1
  replace H := Option.bind_eq_some_iff.mp H
  obtain ⟨t462, A50, H⟩ := H
  replace H : (if t462 = true then (if a0 = 0 then (none) else (some (wrap64 (Int.tdiv (wrap64 ((wrap64 (a1 + a0)) - 1)) a0)))) else (some 0)) = some r := H
  have A5 := Aside0.mk A50
  clear A50
  by_cases c6 : t462 = true
  ·subst c6
   have H1 : (if a0 = 0 then (none) else (some (wrap64 (Int.tdiv (wrap64 ((wrap64 (a1 + a0)) - 1)) a0)))) = some r := by rw [if_pos rfl] at H; exact H
   clear H
   have H := H1
   clear H1
   by_cases c7 : a0 = 0
   ·rw [if_pos c7] at H
    exact absurd H (by simp)
   ·rw [if_neg c7] at H
    have c7b0 : (a0 == 0) = false := beq_eq_false_iff_ne.mpr c7
    have c7b1 : (a0 != 0) = true := bne_iff_ne.mpr c7
    obtain rfl := Option.some.inj H
    go_enter Try.func118, Try.ntmps118
    go_wp2_with (first | ((with_reducible refine gate_callee (f := 66) rfl ?_); refine goesL_ (some 6) rfl rfl Try.func66 (by kernel_rfl) rfl #[.int .i64 a0, .int .i64 1, .int .i64 8] rfl Cy.ls ?_; (with_reducible refine (impl_within.calls a0 1 8 true _ A3.out).mono ?_); rintro e w' ⟨rfl, ⟨nd, rfl⟩⟩; refine ⟨_, rfl, ?_⟩) | (go_at_call 66; (with_reducible refine (impl_within.calls a1 0 20000 true _ A5.out).mono ?_); rintro e w' ⟨rfl, ⟨nd, rfl⟩⟩))
    go_ret
    exact ⟨by first | rfl | (simp; done) | (simp [*]; done), by repeat (first | exact Drawn0.refl _ | apply Drawn0.step)⟩
  ·replace c6 := Bool.eq_false_iff.mpr c6
   subst c6
   have H1 : (some 0) = some r := by rw [if_neg (show ¬ (false = true) by decide)] at H; exact H
   clear H
   have H := H1
   clear H1
   obtain rfl := Option.some.inj H
   go_enter Try.func118, Try.ntmps118
   go_wp2_with (first | ((with_reducible refine gate_callee (f := 66) rfl ?_); refine goesL_ (some 6) rfl rfl Try.func66 (by kernel_rfl) rfl #[.int .i64 a0, .int .i64 1, .int .i64 8] rfl Cy.ls ?_; (with_reducible refine (impl_within.calls a0 1 8 true _ A3.out).mono ?_); rintro e w' ⟨rfl, ⟨nd, rfl⟩⟩; refine ⟨_, rfl, ?_⟩) | (go_at_call 66; (with_reducible refine (impl_within.calls a1 0 20000 false _ A5.out).mono ?_); rintro e w' ⟨rfl, ⟨nd, rfl⟩⟩))
   go_ret
   exact ⟨by first | rfl | (simp; done) | (simp [*]; done), by repeat (first | exact Drawn0.refl _ | apply Drawn0.step)⟩
 ·replace c4 := Bool.eq_false_iff.mpr c4
  subst c4
  have H1 : (some 0) = some r := by rw [if_neg (show ¬ (false = true) by decide)] at H; exact H
  clear H
  have H := H1
  clear H1
  obtain rfl := Option.some.inj H
  go_enter Try.func118, Try.ntmps118
  go_wp2_with (first | ((with_reducible refine gate_callee (f := 66) rfl ?_); refine goesL_ (some 6) rfl rfl Try.func66 (by kernel_rfl) rfl #[.int .i64 a0, .int .i64 1, .int .i64 8] rfl Cy.ls ?_; (with_reducible refine (impl_within.calls a0 1 8 false _ A3.out).mono ?_); rintro e w' ⟨rfl, ⟨nd, rfl⟩⟩; refine ⟨_, rfl, ?_⟩))
  go_ret
  exact ⟨by first | rfl | (simp; done) | (simp [*]; done), by repeat (first | exact Drawn0.refl _ | apply Drawn0.step)⟩
def strings_Join.f (l0 : List ByteArray) (a1 : ByteArray) : Option ByteArray := if a1 = ⟨#[]⟩ then (if l0.length ≤ 1000 then (if (Jn.flatT l0).size ≤ 1000000000 then some (Jn.flatT l0) else none) else none) else none
theorem strings_Join.calls (A0 : Option Addr) (c0 : Nat) (l0 : List ByteArray) (a1 : ByteArray) (r : ByteArray) (w : World) (hr0 : Kd.C Kd.string w A0 l0.length l0) (hc0 : l0.length ≤ c0) (h : strings_Join.f l0 a1 = some r) :
  Calls Try.prog 119 #[.slice A0 l0.length c0, .string a1] w fun e w' => e = .returned (.string r) ∧ Below w.heap.size w w' := by
 unfold strings_Join.f at h
 by_cases h0 : a1 = ⟨#[]⟩
 ·rw [if_pos h0] at h
  by_cases h1 : l0.length ≤ 1000
  ·rw [if_pos h1] at h
   by_cases h2 : (Jn.flatT l0).size ≤ 1000000000
   ·rw [if_pos h2] at h
    obtain rfl := Option.some.inj h
    subst h0
    exact Jn.join_calls A0 c0 l0 w hr0 hc0 h1 h2
   ·rw [if_neg h2] at h
    cases h
  ·rw [if_neg h1] at h
   cases h
 ·rw [if_neg h0] at h
  cases h
def impl_Decode.j0 : Nat → Int → Int → Int → List (S112) → Bool → Option (ByteArray × Int)
 | 0, _, _, _, _, _ => none
 | k + 1, x0, x1, x2, x3, x15 => if x15 = true then (some ((⟨#[]⟩ : ByteArray), 1)) else ((impl_ShardSize.f x0 x2).bind fun t467 => ((impl_hasWrong.f k x3 t467).bind fun t468 => (if t468 = true then (some ((⟨#[]⟩ : ByteArray), 2)) else ((impl_remade.f k x0 x1 x3).bind fun bt469 => (if bt469.2 = true then (if 0 ≤ x0 then (if x0 ≤ (bt469.1.length : Int) then ((strings_Join.f (bt469.1.take (x0 : Int).toNat) (⟨#[]⟩ : ByteArray)).bind fun t477 => (if 0 ≤ x2 then (if x2 ≤ (t477.size : Int) then (some (t477.extract 0 (x2 : Int).toNat, 0)) else (none)) else (none))) else (none)) else (none)) else (some ((⟨#[]⟩ : ByteArray), 10)))))))
def impl_Decode.f (k : Nat) (a0 : Int) (a1 : Int) (a2 : Int) (l3 : List (S112)) : Option (ByteArray × Int) := (impl_Shard_108.f l3).bind fun t464 => (if t464 = true then (some ((⟨#[]⟩ : ByteArray), 2)) else ((impl_CodeRight.f a0 a1).bind fun t465 => (if t465 = true then ((impl_within.f a2 0 20000).bind fun t466 => (if t466 = true then (impl_Decode.j0 k a0 a1 a2 l3 ((l3.length : Int) != (wrap64 (a0 + a1)))) else (impl_Decode.j0 k a0 a1 a2 l3 true))) else (impl_Decode.j0 k a0 a1 a2 l3 true))))
set_option maxHeartbeats 8000000 in
set_option maxRecDepth 100000 in
theorem impl_Decode.calls (k : Nat) (a0 : Int) (a1 : Int) (a2 : Int) (A3 : Option Addr) (c3 : Nat) (l3 : List (S112)) (r1 : ByteArray) (r2 : Int) (w : World) (hr3 : Kd.C k112 w A3 l3.length l3) (hc3 : l3.length ≤ c3) (h : impl_Decode.f k a0 a1 a2 l3 = some (r1, r2)) :
  Calls Try.prog 62 #[.int .i64 a0, .int .i64 a1, .int .i64 a2, .slice A3 l3.length c3] w fun e w' => e = .returned (.agg #[.string r1, .int .i64 r2]) ∧ Below w.heap.size w w' := by
 have hu75 := Try.underlying75
 have HR3 := Aside0.mk hr3
 have HC3 := Aside0.mk hc3
 clear hr3 hc3
 have HB := Aside0.mk (Below.refl w.heap.size w)
 have H : ((impl_Shard_108.f l3).bind fun t464 => (if t464 = true then (some ((⟨#[]⟩ : ByteArray), 2)) else ((impl_CodeRight.f a0 a1).bind fun t465 => (if t465 = true then ((impl_within.f a2 0 20000).bind fun t466 => (if t466 = true then (impl_Decode.j0 k a0 a1 a2 l3 ((l3.length : Int) != (wrap64 (a0 + a1)))) else (impl_Decode.j0 k a0 a1 a2 l3 true))) else (impl_Decode.j0 k a0 a1 a2 l3 true))))) = some (r1, r2) := h
 clear h
 replace H := Option.bind_eq_some_iff.mp H
 obtain ⟨t464, A50, H⟩ := H
 replace H : (if t464 = true then (some ((⟨#[]⟩ : ByteArray), 2)) else ((impl_CodeRight.f a0 a1).bind fun t465 => (if t465 = true then ((impl_within.f a2 0 20000).bind fun t466 => (if t466 = true then (impl_Decode.j0 k a0 a1 a2 l3 ((l3.length : Int) != (wrap64 (a0 + a1)))) else (impl_Decode.j0 k a0 a1 a2 l3 true))) else (impl_Decode.j0 k a0 a1 a2 l3 true)))) = some (r1, r2) := H
 have A5 := Aside0.mk A50
 clear A50
 by_cases c6 : t464 = true
 ·subst c6
  have H1 : (some ((⟨#[]⟩ : ByteArray), 2)) = some (r1, r2) := by rw [if_pos rfl] at H; exact H
  clear H
  have H := H1
  clear H1
  simp only [Option.some.injEq, Prod.mk.injEq] at H
  obtain ⟨rfl, rfl⟩ := H
  go_enter Try.func62, Try.ntmps62
  go_wp2_with (first | ((with_reducible refine gate_dst (N := 8) rfl ?_); (try (refine gate_guard (by rfl) ?_; dsimp only)); refine box_event ?hg (N := 8) ?hd (cs := #[.string (⟨#[]⟩ : ByteArray), .int .i64 0]) (t := 75) ?hr ?_; (case hd => rfl); (case hg => rfl); (case hr => first | (go_simp; done) | (go_simp; rfl)); intro gb463 hg w7 hbox hb; have n_ := Cy.a4 (below_step (Cz.w HB.out) hb) hbox (Cy.gw hg HB.out) (Cy.gw hg HB.out); clear HB; obtain ⟨HB, BK463, GW463, GE463⟩ := n_; clear hb hbox hg) | ((with_reducible refine gate_callee (f := 108) rfl ?_); refine goesL_ (some 13) rfl rfl Try.func108 (by kernel_rfl) rfl #[.slice A3 l3.length c3] rfl Cy.ls ?_; (with_reducible refine (impl_Shard_108.calls _ _ l3 true _ ?side1 ?side2 A5.out).mono ?_); (case side1 => exact Cz.c HR3.out HB.out); (case side2 => exact HC3.out); rintro e w' ⟨rfl, ⟨nd, rfl⟩⟩; refine ⟨_, rfl, ?_⟩; (try (rw [drewN_self w7]; generalize hq_ : World.drewN w7 _ = w7; have n0_ : Aside0 (w7.heap[gb463]? = some (.cells #[.string (⟨#[]⟩ : ByteArray), .int .i64 0] 75 (0, 0))) := ⟨by rw [← hq_]; exact (Cz.b BK463.out)⟩; have n1_ : Aside0 (Below w.heap.size w w7) := ⟨by rw [← hq_]; exact (Cz.w HB.out)⟩; clear BK463 HB hq_; have BK463 := n0_; have HB := n1_; clear n0_ n1_)); obtain ⟨hcz8_0, hcz8_1, hfz8_0, hfz8_1⟩ := Cy.z2 BK463.out))
  refine bodyPost_ret (results_cell_row rfl _ _ gb463 75 #[.string (⟨#[]⟩ : ByteArray), .int .i64 2] (0, 0) _ rfl (by (with_reducible repeat (first | refine blk_drewN ?_ _ | refine blk_drew ?_ | refine blk_alloc ?_ _)); refine blk_put (cs := #[.string (⟨#[]⟩ : ByteArray), .int .i64 0]) ?_ 1 _ rfl; (with_reducible repeat (first | refine blk_drewN ?_ _ | refine blk_drew ?_ | refine blk_alloc ?_ _)); refine blk_put (cs := #[.string (⟨#[]⟩ : ByteArray), .int .i64 0]) ?_ 0 _ rfl; (with_reducible repeat (first | refine blk_drewN ?_ _ | refine blk_drew ?_ | refine blk_alloc ?_ _)); exact BK463.out) Try.underlying75 rfl (by kernel_rfl)) rfl ?_
  exact ⟨by first | rfl | (simp [errW_none, errW_some] <;> rfl) | (simp [*, errW_none, errW_some] <;> rfl), Cz.w HB.out⟩
 ·replace c6 := Bool.eq_false_iff.mpr c6
  subst c6
  have H1 : ((impl_CodeRight.f a0 a1).bind fun t465 => (if t465 = true then ((impl_within.f a2 0 20000).bind fun t466 => (if t466 = true then (impl_Decode.j0 k a0 a1 a2 l3 ((l3.length : Int) != (wrap64 (a0 + a1)))) else (impl_Decode.j0 k a0 a1 a2 l3 true))) else (impl_Decode.j0 k a0 a1 a2 l3 true))) = some (r1, r2) := by rw [if_neg (show ¬ (false = true) by decide)] at H; exact H
  clear H
  have H := H1
  clear H1
  have HC9 := Aside0.mk H
  clear H
  go_enter Try.func62, Try.ntmps62
  go_upto_region 3 with (first | ((with_reducible refine gate_dst (N := 8) rfl ?_); (try (refine gate_guard (by rfl) ?_; dsimp only)); refine box_event ?hg (N := 8) ?hd (cs := #[.string (⟨#[]⟩ : ByteArray), .int .i64 0]) (t := 75) ?hr ?_; (case hd => rfl); (case hg => rfl); (case hr => first | (go_simp; done) | (go_simp; rfl)); intro gb463 hg w10 hbox hb; have n_ := Cy.a4 (below_step (Cz.w HB.out) hb) hbox (Cy.gw hg HB.out) (Cy.gw hg HB.out); clear HB; obtain ⟨HB, BK463, GW463, GE463⟩ := n_; clear hb hbox hg) | ((with_reducible refine gate_callee (f := 108) rfl ?_); refine goesL_ (some 13) rfl rfl Try.func108 (by kernel_rfl) rfl #[.slice A3 l3.length c3] rfl Cy.ls ?_; (with_reducible refine (impl_Shard_108.calls _ _ l3 false _ ?side1 ?side2 A5.out).mono ?_); (case side1 => exact Cz.c HR3.out HB.out); (case side2 => exact HC3.out); rintro e w' ⟨rfl, ⟨nd, rfl⟩⟩; refine ⟨_, rfl, ?_⟩))
  (try simp only [Act.put, List.setIfInBounds_toArray, List.set_cons_zero, List.set_cons_succ])
  go_cut [15] (fun v15 wc => ∃ (kq : Nat) (x15_8 : Bool), v15 = .bool x15_8 ∧ Aside0 (impl_Decode.j0 kq a0 a1 a2 l3 x15_8 = some (r1, r2)) ∧ Aside0 (kq ≤ k) ∧ Aside0 (wc.heap[gb463]? = some (.cells #[.string (⟨#[]⟩ : ByteArray), .int .i64 0] 75 (0, 0))) ∧ Aside0 (Below w.heap.size w wc))
  case first =>
   have H := HC9.out
   clear HC9
   replace H := Option.bind_eq_some_iff.mp H
   obtain ⟨t465, A110, H⟩ := H
   replace H : (if t465 = true then ((impl_within.f a2 0 20000).bind fun t466 => (if t466 = true then (impl_Decode.j0 k a0 a1 a2 l3 ((l3.length : Int) != (wrap64 (a0 + a1)))) else (impl_Decode.j0 k a0 a1 a2 l3 true))) else (impl_Decode.j0 k a0 a1 a2 l3 true)) = some (r1, r2) := H
   have A11 := Aside0.mk A110
   clear A110
   by_cases c12 : t465 = true
   ·subst c12
    have H1 : ((impl_within.f a2 0 20000).bind fun t466 => (if t466 = true then (impl_Decode.j0 k a0 a1 a2 l3 ((l3.length : Int) != (wrap64 (a0 + a1)))) else (impl_Decode.j0 k a0 a1 a2 l3 true))) = some (r1, r2) := by rw [if_pos rfl] at H; exact H
    clear H
    have H := H1
    clear H1
    replace H := Option.bind_eq_some_iff.mp H
    obtain ⟨t466, A130, H⟩ := H
    replace H : (if t466 = true then (impl_Decode.j0 k a0 a1 a2 l3 ((l3.length : Int) != (wrap64 (a0 + a1)))) else (impl_Decode.j0 k a0 a1 a2 l3 true)) = some (r1, r2) := H
    have A13 := Aside0.mk A130
    clear A130
    by_cases c14 : t466 = true
    ·subst c14
     have H1 : (impl_Decode.j0 k a0 a1 a2 l3 ((l3.length : Int) != (wrap64 (a0 + a1)))) = some (r1, r2) := by rw [if_pos rfl] at H; exact H
     clear H
     have H := H1
     clear H1
     have H' := Aside0.mk H
     clear H
     go_wp2_with (first | ((with_reducible refine gate_callee (f := 23) rfl ?_); refine goesL_ (some 18) rfl rfl Try.func23 (by kernel_rfl) rfl #[.int .i64 a0, .int .i64 a1] rfl Cy.ls ?_; (with_reducible refine (impl_CodeRight.calls a0 a1 true _ A11.out).mono ?_); rintro e w' ⟨rfl, ⟨nd, rfl⟩⟩; refine ⟨_, rfl, ?_⟩) | (go_at_call 66; (with_reducible refine (impl_within.calls a2 0 20000 true _ A13.out).mono ?_); rintro e w' ⟨rfl, ⟨nd, rfl⟩⟩))
     go_meet
     case rel => exact ⟨_, (((l3.length : Int) != (wrap64 (a0 + a1)))), (by first | rfl | (simp; done) | (simp [*]; done)), H', ⟨by first | omega | exact Nat.le_refl _⟩, ⟨Cz.b BK463.out⟩, ⟨Cz.w HB.out⟩⟩
    ·replace c14 := Bool.eq_false_iff.mpr c14
     subst c14
     have H1 : (impl_Decode.j0 k a0 a1 a2 l3 true) = some (r1, r2) := by rw [if_neg (show ¬ (false = true) by decide)] at H; exact H
     clear H
     have H := H1
     clear H1
     have H' := Aside0.mk H
     clear H
     go_wp2_with (first | ((with_reducible refine gate_callee (f := 23) rfl ?_); refine goesL_ (some 18) rfl rfl Try.func23 (by kernel_rfl) rfl #[.int .i64 a0, .int .i64 a1] rfl Cy.ls ?_; (with_reducible refine (impl_CodeRight.calls a0 a1 true _ A11.out).mono ?_); rintro e w' ⟨rfl, ⟨nd, rfl⟩⟩; refine ⟨_, rfl, ?_⟩) | (go_at_call 66; (with_reducible refine (impl_within.calls a2 0 20000 false _ A13.out).mono ?_); rintro e w' ⟨rfl, ⟨nd, rfl⟩⟩))
     go_meet
     case rel => exact ⟨_, (true), (by first | rfl | (simp; done) | (simp [*]; done)), H', ⟨by first | omega | exact Nat.le_refl _⟩, ⟨Cz.b BK463.out⟩, ⟨Cz.w HB.out⟩⟩
   ·replace c12 := Bool.eq_false_iff.mpr c12
    subst c12
    have H1 : (impl_Decode.j0 k a0 a1 a2 l3 true) = some (r1, r2) := by rw [if_neg (show ¬ (false = true) by decide)] at H; exact H
    clear H
    have H := H1
    clear H1
    have H' := Aside0.mk H
    clear H
    go_wp2_with (first | ((with_reducible refine gate_callee (f := 23) rfl ?_); refine goesL_ (some 18) rfl rfl Try.func23 (by kernel_rfl) rfl #[.int .i64 a0, .int .i64 a1] rfl Cy.ls ?_; (with_reducible refine (impl_CodeRight.calls a0 a1 false _ A11.out).mono ?_); rintro e w' ⟨rfl, ⟨nd, rfl⟩⟩; refine ⟨_, rfl, ?_⟩))
    go_meet
    case rel => exact ⟨_, (true), (by first | rfl | (simp; done) | (simp [*]; done)), H', ⟨by first | omega | exact Nat.le_refl _⟩, ⟨Cz.b BK463.out⟩, ⟨Cz.w HB.out⟩⟩
  case rest =>
   clear HC9
   try clear c1
   try clear c2
   try clear p2
   try clear c3
   try clear c6
   try clear p6
   try clear c10
   try clear c12
   try clear c14
   try clear hcz8_0
   try clear hcz8_1
   try clear hfz8_0
   try clear hfz8_1
   obtain ⟨kq, x15_8, rfl, HA, HJ8, BK463, HB⟩ := hcut
   cases kq with
   | zero => exact absurd HA.out (by simp [impl_Decode.j0])
   | succ kj8 =>
    have H := HA.out
    clear HA
    simp only [impl_Decode.j0] at H
    by_cases c15 : x15_8 = true
    ·subst c15
     have H1 : (some ((⟨#[]⟩ : ByteArray), 1)) = some (r1, r2) := by rw [if_pos rfl] at H; exact H
     clear H
     have H := H1
     clear H1
     simp only [Option.some.injEq, Prod.mk.injEq] at H
     obtain ⟨rfl, rfl⟩ := H
     obtain ⟨hcz16_0, hcz16_1, hfz16_0, hfz16_1⟩ := Cy.z2 BK463.out
     go_wp2
     refine bodyPost_ret (results_cell_row rfl _ _ gb463 75 #[.string (⟨#[]⟩ : ByteArray), .int .i64 1] (0, 0) _ rfl (by (with_reducible repeat (first | refine blk_drewN ?_ _ | refine blk_drew ?_ | refine blk_alloc ?_ _)); refine blk_put (cs := #[.string (⟨#[]⟩ : ByteArray), .int .i64 0]) ?_ 1 _ rfl; (with_reducible repeat (first | refine blk_drewN ?_ _ | refine blk_drew ?_ | refine blk_alloc ?_ _)); refine blk_put (cs := #[.string (⟨#[]⟩ : ByteArray), .int .i64 0]) ?_ 0 _ rfl; (with_reducible repeat (first | refine blk_drewN ?_ _ | refine blk_drew ?_ | refine blk_alloc ?_ _)); exact BK463.out) Try.underlying75 rfl (by kernel_rfl)) rfl ?_
     exact ⟨by first | rfl | (simp [errW_none, errW_some] <;> rfl) | (simp [*, errW_none, errW_some] <;> rfl), Cz.w HB.out⟩
    ·replace c15 := Bool.eq_false_iff.mpr c15
     subst c15
     have H1 : ((impl_ShardSize.f a0 a2).bind fun t467 => ((impl_hasWrong.f kj8 l3 t467).bind fun t468 => (if t468 = true then (some ((⟨#[]⟩ : ByteArray), 2)) else ((impl_remade.f kj8 a0 a1 l3).bind fun bt469 => (if bt469.2 = true then (if 0 ≤ a0 then (if a0 ≤ (bt469.1.length : Int) then ((strings_Join.f (bt469.1.take (a0 : Int).toNat) (⟨#[]⟩ : ByteArray)).bind fun t477 => (if 0 ≤ a2 then (if a2 ≤ (t477.size : Int) then (some (t477.extract 0 (a2 : Int).toNat, 0)) else (none)) else (none))) else (none)) else (none)) else (some ((⟨#[]⟩ : ByteArray), 10))))))) = some (r1, r2) := by rw [if_neg (show ¬ (false = true) by decide)] at H; exact H
     clear H
     have H := H1
     clear H1
     replace H := Option.bind_eq_some_iff.mp H
     obtain ⟨t467, A170, H⟩ := H
     replace H : ((impl_hasWrong.f kj8 l3 t467).bind fun t468 => (if t468 = true then (some ((⟨#[]⟩ : ByteArray), 2)) else ((impl_remade.f kj8 a0 a1 l3).bind fun bt469 => (if bt469.2 = true then (if 0 ≤ a0 then (if a0 ≤ (bt469.1.length : Int) then ((strings_Join.f (bt469.1.take (a0 : Int).toNat) (⟨#[]⟩ : ByteArray)).bind fun t477 => (if 0 ≤ a2 then (if a2 ≤ (t477.size : Int) then (some (t477.extract 0 (a2 : Int).toNat, 0)) else (none)) else (none))) else (none)) else (none)) else (some ((⟨#[]⟩ : ByteArray), 10)))))) = some (r1, r2) := H
     have A17 := Aside0.mk A170
     clear A170
     replace H := Option.bind_eq_some_iff.mp H
     obtain ⟨t468, A180, H⟩ := H
     replace H : (if t468 = true then (some ((⟨#[]⟩ : ByteArray), 2)) else ((impl_remade.f kj8 a0 a1 l3).bind fun bt469 => (if bt469.2 = true then (if 0 ≤ a0 then (if a0 ≤ (bt469.1.length : Int) then ((strings_Join.f (bt469.1.take (a0 : Int).toNat) (⟨#[]⟩ : ByteArray)).bind fun t477 => (if 0 ≤ a2 then (if a2 ≤ (t477.size : Int) then (some (t477.extract 0 (a2 : Int).toNat, 0)) else (none)) else (none))) else (none)) else (none)) else (some ((⟨#[]⟩ : ByteArray), 10))))) = some (r1, r2) := H
     have A18 := Aside0.mk A180
     clear A180
     by_cases c19 : t468 = true
     ·subst c19
      have H1 : (some ((⟨#[]⟩ : ByteArray), 2)) = some (r1, r2) := by rw [if_pos rfl] at H; exact H
      clear H
      have H := H1
      clear H1
      simp only [Option.some.injEq, Prod.mk.injEq] at H
      obtain ⟨rfl, rfl⟩ := H
      go_wp2_with (first | ((with_reducible refine gate_callee (f := 118) rfl ?_); refine goesL_ (some 38) rfl rfl Try.func118 (by kernel_rfl) rfl #[.int .i64 a0, .int .i64 a2] rfl Cy.ls ?_; (with_reducible refine (impl_ShardSize.calls a0 a2 t467 _ A17.out).mono ?_); rintro e w' ⟨rfl, ⟨nd, rfl⟩⟩; refine ⟨_, rfl, ?_⟩; (try (rw [drewN_self wc]; generalize hq_ : World.drewN wc _ = wc; have n0_ : Aside0 (wc.heap[gb463]? = some (.cells #[.string (⟨#[]⟩ : ByteArray), .int .i64 0] 75 (0, 0))) := ⟨by rw [← hq_]; exact (Cz.b BK463.out)⟩; have n1_ : Aside0 (Below w.heap.size w wc) := ⟨by rw [← hq_]; exact (Cz.w HB.out)⟩; clear BK463 HB hq_; have BK463 := n0_; have HB := n1_; clear n0_ n1_))) | ((with_reducible refine gate_callee (f := 112) rfl ?_); refine goesL_ (some 39) rfl rfl Try.func112 (by kernel_rfl) rfl #[.slice A3 l3.length c3, .int .i64 t467] rfl Cy.ls ?_; (with_reducible refine (impl_hasWrong.calls kj8 _ _ l3 t467 true _ ?side1 ?side2 A18.out).mono ?_); (case side1 => exact Cz.c HR3.out HB.out); (case side2 => exact HC3.out); rintro e w20 ⟨rfl, hb⟩; refine ⟨_, rfl, ?_⟩; have n_ := Cy.a2 (blk_below (g := gb463) (o := .cells #[.string (⟨#[]⟩ : ByteArray), .int .i64 0] 75 (0, 0)) (Cz.b BK463.out) hb) (below_step (Cz.w HB.out) hb); clear BK463 HB; obtain ⟨BK463, HB⟩ := n_; (try clear hb); (try clear hb2); (try clear hk); (try clear hi); obtain ⟨hcz21_0, hcz21_1, hfz21_0, hfz21_1⟩ := Cy.z2 BK463.out))
      refine bodyPost_ret (results_cell_row rfl _ _ gb463 75 #[.string (⟨#[]⟩ : ByteArray), .int .i64 2] (0, 0) _ rfl (by (with_reducible repeat (first | refine blk_drewN ?_ _ | refine blk_drew ?_ | refine blk_alloc ?_ _)); refine blk_put (cs := #[.string (⟨#[]⟩ : ByteArray), .int .i64 0]) ?_ 1 _ rfl; (with_reducible repeat (first | refine blk_drewN ?_ _ | refine blk_drew ?_ | refine blk_alloc ?_ _)); refine blk_put (cs := #[.string (⟨#[]⟩ : ByteArray), .int .i64 0]) ?_ 0 _ rfl; (with_reducible repeat (first | refine blk_drewN ?_ _ | refine blk_drew ?_ | refine blk_alloc ?_ _)); exact BK463.out) Try.underlying75 rfl (by kernel_rfl)) rfl ?_
      exact ⟨by first | rfl | (simp [errW_none, errW_some] <;> rfl) | (simp [*, errW_none, errW_some] <;> rfl), Cz.w HB.out⟩
     ·replace c19 := Bool.eq_false_iff.mpr c19
      subst c19
      have H1 : ((impl_remade.f kj8 a0 a1 l3).bind fun bt469 => (if bt469.2 = true then (if 0 ≤ a0 then (if a0 ≤ (bt469.1.length : Int) then ((strings_Join.f (bt469.1.take (a0 : Int).toNat) (⟨#[]⟩ : ByteArray)).bind fun t477 => (if 0 ≤ a2 then (if a2 ≤ (t477.size : Int) then (some (t477.extract 0 (a2 : Int).toNat, 0)) else (none)) else (none))) else (none)) else (none)) else (some ((⟨#[]⟩ : ByteArray), 10)))) = some (r1, r2) := by rw [if_neg (show ¬ (false = true) by decide)] at H; exact H
      clear H
      have H := H1
      clear H1
      replace H := Option.bind_eq_some_iff.mp H
      obtain ⟨⟨t469, t470⟩, A220, H⟩ := H
      replace H : (if t470 = true then (if 0 ≤ a0 then (if a0 ≤ (t469.length : Int) then ((strings_Join.f (t469.take (a0 : Int).toNat) (⟨#[]⟩ : ByteArray)).bind fun t477 => (if 0 ≤ a2 then (if a2 ≤ (t477.size : Int) then (some (t477.extract 0 (a2 : Int).toNat, 0)) else (none)) else (none))) else (none)) else (none)) else (some ((⟨#[]⟩ : ByteArray), 10))) = some (r1, r2) := H
      have A22 := Aside0.mk A220
      clear A220
      by_cases c23 : t470 = true
      ·subst c23
       have H1 : (if 0 ≤ a0 then (if a0 ≤ (t469.length : Int) then ((strings_Join.f (t469.take (a0 : Int).toNat) (⟨#[]⟩ : ByteArray)).bind fun t477 => (if 0 ≤ a2 then (if a2 ≤ (t477.size : Int) then (some (t477.extract 0 (a2 : Int).toNat, 0)) else (none)) else (none))) else (none)) else (none)) = some (r1, r2) := by rw [if_pos rfl] at H; exact H
       clear H
       have H := H1
       clear H1
       by_cases c24 : 0 ≤ a0
       ·rw [if_pos c24] at H
        have c24b0 := eq_true c24
        have c24b1 : decide (0 ≤ a0) = true := decide_eq_true c24
        clear c24
        by_cases c25 : a0 ≤ (t469.length : Int)
        ·rw [if_pos c25] at H
         have c25b0 := eq_true c25
         have c25b1 : decide (a0 ≤ (t469.length : Int)) = true := decide_eq_true c25
         clear c25
         obtain ⟨y473, hy473⟩ : ∃ y_ : List ByteArray, y_ = (t469.take (a0 : Int).toNat) := ⟨_, rfl⟩
         replace H : ((strings_Join.f y473 (⟨#[]⟩ : ByteArray)).bind fun t477 => (if 0 ≤ a2 then (if a2 ≤ (t477.size : Int) then (some (t477.extract 0 (a2 : Int).toNat, 0)) else (none)) else (none))) = some (r1, r2) := by first | (rw [hy473]; with_reducible exact H) | (have H2_ := (Option.bind_some _ _).symm.trans H; rw [hy473]; with_reducible exact H2_) | (have H2_ := (Option.bind_some _ _).symm.trans H; with_reducible exact H2_) | with_reducible exact H | (rw [hy473]; exact H) | exact H
         have Ny473 := Aside0.mk hy473
         clear hy473
         replace H := Option.bind_eq_some_iff.mp H
         obtain ⟨t477, A260, H⟩ := H
         replace H : (if 0 ≤ a2 then (if a2 ≤ (t477.size : Int) then (some (t477.extract 0 (a2 : Int).toNat, 0)) else (none)) else (none)) = some (r1, r2) := H
         have A26 := Aside0.mk A260
         clear A260
         by_cases c27 : 0 ≤ a2
         ·rw [if_pos c27] at H
          have c27b0 := eq_true c27
          have c27b1 : decide (0 ≤ a2) = true := decide_eq_true c27
          clear c27
          by_cases c28 : a2 ≤ (t477.size : Int)
          ·rw [if_pos c28] at H
           have c28b0 := eq_true c28
           have c28b1 : decide (a2 ≤ (t477.size : Int)) = true := decide_eq_true c28
           clear c28
           simp only [Option.some.injEq, Prod.mk.injEq] at H
           obtain ⟨rfl, rfl⟩ := H
           go_wp2_with (first | ((with_reducible refine gate_callee (f := 118) rfl ?_); refine goesL_ (some 38) rfl rfl Try.func118 (by kernel_rfl) rfl #[.int .i64 a0, .int .i64 a2] rfl Cy.ls ?_; (with_reducible refine (impl_ShardSize.calls a0 a2 t467 _ A17.out).mono ?_); rintro e w' ⟨rfl, ⟨nd, rfl⟩⟩; refine ⟨_, rfl, ?_⟩; (try (rw [drewN_self wc]; generalize hq_ : World.drewN wc _ = wc; have n0_ : Aside0 (wc.heap[gb463]? = some (.cells #[.string (⟨#[]⟩ : ByteArray), .int .i64 0] 75 (0, 0))) := ⟨by rw [← hq_]; exact (Cz.b BK463.out)⟩; have n1_ : Aside0 (Below w.heap.size w wc) := ⟨by rw [← hq_]; exact (Cz.w HB.out)⟩; clear BK463 HB hq_; have BK463 := n0_; have HB := n1_; clear n0_ n1_))) | ((with_reducible refine gate_callee (f := 112) rfl ?_); refine goesL_ (some 39) rfl rfl Try.func112 (by kernel_rfl) rfl #[.slice A3 l3.length c3, .int .i64 t467] rfl Cy.ls ?_; (with_reducible refine (impl_hasWrong.calls kj8 _ _ l3 t467 false _ ?side1 ?side2 A18.out).mono ?_); (case side1 => exact Cz.c HR3.out HB.out); (case side2 => exact HC3.out); rintro e w29 ⟨rfl, hb⟩; refine ⟨_, rfl, ?_⟩; have n_ := Cy.a2 (blk_below (g := gb463) (o := .cells #[.string (⟨#[]⟩ : ByteArray), .int .i64 0] 75 (0, 0)) (Cz.b BK463.out) hb) (below_step (Cz.w HB.out) hb); clear BK463 HB; obtain ⟨BK463, HB⟩ := n_; (try clear hb); (try clear hb2); (try clear hk); (try clear hi)) | ((with_reducible refine gate_callee (f := 114) rfl ?_); refine goesL_ (some 45) rfl rfl Try.func114 (by kernel_rfl) rfl #[.int .i64 a0, .int .i64 a1, .slice A3 l3.length c3] rfl Cy.ls ?_; (with_reducible refine (impl_remade.calls kj8 a0 a1 _ _ l3 t469 true _ ?side1 ?side2 A22.out).mono ?_); (case side1 => exact Cz.c HR3.out HB.out); (case side2 => exact HC3.out); rintro e w30 ⟨v471, rfl, ho0, hb⟩; refine ⟨_, rfl, ?_⟩; have n_ := Cy.a3 (Kd.R_lower ho0 (below_size (Cz.w HB.out))) (blk_below (g := gb463) (o := .cells #[.string (⟨#[]⟩ : ByteArray), .int .i64 0] 75 (0, 0)) (Cz.b BK463.out) hb) (below_step (Cz.w HB.out) hb); clear BK463 HB; obtain ⟨HO472, BK463, HB⟩ := n_; (try clear hb); (try clear hb2); (try clear hk); (try clear hi); (try clear ho0); obtain ⟨Ao32, co32, eo32⟩ := Kd.R_slice HO472.out; subst eo32; have q31 : (a0 : Int) ≤ ((t469.length : Int) : Int) := of_decide_eq_true (by first | (with_reducible assumption) | assumption); obtain ⟨i031, hi031, _, hsz31, _⟩ := info_parts info9; have hroom31 : t469.length ≤ co32 := (Kd.R_reads' HO472.out).2.1; have hC31 : Kd.C Kd.string _ Ao32 t469.length t469 := (Kd.R_reads' HO472.out).2.2; have hcut31 := cut_to (P := Try.prog) 52 9 .i64 Try.underlying52 hi031 Ao32 t469.length co32 a0 (of_decide_eq_true (by first | (with_reducible assumption) | assumption)) q31 hroom31; have hr31 := Kd.C_take (m := (a0 : Int).toNat) hC31 (by omega); have hy31 : y473.length = (a0 : Int).toNat := (by rw [Ny473.out, List.length_take]; omega); rw [← Ny473.out] at hr31; rw [← hy31] at hcut31; have HR476 := Aside0.mk hr31; have HC476 := Aside0.mk (show y473.length ≤ co32 from by omega); clear hr31 hC31 hroom31 hi031 hsz31; have KY31 := Aside0.mk hy31; clear hy31; have KL31 := Aside0.mk (show (a0 : Int).toNat ≤ t469.length from by omega); replace q31 := eq_true q31) | ((with_reducible refine gate_callee (f := 119) rfl ?_); refine goesL_ (some 54) rfl rfl Try.func119 (by kernel_rfl) rfl #[.slice Ao32 y473.length co32, .string (⟨#[]⟩ : ByteArray)] rfl Cy.ls ?_; (with_reducible refine (strings_Join.calls _ _ y473 (⟨#[]⟩ : ByteArray) t477 _ ?side1 ?side2 A26.out).mono ?_); (case side1 => repeat (first | exact (by repeat (first | (with_reducible exact HR476.out) | (with_reducible refine Kd.C_alloc ?_ _) | (with_reducible refine Kd.C_drewN ?_ _) | (with_reducible refine Kd.C_drew ?_) | exact HR476.out)) | (with_reducible refine Kd.C_alloc ?_ _) | (with_reducible refine Kd.C_drewN ?_ _) | (with_reducible refine Kd.C_drew ?_))); (case side2 => exact HC476.out); rintro e w33 ⟨rfl, hb⟩; refine ⟨_, rfl, ?_⟩; have n_ := Cy.a4 (Kd.R_below (Cz.r HO472.out) hb) (blk_below (g := gb463) (o := .cells #[.string (⟨#[]⟩ : ByteArray), .int .i64 0] 75 (0, 0)) (Cz.b BK463.out) hb) (Kd.C_below (by repeat (first | (with_reducible exact HR476.out) | (with_reducible refine Kd.C_alloc ?_ _) | (with_reducible refine Kd.C_drewN ?_ _) | (with_reducible refine Kd.C_drew ?_) | exact HR476.out)) hb) (below_step (Cz.w HB.out) hb); clear HO472 BK463 HR476 HB; obtain ⟨HO472, BK463, HR476, HB⟩ := n_; (try clear hb); (try clear hb2); (try clear hk); (try clear hi); obtain ⟨hcz34_0, hcz34_1, hfz34_0, hfz34_1⟩ := Cy.z2 BK463.out))
           refine bodyPost_ret (results_cell_row rfl _ _ gb463 75 #[.string (t477.extract 0 (a2 : Int).toNat), .int .i64 0] (0, 0) _ rfl (by (with_reducible repeat (first | refine blk_drewN ?_ _ | refine blk_drew ?_ | refine blk_alloc ?_ _)); refine blk_put (cs := #[.string (t477.extract 0 (a2 : Int).toNat), .int .i64 0]) ?_ 1 _ rfl; (with_reducible repeat (first | refine blk_drewN ?_ _ | refine blk_drew ?_ | refine blk_alloc ?_ _)); refine blk_put (cs := #[.string (⟨#[]⟩ : ByteArray), .int .i64 0]) ?_ 0 _ rfl; (with_reducible repeat (first | refine blk_drewN ?_ _ | refine blk_drew ?_ | refine blk_alloc ?_ _)); exact BK463.out) Try.underlying75 rfl (by kernel_rfl)) rfl ?_
           exact ⟨by first | rfl | (simp [errW_none, errW_some] <;> rfl) | (simp [*, errW_none, errW_some] <;> rfl), Cz.w HB.out⟩
          ·rw [if_neg c28] at H
           exact absurd H (by simp)
         ·rw [if_neg c27] at H
          exact absurd H (by simp)
        ·rw [if_neg c25] at H
         exact absurd H (by simp)
       ·rw [if_neg c24] at H
        exact absurd H (by simp)
      ·replace c23 := Bool.eq_false_iff.mpr c23
       subst c23
       have H1 : (some ((⟨#[]⟩ : ByteArray), 10)) = some (r1, r2) := by rw [if_neg (show ¬ (false = true) by decide)] at H; exact H
       clear H
       have H := H1
       clear H1
       simp only [Option.some.injEq, Prod.mk.injEq] at H
       obtain ⟨rfl, rfl⟩ := H
       go_wp2_with (first | ((with_reducible refine gate_callee (f := 118) rfl ?_); refine goesL_ (some 38) rfl rfl Try.func118 (by kernel_rfl) rfl #[.int .i64 a0, .int .i64 a2] rfl Cy.ls ?_; (with_reducible refine (impl_ShardSize.calls a0 a2 t467 _ A17.out).mono ?_); rintro e w' ⟨rfl, ⟨nd, rfl⟩⟩; refine ⟨_, rfl, ?_⟩; (try (rw [drewN_self wc]; generalize hq_ : World.drewN wc _ = wc; have n0_ : Aside0 (wc.heap[gb463]? = some (.cells #[.string (⟨#[]⟩ : ByteArray), .int .i64 0] 75 (0, 0))) := ⟨by rw [← hq_]; exact (Cz.b BK463.out)⟩; have n1_ : Aside0 (Below w.heap.size w wc) := ⟨by rw [← hq_]; exact (Cz.w HB.out)⟩; clear BK463 HB hq_; have BK463 := n0_; have HB := n1_; clear n0_ n1_))) | ((with_reducible refine gate_callee (f := 112) rfl ?_); refine goesL_ (some 39) rfl rfl Try.func112 (by kernel_rfl) rfl #[.slice A3 l3.length c3, .int .i64 t467] rfl Cy.ls ?_; (with_reducible refine (impl_hasWrong.calls kj8 _ _ l3 t467 false _ ?side1 ?side2 A18.out).mono ?_); (case side1 => exact Cz.c HR3.out HB.out); (case side2 => exact HC3.out); rintro e w35 ⟨rfl, hb⟩; refine ⟨_, rfl, ?_⟩; have n_ := Cy.a2 (blk_below (g := gb463) (o := .cells #[.string (⟨#[]⟩ : ByteArray), .int .i64 0] 75 (0, 0)) (Cz.b BK463.out) hb) (below_step (Cz.w HB.out) hb); clear BK463 HB; obtain ⟨BK463, HB⟩ := n_; (try clear hb); (try clear hb2); (try clear hk); (try clear hi)) | ((with_reducible refine gate_callee (f := 114) rfl ?_); refine goesL_ (some 45) rfl rfl Try.func114 (by kernel_rfl) rfl #[.int .i64 a0, .int .i64 a1, .slice A3 l3.length c3] rfl Cy.ls ?_; (with_reducible refine (impl_remade.calls kj8 a0 a1 _ _ l3 t469 false _ ?side1 ?side2 A22.out).mono ?_); (case side1 => exact Cz.c HR3.out HB.out); (case side2 => exact HC3.out); rintro e w36 ⟨v471, rfl, ho0, hb⟩; refine ⟨_, rfl, ?_⟩; have n_ := Cy.a3 (Kd.R_lower ho0 (below_size (Cz.w HB.out))) (blk_below (g := gb463) (o := .cells #[.string (⟨#[]⟩ : ByteArray), .int .i64 0] 75 (0, 0)) (Cz.b BK463.out) hb) (below_step (Cz.w HB.out) hb); clear BK463 HB; obtain ⟨HO472, BK463, HB⟩ := n_; (try clear hb); (try clear hb2); (try clear hk); (try clear hi); (try clear ho0); obtain ⟨hcz37_0, hcz37_1, hfz37_0, hfz37_1⟩ := Cy.z2 BK463.out))
       refine bodyPost_ret (results_cell_row rfl _ _ gb463 75 #[.string (⟨#[]⟩ : ByteArray), .int .i64 10] (0, 0) _ rfl (by (with_reducible repeat (first | refine blk_drewN ?_ _ | refine blk_drew ?_ | refine blk_alloc ?_ _)); refine blk_put (cs := #[.string (⟨#[]⟩ : ByteArray), .int .i64 0]) ?_ 1 _ rfl; (with_reducible repeat (first | refine blk_drewN ?_ _ | refine blk_drew ?_ | refine blk_alloc ?_ _)); refine blk_put (cs := #[.string (⟨#[]⟩ : ByteArray), .int .i64 0]) ?_ 0 _ rfl; (with_reducible repeat (first | refine blk_drewN ?_ _ | refine blk_drew ?_ | refine blk_alloc ?_ _)); exact BK463.out) Try.underlying75 rfl (by kernel_rfl)) rfl ?_
       exact ⟨by first | rfl | (simp [errW_none, errW_some] <;> rfl) | (simp [*, errW_none, errW_some] <;> rfl), Cz.w HB.out⟩
def laws_eqDataOut.f (a0_0 : ByteArray) (a0_1 : Int) (a1_0 : ByteArray) (a1_1 : Int) : Option (Bool) := if a0_0.toList = a1_0.toList then (if a0_1 = a1_1 then (some true) else (some false)) else (some false)
set_option maxHeartbeats 8000000 in
set_option maxRecDepth 100000 in
theorem laws_eqDataOut.calls (a0_0 : ByteArray) (a0_1 : Int) (a1_0 : ByteArray) (a1_1 : Int) (r : Bool) (w : World) (h : laws_eqDataOut.f a0_0 a0_1 a1_0 a1_1 = some r) :
  Calls Try.prog 63 #[.agg #[.string a0_0, .int .i64 a0_1], .agg #[.string a1_0, .int .i64 a1_1]] w fun e w' => e = .returned (.bool r) ∧ Below w.heap.size w w' := by
 have hu75 := Try.underlying75
 have HB := Aside0.mk (Below.refl w.heap.size w)
 have H : (if a0_0.toList = a1_0.toList then (if a0_1 = a1_1 then (some true) else (some false)) else (some false)) = some r := h
 clear h
 by_cases c3 : a0_0.toList = a1_0.toList
 ·rw [if_pos c3] at H
  have c3b0 : (a0_0.toList == a1_0.toList) = true := beq_iff_eq.mpr c3
  have c3b1 : (a0_0.toList != a1_0.toList) = false := bne_eq_false_iff_eq.mpr c3
  clear c3
  by_cases c4 : a0_1 = a1_1
  ·rw [if_pos c4] at H
   have c4b0 : (a0_1 == a1_1) = true := beq_iff_eq.mpr c4
   have c4b1 : (a0_1 != a1_1) = false := bne_eq_false_iff_eq.mpr c4
   clear c4
   obtain rfl := Option.some.inj H
   go_enter Try.func63, Try.ntmps63
   go_wp2_with (first | ((with_reducible refine gate_dst (N := 2) rfl ?_); refine box_event ?hg (N := 2) ?hd (cs := #[.string a0_0, .int .i64 a0_1]) (t := 75) ?hr ?_; (case hd => rfl); (case hg => rfl); (case hr => first | (go_simp; done) | (go_simp; rfl)); intro gb478 hg w5 hbox hb; have n_ := Cy.a4 (below_step (Cz.w HB.out) hb) hbox (Cy.gw hg HB.out) (Cy.gw hg HB.out); clear HB; obtain ⟨HB, BK478, GW478, GE478⟩ := n_; clear hb hbox hg) | ((with_reducible refine gate_dst (N := 3) rfl ?_); refine box_event ?hg (N := 3) ?hd (cs := #[.string a1_0, .int .i64 a1_1]) (t := 75) ?hr ?_; (case hd => rfl); (case hg => rfl); (case hr => first | (go_simp; done) | (go_simp; rfl)); intro gb479 hg w6 hbox hb; have n_ := Cy.a7 (blk_below (g := gb478) (o := .cells #[.string a0_0, .int .i64 a0_1] 75 (0, 0)) (Cz.b BK478.out) hb) (below_step (Cz.w HB.out) hb) hbox (Cy.gw hg HB.out) (Cy.gw hg HB.out) (by rw [hg]; exact Nat.ne_of_lt (blk_lt (g := gb478) (o := .cells #[.string a0_0, .int .i64 a0_1] 75 (0, 0)) (Cz.b BK478.out)) : gb478 ≠ gb479) (by rw [hg]; exact Nat.ne_of_gt (blk_lt (g := gb478) (o := .cells #[.string a0_0, .int .i64 a0_1] 75 (0, 0)) (Cz.b BK478.out)) : gb479 ≠ gb478); clear BK478 HB; obtain ⟨BK478, HB, BK479, GW479, GE479, NB478_479, NB479_478⟩ := n_; clear hb hbox hg; have hnb7 := NB478_479.out; have hnc7 := NB479_478.out; obtain ⟨hcz8_0, hcz8_1, hfz8_0, hfz8_1⟩ := Cy.z2 BK478.out; obtain ⟨hcz9_0, hcz9_1, hfz9_0, hfz9_1⟩ := Cy.z2 BK479.out))
   go_ret
   exact ⟨by first | rfl | (simp [errW_none, errW_some] <;> rfl) | (simp [*, errW_none, errW_some] <;> rfl), Cz.w HB.out⟩
  ·rw [if_neg c4] at H
   have c4b0 : (a0_1 == a1_1) = false := beq_eq_false_iff_ne.mpr c4
   have c4b1 : (a0_1 != a1_1) = true := bne_iff_ne.mpr c4
   obtain rfl := Option.some.inj H
   go_enter Try.func63, Try.ntmps63
   go_wp2_with (first | ((with_reducible refine gate_dst (N := 2) rfl ?_); refine box_event ?hg (N := 2) ?hd (cs := #[.string a0_0, .int .i64 a0_1]) (t := 75) ?hr ?_; (case hd => rfl); (case hg => rfl); (case hr => first | (go_simp; done) | (go_simp; rfl)); intro gb478 hg w10 hbox hb; have n_ := Cy.a4 (below_step (Cz.w HB.out) hb) hbox (Cy.gw hg HB.out) (Cy.gw hg HB.out); clear HB; obtain ⟨HB, BK478, GW478, GE478⟩ := n_; clear hb hbox hg) | ((with_reducible refine gate_dst (N := 3) rfl ?_); refine box_event ?hg (N := 3) ?hd (cs := #[.string a1_0, .int .i64 a1_1]) (t := 75) ?hr ?_; (case hd => rfl); (case hg => rfl); (case hr => first | (go_simp; done) | (go_simp; rfl)); intro gb479 hg w11 hbox hb; have n_ := Cy.a7 (blk_below (g := gb478) (o := .cells #[.string a0_0, .int .i64 a0_1] 75 (0, 0)) (Cz.b BK478.out) hb) (below_step (Cz.w HB.out) hb) hbox (Cy.gw hg HB.out) (Cy.gw hg HB.out) (by rw [hg]; exact Nat.ne_of_lt (blk_lt (g := gb478) (o := .cells #[.string a0_0, .int .i64 a0_1] 75 (0, 0)) (Cz.b BK478.out)) : gb478 ≠ gb479) (by rw [hg]; exact Nat.ne_of_gt (blk_lt (g := gb478) (o := .cells #[.string a0_0, .int .i64 a0_1] 75 (0, 0)) (Cz.b BK478.out)) : gb479 ≠ gb478); clear BK478 HB; obtain ⟨BK478, HB, BK479, GW479, GE479, NB478_479, NB479_478⟩ := n_; clear hb hbox hg; have hnb12 := NB478_479.out; have hnc12 := NB479_478.out; obtain ⟨hcz13_0, hcz13_1, hfz13_0, hfz13_1⟩ := Cy.z2 BK478.out; obtain ⟨hcz14_0, hcz14_1, hfz14_0, hfz14_1⟩ := Cy.z2 BK479.out))
   go_ret
   exact ⟨by first | rfl | (simp [errW_none, errW_some] <;> rfl) | (simp [*, errW_none, errW_some] <;> rfl), Cz.w HB.out⟩
 ·rw [if_neg c3] at H
  have c3b0 : (a0_0.toList == a1_0.toList) = false := beq_eq_false_iff_ne.mpr c3
  have c3b1 : (a0_0.toList != a1_0.toList) = true := bne_iff_ne.mpr c3
  obtain rfl := Option.some.inj H
  go_enter Try.func63, Try.ntmps63
  go_wp2_with (first | ((with_reducible refine gate_dst (N := 2) rfl ?_); refine box_event ?hg (N := 2) ?hd (cs := #[.string a0_0, .int .i64 a0_1]) (t := 75) ?hr ?_; (case hd => rfl); (case hg => rfl); (case hr => first | (go_simp; done) | (go_simp; rfl)); intro gb478 hg w15 hbox hb; have n_ := Cy.a4 (below_step (Cz.w HB.out) hb) hbox (Cy.gw hg HB.out) (Cy.gw hg HB.out); clear HB; obtain ⟨HB, BK478, GW478, GE478⟩ := n_; clear hb hbox hg) | ((with_reducible refine gate_dst (N := 3) rfl ?_); refine box_event ?hg (N := 3) ?hd (cs := #[.string a1_0, .int .i64 a1_1]) (t := 75) ?hr ?_; (case hd => rfl); (case hg => rfl); (case hr => first | (go_simp; done) | (go_simp; rfl)); intro gb479 hg w16 hbox hb; have n_ := Cy.a7 (blk_below (g := gb478) (o := .cells #[.string a0_0, .int .i64 a0_1] 75 (0, 0)) (Cz.b BK478.out) hb) (below_step (Cz.w HB.out) hb) hbox (Cy.gw hg HB.out) (Cy.gw hg HB.out) (by rw [hg]; exact Nat.ne_of_lt (blk_lt (g := gb478) (o := .cells #[.string a0_0, .int .i64 a0_1] 75 (0, 0)) (Cz.b BK478.out)) : gb478 ≠ gb479) (by rw [hg]; exact Nat.ne_of_gt (blk_lt (g := gb478) (o := .cells #[.string a0_0, .int .i64 a0_1] 75 (0, 0)) (Cz.b BK478.out)) : gb479 ≠ gb478); clear BK478 HB; obtain ⟨BK478, HB, BK479, GW479, GE479, NB478_479, NB479_478⟩ := n_; clear hb hbox hg; have hnb17 := NB478_479.out; have hnc17 := NB479_478.out; obtain ⟨hcz18_0, hcz18_1, hfz18_0, hfz18_1⟩ := Cy.z2 BK478.out; obtain ⟨hcz19_0, hcz19_1, hfz19_0, hfz19_1⟩ := Cy.z2 BK479.out))
  go_ret
  exact ⟨by first | rfl | (simp [errW_none, errW_some] <;> rfl) | (simp [*, errW_none, errW_some] <;> rfl), Cz.w HB.out⟩
def laws_FnExactDecode.f (k : Nat) (a0 : Int) (a1 : Int) (a2 : Int) (l3 : List (S111)) : Option (Bool) := (laws_szShardS.f k l3 1048576).bind fun t480 => (if t480 < 0 then (some true) else ((laws_toShardS.f k l3).bind fun t481 => ((spec_Decode.f k a0 a1 a2 t481).bind fun bt484 => ((laws_toShardS.f k l3).bind fun t487 => ((impl_Decode.f k a0 a1 a2 t487).bind fun bt490 => ((laws_eqDataOut.f bt490.1 bt490.2 bt484.1 bt484.2).bind fun t493 => (if t493 = true then ((laws_toShardS.f k l3).bind fun t494 => ((laws_eqShardS.f k t487 t494).bind fun t497 => (if t497 = true then (some true) else (none)))) else (none))))))))
set_option maxHeartbeats 8000000 in
set_option maxRecDepth 100000 in
theorem laws_FnExactDecode.calls (k : Nat) (a0 : Int) (a1 : Int) (a2 : Int) (A3 : Option Addr) (c3 : Nat) (l3 : List (S111)) (r : Bool) (w : World) (hr3 : Kd.C k111 w A3 l3.length l3) (hc3 : l3.length ≤ c3) (h : laws_FnExactDecode.f k a0 a1 a2 l3 = some r) :
  Calls Try.prog 14 #[.int .i64 a0, .int .i64 a1, .int .i64 a2, .slice A3 l3.length c3] w fun e w' => e = .returned (.bool r) ∧ Below w.heap.size w w' := by
 have hu75 := Try.underlying75
 have HR3 := Aside0.mk hr3
 have HC3 := Aside0.mk hc3
 clear hr3 hc3
 have HB := Aside0.mk (Below.refl w.heap.size w)
 have H : ((laws_szShardS.f k l3 1048576).bind fun t480 => (if t480 < 0 then (some true) else ((laws_toShardS.f k l3).bind fun t481 => ((spec_Decode.f k a0 a1 a2 t481).bind fun bt484 => ((laws_toShardS.f k l3).bind fun t487 => ((impl_Decode.f k a0 a1 a2 t487).bind fun bt490 => ((laws_eqDataOut.f bt490.1 bt490.2 bt484.1 bt484.2).bind fun t493 => (if t493 = true then ((laws_toShardS.f k l3).bind fun t494 => ((laws_eqShardS.f k t487 t494).bind fun t497 => (if t497 = true then (some true) else (none)))) else (none))))))))) = some r := h
 clear h
 replace H := Option.bind_eq_some_iff.mp H
 obtain ⟨t480, A50, H⟩ := H
 replace H : (if t480 < 0 then (some true) else ((laws_toShardS.f k l3).bind fun t481 => ((spec_Decode.f k a0 a1 a2 t481).bind fun bt484 => ((laws_toShardS.f k l3).bind fun t487 => ((impl_Decode.f k a0 a1 a2 t487).bind fun bt490 => ((laws_eqDataOut.f bt490.1 bt490.2 bt484.1 bt484.2).bind fun t493 => (if t493 = true then ((laws_toShardS.f k l3).bind fun t494 => ((laws_eqShardS.f k t487 t494).bind fun t497 => (if t497 = true then (some true) else (none)))) else (none)))))))) = some r := H
 have A5 := Aside0.mk A50
 clear A50
 by_cases c6 : t480 < 0
 ·rw [if_pos c6] at H
  have c6b0 : decide (t480 < 0) = true := decide_eq_true c6
  clear c6
  obtain rfl := Option.some.inj H
  go_enter Try.func14, Try.ntmps14
  go_wp2_with (first | ((with_reducible refine gate_callee (f := 55) rfl ?_); refine goesL_ (some 15) rfl rfl Try.func55 (by kernel_rfl) rfl #[.slice A3 l3.length c3, .int .i64 1048576] rfl Cy.ls ?_; (with_reducible refine (laws_szShardS.calls k _ _ l3 1048576 t480 _ ?side1 ?side2 A5.out).mono ?_); (case side1 => repeat (first | exact HR3.out | (with_reducible refine Kd.C_alloc ?_ _) | (with_reducible refine Kd.C_drewN ?_ _) | (with_reducible refine Kd.C_drew ?_))); (case side2 => exact HC3.out); rintro e w7 ⟨rfl, hb⟩; refine ⟨_, rfl, ?_⟩; replace HB := Aside0.mk (below_step (Cz.w HB.out) hb); (try clear hb); (try clear hb2); (try clear hk); (try clear hi)))
  go_ret
  exact ⟨by first | rfl | (simp [errW_none, errW_some] <;> rfl) | (simp [*, errW_none, errW_some] <;> rfl), Cz.w HB.out⟩
 ·rw [if_neg c6] at H
  have c6b0 : decide (t480 < 0) = false := decide_eq_false c6
  clear c6
  replace H := Option.bind_eq_some_iff.mp H
  obtain ⟨t481, A80, H⟩ := H
  replace H : ((spec_Decode.f k a0 a1 a2 t481).bind fun bt484 => ((laws_toShardS.f k l3).bind fun t487 => ((impl_Decode.f k a0 a1 a2 t487).bind fun bt490 => ((laws_eqDataOut.f bt490.1 bt490.2 bt484.1 bt484.2).bind fun t493 => (if t493 = true then ((laws_toShardS.f k l3).bind fun t494 => ((laws_eqShardS.f k t487 t494).bind fun t497 => (if t497 = true then (some true) else (none)))) else (none)))))) = some r := H
  have A8 := Aside0.mk A80
  clear A80
  replace H := Option.bind_eq_some_iff.mp H
  obtain ⟨⟨t484, t485⟩, A90, H⟩ := H
  replace H : ((laws_toShardS.f k l3).bind fun t487 => ((impl_Decode.f k a0 a1 a2 t487).bind fun bt490 => ((laws_eqDataOut.f bt490.1 bt490.2 t484 t485).bind fun t493 => (if t493 = true then ((laws_toShardS.f k l3).bind fun t494 => ((laws_eqShardS.f k t487 t494).bind fun t497 => (if t497 = true then (some true) else (none)))) else (none))))) = some r := H
  have A9 := Aside0.mk A90
  clear A90
  replace H := Option.bind_eq_some_iff.mp H
  obtain ⟨t487, A100, H⟩ := H
  replace H : ((impl_Decode.f k a0 a1 a2 t487).bind fun bt490 => ((laws_eqDataOut.f bt490.1 bt490.2 t484 t485).bind fun t493 => (if t493 = true then ((laws_toShardS.f k l3).bind fun t494 => ((laws_eqShardS.f k t487 t494).bind fun t497 => (if t497 = true then (some true) else (none)))) else (none)))) = some r := H
  have A10 := Aside0.mk A100
  clear A100
  replace H := Option.bind_eq_some_iff.mp H
  obtain ⟨⟨t490, t491⟩, A110, H⟩ := H
  replace H : ((laws_eqDataOut.f t490 t491 t484 t485).bind fun t493 => (if t493 = true then ((laws_toShardS.f k l3).bind fun t494 => ((laws_eqShardS.f k t487 t494).bind fun t497 => (if t497 = true then (some true) else (none)))) else (none))) = some r := H
  have A11 := Aside0.mk A110
  clear A110
  replace H := Option.bind_eq_some_iff.mp H
  obtain ⟨t493, A120, H⟩ := H
  replace H : (if t493 = true then ((laws_toShardS.f k l3).bind fun t494 => ((laws_eqShardS.f k t487 t494).bind fun t497 => (if t497 = true then (some true) else (none)))) else (none)) = some r := H
  have A12 := Aside0.mk A120
  clear A120
  by_cases c13 : t493 = true
  ·subst c13
   have H1 : ((laws_toShardS.f k l3).bind fun t494 => ((laws_eqShardS.f k t487 t494).bind fun t497 => (if t497 = true then (some true) else (none)))) = some r := by rw [if_pos rfl] at H; exact H
   clear H
   have H := H1
   clear H1
   replace H := Option.bind_eq_some_iff.mp H
   obtain ⟨t494, A140, H⟩ := H
   replace H : ((laws_eqShardS.f k t487 t494).bind fun t497 => (if t497 = true then (some true) else (none))) = some r := H
   have A14 := Aside0.mk A140
   clear A140
   replace H := Option.bind_eq_some_iff.mp H
   obtain ⟨t497, A150, H⟩ := H
   replace H : (if t497 = true then (some true) else (none)) = some r := H
   have A15 := Aside0.mk A150
   clear A150
   by_cases c16 : t497 = true
   ·subst c16
    have H1 : (some true) = some r := by rw [if_pos rfl] at H; exact H
    clear H
    have H := H1
    clear H1
    obtain rfl := Option.some.inj H
    go_enter Try.func14, Try.ntmps14
    go_wp2_with (first | ((with_reducible refine gate_callee (f := 55) rfl ?_); refine goesL_ (some 15) rfl rfl Try.func55 (by kernel_rfl) rfl #[.slice A3 l3.length c3, .int .i64 1048576] rfl Cy.ls ?_; (with_reducible refine (laws_szShardS.calls k _ _ l3 1048576 t480 _ ?side1 ?side2 A5.out).mono ?_); (case side1 => repeat (first | exact HR3.out | (with_reducible refine Kd.C_alloc ?_ _) | (with_reducible refine Kd.C_drewN ?_ _) | (with_reducible refine Kd.C_drew ?_))); (case side2 => exact HC3.out); rintro e w17 ⟨rfl, hb⟩; refine ⟨_, rfl, ?_⟩; replace HB := Aside0.mk (below_step (Cz.w HB.out) hb); (try clear hb); (try clear hb2); (try clear hk); (try clear hi)) | ((with_reducible refine gate_callee (f := 57) rfl ?_); refine goesL_ (some 22) rfl rfl Try.func57 (by kernel_rfl) rfl #[.slice A3 l3.length c3] rfl Cy.ls ?_; (with_reducible refine (laws_toShardS.calls k _ _ l3 t481 _ ?side1 ?side2 A8.out).mono ?_); (case side1 => exact Cz.c HR3.out HB.out); (case side2 => exact HC3.out); rintro e w18 ⟨v482, rfl, ho0, hb⟩; refine ⟨_, rfl, ?_⟩; have n_ := Cy.a2 (Kd.R_lower ho0 (below_size (Cz.w HB.out))) (below_step (Cz.w HB.out) hb); clear HB; obtain ⟨HO483, HB⟩ := n_; (try clear hb); (try clear hb2); (try clear hk); (try clear hi); (try clear ho0); obtain ⟨Ao19, co19, eo19⟩ := Kd.R_slice HO483.out; subst eo19) | ((with_reducible refine gate_callee (f := 61) rfl ?_); refine goesL_ (some 23) rfl rfl Try.func61 (by kernel_rfl) rfl #[.int .i64 a0, .int .i64 a1, .int .i64 a2, .slice Ao19 t481.length co19] rfl Cy.ls ?_; (with_reducible refine (spec_Decode.calls k a0 a1 a2 _ _ t481 t484 t485 _ ?side1 ?side2 A9.out).mono ?_); (case side1 => exact Cy.cd (Kd.R_reads' HO483.out).2.2); (case side2 => exact (Kd.R_reads' HO483.out).2.1); rintro e w20 ⟨rfl, hb⟩; refine ⟨_, rfl, ?_⟩; have n_ := Cy.a2 (Kd.R_below (Cz.r HO483.out) hb) (below_step (Cz.w HB.out) hb); clear HO483 HB; obtain ⟨HO483, HB⟩ := n_; (try clear hb); (try clear hb2); (try clear hk); (try clear hi)) | ((with_reducible refine gate_dst (N := 10) rfl ?_); refine box_event ?hg (N := 10) ?hd (cs := #[.string (⟨#[]⟩ : ByteArray), .int .i64 0]) (t := 75) ?hr ?_; (case hd => rfl); (case hg => rfl); (case hr => first | (go_simp; done) | (go_simp; rfl)); intro gb486 hg w21 hbox hb; have n_ := Cy.a5 (Kd.R_below (Cz.r HO483.out) hb) (below_step (Cz.w HB.out) hb) hbox (Cy.gw hg HB.out) (Cy.gw hg HB.out); clear HO483 HB; obtain ⟨HO483, HB, BK486, GW486, GE486⟩ := n_; clear hb hbox hg; obtain ⟨hcz22_0, hcz22_1, hfz22_0, hfz22_1⟩ := Cy.z2 BK486.out) | ((with_reducible refine gate_callee (f := 57) rfl ?_); refine goesL_ (some 25) rfl rfl Try.func57 (by kernel_rfl) rfl #[.slice A3 l3.length c3] rfl Cy.ls ?_; (with_reducible refine (laws_toShardS.calls k _ _ l3 t487 _ ?side1 ?side2 A10.out).mono ?_); (case side1 => exact Kd.C_below HR3.out (Cz.w HB.out)); (case side2 => exact HC3.out); rintro e w23 ⟨v488, rfl, ho0, hb⟩; refine ⟨_, rfl, ?_⟩; have n_ := Cy.a4 (Kd.R_elder' (Cz.q2 HO483.out BK486.out) (Kd.R_base ho0) hb) (Kd.R_lower (Kd.R_new' ho0 (Kd.R_lt (Cz.q2 HO483.out BK486.out))) (below_size (Cz.w HB.out))) (blk_below (g := gb486) (o := .cells #[.string t484, .int .i64 t485] 75 (0, 0)) (by (with_reducible repeat (first | refine blk_drewN ?_ _ | refine blk_drew ?_ | refine blk_alloc ?_ _)); refine blk_put (cs := #[.string t484, .int .i64 0]) ?_ 1 _ rfl; (with_reducible repeat (first | refine blk_drewN ?_ _ | refine blk_drew ?_ | refine blk_alloc ?_ _)); refine blk_put (cs := #[.string (⟨#[]⟩ : ByteArray), .int .i64 0]) ?_ 0 _ rfl; (with_reducible repeat (first | refine blk_drewN ?_ _ | refine blk_drew ?_ | refine blk_alloc ?_ _)); exact BK486.out) hb) (below_step (Cz.w HB.out) hb); clear HO483 BK486 HB; obtain ⟨HO483, HO489, BK486, HB⟩ := n_; (try clear hb); (try clear hb2); (try clear hk); (try clear hi); (try clear ho0); obtain ⟨Ao24, co24, eo24⟩ := Kd.R_slice HO489.out; subst eo24) | ((with_reducible refine gate_callee (f := 62) rfl ?_); refine goesL_ (some 30) rfl rfl Try.func62 (by kernel_rfl) rfl #[.int .i64 a0, .int .i64 a1, .int .i64 a2, .slice Ao24 t487.length co24] rfl Cy.ls ?_; (with_reducible refine (impl_Decode.calls k a0 a1 a2 _ _ t487 t490 t491 _ ?side1 ?side2 A11.out).mono ?_); (case side1 => exact Cy.cd (Kd.R_reads' HO489.out).2.2); (case side2 => exact (Kd.R_reads' HO489.out).2.1); rintro e w25 ⟨rfl, hb⟩; refine ⟨_, rfl, ?_⟩; have n_ := Cy.a4 (Kd.R_below (Cz.r HO483.out) hb) (Kd.R_below (Cz.r HO489.out) hb) (blk_below (g := gb486) (o := .cells #[.string t484, .int .i64 t485] 75 (0, 0)) (Cz.b BK486.out) hb) (below_step (Cz.w HB.out) hb); clear HO483 HO489 BK486 HB; obtain ⟨HO483, HO489, BK486, HB⟩ := n_; (try clear hb); (try clear hb2); (try clear hk); (try clear hi)) | ((with_reducible refine gate_dst (N := 12) rfl ?_); refine box_event ?hg (N := 12) ?hd (cs := #[.string (⟨#[]⟩ : ByteArray), .int .i64 0]) (t := 75) ?hr ?_; (case hd => rfl); (case hg => rfl); (case hr => first | (go_simp; done) | (go_simp; rfl)); intro gb492 hg w26 hbox hb; have n_ := Cy.a9 (Kd.R_below (Cz.r HO483.out) hb) (Kd.R_below (Cz.r HO489.out) hb) (blk_below (g := gb486) (o := .cells #[.string t484, .int .i64 t485] 75 (0, 0)) (Cz.b BK486.out) hb) (below_step (Cz.w HB.out) hb) hbox (Cy.gw hg HB.out) (Cy.gw hg HB.out) (by rw [hg]; exact Nat.ne_of_lt (blk_lt (g := gb486) (o := .cells #[.string t484, .int .i64 t485] 75 (0, 0)) (Cz.b BK486.out)) : gb486 ≠ gb492) (by rw [hg]; exact Nat.ne_of_gt (blk_lt (g := gb486) (o := .cells #[.string t484, .int .i64 t485] 75 (0, 0)) (Cz.b BK486.out)) : gb492 ≠ gb486); clear HO483 HO489 BK486 HB; obtain ⟨HO483, HO489, BK486, HB, BK492, GW492, GE492, NB486_492, NB492_486⟩ := n_; clear hb hbox hg; have hnb27 := NB492_486.out; have hnc27 := NB486_492.out; obtain ⟨hcz28_0, hcz28_1, hfz28_0, hfz28_1⟩ := Cy.z2 BK492.out; obtain ⟨hcz29_0, hcz29_1, hfz29_0, hfz29_1⟩ := Cy.z2 BK486.out) | ((with_reducible refine gate_callee (f := 63) rfl ?_); refine goesL_ (some 33) rfl rfl Try.func63 (by kernel_rfl) rfl #[.agg #[.string t490, .int .i64 t491], .agg #[.string t484, .int .i64 t485]] rfl Cy.ls ?_; (with_reducible refine (laws_eqDataOut.calls t490 t491 t484 t485 true _ A12.out).mono ?_); rintro e w30 ⟨rfl, hb⟩; refine ⟨_, rfl, ?_⟩; have n_ := Cy.a5 (Kd.R_below (Cz.q2 HO483.out BK492.out) hb) (Kd.R_below (Cz.q2 HO489.out BK492.out) hb) (blk_below (g := gb486) (o := .cells #[.string t484, .int .i64 t485] 75 (0, 0)) (Cz.f BK486.out NB486_492.out) hb) (blk_below (g := gb492) (o := .cells #[.string t490, .int .i64 t491] 75 (0, 0)) (by (with_reducible repeat (first | refine blk_drewN ?_ _ | refine blk_drew ?_ | refine blk_alloc ?_ _)); refine blk_put (cs := #[.string t490, .int .i64 0]) ?_ 1 _ rfl; (with_reducible repeat (first | refine blk_drewN ?_ _ | refine blk_drew ?_ | refine blk_alloc ?_ _)); refine blk_put (cs := #[.string (⟨#[]⟩ : ByteArray), .int .i64 0]) ?_ 0 _ rfl; (with_reducible repeat (first | refine blk_drewN ?_ _ | refine blk_drew ?_ | refine blk_alloc ?_ _)); exact BK492.out) hb) (below_step (Cz.w HB.out) hb); clear HO483 HO489 BK486 BK492 HB; obtain ⟨HO483, HO489, BK486, BK492, HB⟩ := n_; (try clear hb); (try clear hb2); (try clear hk); (try clear hi)) | ((with_reducible refine gate_callee (f := 57) rfl ?_); refine goesL_ (some 37) rfl rfl Try.func57 (by kernel_rfl) rfl #[.slice A3 l3.length c3] rfl Cy.ls ?_; (with_reducible refine (laws_toShardS.calls k _ _ l3 t494 _ ?side1 ?side2 A14.out).mono ?_); (case side1 => exact Cz.c HR3.out HB.out); (case side2 => exact HC3.out); rintro e w31 ⟨v495, rfl, ho0, hb⟩; refine ⟨_, rfl, ?_⟩; have n_ := Cy.a6 (Kd.R_elder' (Cz.r HO483.out) (Kd.R_base ho0) hb) (Kd.R_elder' (Cz.r HO489.out) (Kd.R_base ho0) hb) (Kd.R_lower (Kd.R_new' (Kd.R_new' ho0 (Kd.R_lt (Cz.r HO483.out))) (Kd.R_lt (Cz.r HO489.out))) (below_size (Cz.w HB.out))) (blk_below (g := gb486) (o := .cells #[.string t484, .int .i64 t485] 75 (0, 0)) (Cz.b BK486.out) hb) (blk_below (g := gb492) (o := .cells #[.string t490, .int .i64 t491] 75 (0, 0)) (Cz.b BK492.out) hb) (below_step (Cz.w HB.out) hb); clear HO483 HO489 BK486 BK492 HB; obtain ⟨HO483, HO489, HO496, BK486, BK492, HB⟩ := n_; (try clear hb); (try clear hb2); (try clear hk); (try clear hi); (try clear ho0); obtain ⟨Ao32, co32, eo32⟩ := Kd.R_slice HO496.out; subst eo32) | ((with_reducible refine gate_callee (f := 59) rfl ?_); refine goesL_ (some 38) rfl rfl Try.func59 (by kernel_rfl) rfl #[.slice Ao24 t487.length co24, .slice Ao32 t494.length co32] rfl Cy.ls ?_; (with_reducible refine (laws_eqShardS.calls k _ _ t487 _ _ t494 true _ ?side1 ?side2 ?side3 ?side4 A15.out).mono ?_); (case side1 => exact Cy.cd (Kd.R_reads' HO489.out).2.2); (case side2 => exact (Kd.R_reads' HO489.out).2.1); (case side3 => exact Cy.cd (Kd.R_reads' HO496.out).2.2); (case side4 => exact (Kd.R_reads' HO496.out).2.1); rintro e w33 ⟨rfl, hb⟩; refine ⟨_, rfl, ?_⟩; have n_ := Cy.a6 (Kd.R_below (Cz.r HO483.out) hb) (Kd.R_below (Cz.r HO489.out) hb) (Kd.R_below (Cz.r HO496.out) hb) (blk_below (g := gb486) (o := .cells #[.string t484, .int .i64 t485] 75 (0, 0)) (Cz.b BK486.out) hb) (blk_below (g := gb492) (o := .cells #[.string t490, .int .i64 t491] 75 (0, 0)) (Cz.b BK492.out) hb) (below_step (Cz.w HB.out) hb); clear HO483 HO489 HO496 BK486 BK492 HB; obtain ⟨HO483, HO489, HO496, BK486, BK492, HB⟩ := n_; (try clear hb); (try clear hb2); (try clear hk); (try clear hi)))
    go_ret
    exact ⟨by first | rfl | (simp [errW_none, errW_some] <;> rfl) | (simp [*, errW_none, errW_some] <;> rfl), Cz.w HB.out⟩
   ·replace c16 := Bool.eq_false_iff.mpr c16
    subst c16
    have H1 : (none) = some r := by rw [if_neg (show ¬ (false = true) by decide)] at H; exact H
    clear H
    have H := H1
    clear H1
    exact absurd H (by simp)
  ·replace c13 := Bool.eq_false_iff.mpr c13
   subst c13
   have H1 : (none) = some r := by rw [if_neg (show ¬ (false = true) by decide)] at H; exact H
   clear H
   have H := H1
   clear H1
   exact absurd H (by simp)
end Go.Proofs.Ytlololbhlnapkaa.XFnExactDecode

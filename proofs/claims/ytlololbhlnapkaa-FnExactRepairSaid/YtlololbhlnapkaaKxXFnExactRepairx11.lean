/- Plain functions of what the law reaches, proofs that the calls come to them, and the law's row: written by a program of this session (xprint.py) over the kit's print. No conditions beyond each lemma's own. -/
import Derived.Test.YtlololbhlnapkaaKxCy
import Derived.Test.YtlololbhlnapkaaKxXFnExactRepairx0
import Derived.Test.YtlololbhlnapkaaKxXFnExactRepairx10
namespace Go.Proofs.Ytlololbhlnapkaa.XFnExactRepair
open Go.RowKit Go.Proofs.YtlololbhlnapkaaW.PrintWords Go.Proofs.YtlololbhlnapkaaW.PrintLast Go.Proofs.YtlololbhlnapkaaW.PrintMore
attribute [local go_sem] max2_int min2_int max_two min_two max_three min_three max_four min_four   -- for this text's walks alone
set_option linter.unusedVariables false
set_option linter.unusedSimpArgs false
def impl_pow.l0 : Nat → Int → Int → Int → Option (Int)
  | 0, _, _, _ => none
  | k + 1, x0, x1, x5 => if x1 > 0 then (if (Go.bits .and .i64 x1 1) = 1 then ((impl_mul.f k x5 x0).bind fun t348 => ((impl_mul.f k x0 x0).bind fun t349 => (impl_pow.l0 k t349 (x1 / 2) t348))) else ((impl_mul.f k x0 x0).bind fun t350 => (impl_pow.l0 k t350 (x1 / 2) x5))) else (some x5)
def impl_pow.f (k : Nat) (a0 : Int) (a1 : Int) : Option (Int) := impl_pow.l0 k a0 a1 1
set_option maxHeartbeats 8000000 in
set_option maxRecDepth 100000 in
theorem impl_pow.calls (k : Nat) (a0 : Int) (a1 : Int) (r : Int) (w : World) (h : impl_pow.f k a0 a1 = some r) :
  Calls Try.prog 143 #[.int .i64 a0, .int .i64 a1] w fun e w' => e = .returned (.int .i64 r) ∧ Drawn0 w w' := by
 have H : (impl_pow.l0 k a0 a1 1) = some r := h
 clear h
 have H' := Aside0.mk H
 clear H
 go_enter Try.func143, Try.ntmps143
 go_wp2
 go_loopg [0, 1, 5] k (fun kq v0 v1 v5 w' => ∃ (x0_1 : Int) (x1_1 : Int) (x5_1 : Int), v0 = .int .i64 x0_1 ∧ v1 = .int .i64 x1_1 ∧ v5 = .int .i64 x5_1 ∧ Aside0 (impl_pow.l0 kq x0_1 x1_1 x5_1 = some r) ∧ Aside0 (kq ≤ k) ∧ Drawn0 w w')
 case atStart => exact ⟨(a0), (a1), (1), (by first | rfl | (simp; done) | (simp [*]; done)), (by first | rfl | (simp; done) | (simp [*]; done)), (by first | rfl | (simp; done) | (simp [*]; done)), H', ⟨Nat.le_refl _⟩, by repeat (first | exact Drawn0.refl _ | apply Drawn0.step)⟩
 case round =>
  clear H'
  try clear c1
  try clear p2
  obtain ⟨x0_1, x1_1, x5_1, rfl, rfl, rfl, HA, HK1, ⟨m1, rfl⟩⟩ := hrel
  cases gk with
  | zero => exact absurd HA.out (by simp [impl_pow.l0])
  | succ k1 =>
   have H := HA.out
   clear HA
   simp only [impl_pow.l0] at H
   by_cases c3 : x1_1 > 0
   ·rw [if_pos c3] at H
    have c3b0 : decide (0 < x1_1) = true := decide_eq_true c3
    clear c3
    by_cases c4 : (Go.bits .and .i64 x1_1 1) = 1
    ·rw [if_pos c4] at H
     have c4b0 : ((Go.bits .and .i64 x1_1 1) == 1) = true := beq_iff_eq.mpr c4
     have c4b1 : ((Go.bits .and .i64 x1_1 1) != 1) = false := bne_eq_false_iff_eq.mpr c4
     clear c4
     replace H := Option.bind_eq_some_iff.mp H
     obtain ⟨t348, A50, H⟩ := H
     replace H : ((impl_mul.f k1 x0_1 x0_1).bind fun t349 => (impl_pow.l0 k1 t349 (x1_1 / 2) t348)) = some r := H
     have A5 := Aside0.mk A50
     clear A50
     replace H := Option.bind_eq_some_iff.mp H
     obtain ⟨t349, A60, H⟩ := H
     replace H : (impl_pow.l0 k1 t349 (x1_1 / 2) t348) = some r := H
     have A6 := Aside0.mk A60
     clear A60
     have H' := Aside0.mk H
     clear H
     go_wp2_with (first | ((with_reducible refine gate_callee (f := 132) rfl ?_); refine goesL_ (some 15) rfl rfl Try.func132 (by kernel_rfl) rfl #[.int .i64 x5_1, .int .i64 x0_1] rfl (by (try simp only [List.map_toArray, List.map_cons, List.map_nil]); first | done | rfl | (simp only [List.length_drop, List.length_take]; rfl)) ?_; (with_reducible refine (impl_mul.calls k1 x5_1 x0_1 t348 _ A5.out).mono ?_); rintro e w' ⟨rfl, ⟨nd, rfl⟩⟩; refine ⟨_, rfl, ?_⟩) | ((with_reducible refine gate_callee (f := 132) rfl ?_); refine goesL_ (some 18) rfl rfl Try.func132 (by kernel_rfl) rfl #[.int .i64 x0_1, .int .i64 x0_1] rfl (by (try simp only [List.map_toArray, List.map_cons, List.map_nil]); first | done | rfl | (simp only [List.length_drop, List.length_take]; rfl)) ?_; (with_reducible refine (impl_mul.calls k1 x0_1 x0_1 t349 _ A6.out).mono ?_); rintro e w' ⟨rfl, ⟨nd, rfl⟩⟩; refine ⟨_, rfl, ?_⟩))
     go_roundg k1
     case measure => have := HK1.out; omega
     case rel => exact ⟨(t349), (x1_1 / 2), (t348), (by first | rfl | (simp; done) | (simp [*]; done)), (by first | rfl | (simp; done) | (simp [*]; done)), (by first | rfl | (simp; done) | (simp [*]; done)), H', ⟨by have := HK1.out; omega⟩, by repeat (first | exact Drawn0.refl _ | apply Drawn0.step)⟩
    ·rw [if_neg c4] at H
     have c4b0 : ((Go.bits .and .i64 x1_1 1) == 1) = false := beq_eq_false_iff_ne.mpr c4
     have c4b1 : ((Go.bits .and .i64 x1_1 1) != 1) = true := bne_iff_ne.mpr c4
     replace H := Option.bind_eq_some_iff.mp H
     obtain ⟨t350, A70, H⟩ := H
     replace H : (impl_pow.l0 k1 t350 (x1_1 / 2) x5_1) = some r := H
     have A7 := Aside0.mk A70
     clear A70
     have H' := Aside0.mk H
     clear H
     go_wp2_with (first | ((with_reducible refine gate_callee (f := 132) rfl ?_); refine goesL_ (some 18) rfl rfl Try.func132 (by kernel_rfl) rfl #[.int .i64 x0_1, .int .i64 x0_1] rfl (by (try simp only [List.map_toArray, List.map_cons, List.map_nil]); first | done | rfl | (simp only [List.length_drop, List.length_take]; rfl)) ?_; (with_reducible refine (impl_mul.calls k1 x0_1 x0_1 t350 _ A7.out).mono ?_); rintro e w' ⟨rfl, ⟨nd, rfl⟩⟩; refine ⟨_, rfl, ?_⟩))
     go_roundg k1
     case measure => have := HK1.out; omega
     case rel => exact ⟨(t350), (x1_1 / 2), (x5_1), (by first | rfl | (simp; done) | (simp [*]; done)), (by first | rfl | (simp; done) | (simp [*]; done)), (by first | rfl | (simp; done) | (simp [*]; done)), H', ⟨by have := HK1.out; omega⟩, by repeat (first | exact Drawn0.refl _ | apply Drawn0.step)⟩
   ·rw [if_neg c3] at H
    have c3b0 : decide (0 < x1_1) = false := decide_eq_false c3
    clear c3
    obtain rfl := Option.some.inj H
    go_wp2
    go_ret
    exact ⟨by first | rfl | (simp; done) | (simp [*]; done), by repeat (first | exact Drawn0.refl _ | apply Drawn0.step)⟩
def impl_inv.f (k : Nat) (a0 : Int) : Option (Int) := (impl_pow.f k a0 254).bind fun t351 => (some t351)
set_option maxHeartbeats 8000000 in
set_option maxRecDepth 100000 in
theorem impl_inv.calls (k : Nat) (a0 : Int) (r : Int) (w : World) (h : impl_inv.f k a0 = some r) :
  Calls Try.prog 122 #[.int .i64 a0] w fun e w' => e = .returned (.int .i64 r) ∧ Drawn0 w w' := by
 have H : ((impl_pow.f k a0 254).bind fun t351 => (some t351)) = some r := h
 clear h
 replace H := Option.bind_eq_some_iff.mp H
 obtain ⟨t351, A20, H⟩ := H
 replace H : (some t351) = some r := H
 have A2 := Aside0.mk A20
 clear A20
 obtain rfl := Option.some.inj H
 go_enter Try.func122, Try.ntmps122
 go_wp2_with (first | ((with_reducible refine gate_callee (f := 143) rfl ?_); refine goesL_ (some 4) rfl rfl Try.func143 (by kernel_rfl) rfl #[.int .i64 a0, .int .i64 254] rfl (by (try simp only [List.map_toArray, List.map_cons, List.map_nil]); first | done | rfl | (simp only [List.length_drop, List.length_take]; rfl)) ?_; (with_reducible refine (impl_pow.calls k a0 254 t351 _ A2.out).mono ?_); rintro e w' ⟨rfl, ⟨nd, rfl⟩⟩; refine ⟨_, rfl, ?_⟩))
 go_ret
 exact ⟨by first | rfl | (simp; done) | (simp [*]; done), by repeat (first | exact Drawn0.refl _ | apply Drawn0.step)⟩
def slices_Grow_int64_int64.f (a0 : Int) : Option (List Int) := if 0 ≤ a0 then (if a0 ≤ 1000000000 then some [] else none) else none
theorem slices_Grow_int64_int64.calls (a0 : Int) (r1 : List Int) (w : World) (h : slices_Grow_int64_int64.f a0 = some r1) :
  Calls Try.prog 145 #[.slice none 0 0, .int .i64 a0] w fun e w' => ∃ v0_ : Value, e = .returned v0_ ∧ Kd.R (Kd.int .i64) 2 w' w.heap.size (fun _ => True) v0_ r1 ∧ Below w.heap.size w w' := by
 unfold slices_Grow_int64_int64.f at h
 by_cases h0 : 0 ≤ a0
 ·rw [if_pos h0] at h
  by_cases h1 : a0 ≤ 1000000000
  ·rw [if_pos h1] at h
   obtain rfl := Option.some.inj h
   exact Mx.grow_calls a0 h0 h1 w
  ·rw [if_neg h1] at h
   cases h
 ·rw [if_neg h0] at h
  cases h
mutual
def slices_Concat_int64_int64.l0 : Nat → List (List Int) → Int → List (List Int) → Int → Int → Option (List Int)
 | 0, _, _, _, _, _ => none
 | k + 1, x0, x3, x9, x10, x11 => if x11 < x10 then (if 0 ≤ x11 then (if x11 < (x9.length : Int) then (if (wrap64 (x3 + ((rd_L6 x9 x11).length : Int))) < 0 then (none) else (slices_Concat_int64_int64.l0 k x0 (wrap64 (x3 + ((rd_L6 x9 x11).length : Int))) x9 x10 (wrap64 (x11 + 1)))) else (none)) else (none)) else ((slices_Grow_int64_int64.f x3).bind fun t353 => (slices_Concat_int64_int64.l1 k t353 x0 (x0.length : Int) 0))
def slices_Concat_int64_int64.l1 : Nat → List Int → List (List Int) → Int → Int → Option (List Int)
 | 0, _, _, _, _ => none
 | k + 1, x6, x25, x26, x27 => if x27 < x26 then (if 0 ≤ x27 then (if x27 < (x25.length : Int) then (if x6.length + (rd_L6 x25 x27).length < 17592186044416 then (slices_Concat_int64_int64.l1 k (x6 ++ (rd_L6 x25 x27)) x25 x26 (wrap64 (x27 + 1))) else (none)) else (none)) else (none)) else (some x6)
end
def slices_Concat_int64_int64.f (k : Nat) (l0 : List (List Int)) : Option (List Int) := slices_Concat_int64_int64.l0 k l0 0 l0 (l0.length : Int) 0
set_option maxHeartbeats 8000000 in
set_option maxRecDepth 100000 in
theorem slices_Concat_int64_int64.calls (k : Nat) (A0 : Option Addr) (c0 : Nat) (l0 : List (List Int)) (r : List Int) (w : World) (hr0 : Kd.C (Kd.slice 2 (Kd.int .i64)) w A0 l0.length l0) (hc0 : l0.length ≤ c0) (h : slices_Concat_int64_int64.f k l0 = some r) :
  Calls Try.prog 127 #[.slice A0 l0.length c0] w fun e w' => ∃ v0_ : Value, e = .returned (v0_) ∧ Kd.R (Kd.int .i64) 2 w' w.heap.size (fun _ => True) v0_ r ∧ Below w.heap.size w w' := by
 have HR0 := Aside0.mk hr0
 have HC0 := Aside0.mk hc0
 clear hr0 hc0
 have HB := Aside0.mk (Below.refl w.heap.size w)
 have H : (slices_Concat_int64_int64.l0 k l0 0 l0 (l0.length : Int) 0) = some r := h
 clear h
 have H' := Aside0.mk H
 clear H
 go_enter Try.func127, Try.ntmps127
 go_wp2
 go_loopg [3, 11] k (fun kq v3 v11 w' => ∃ (x3_1 : Int) (x11_1 : Int), v3 = .int .i64 x3_1 ∧ v11 = .int .i64 x11_1 ∧ Aside0 (slices_Concat_int64_int64.l0 kq l0 x3_1 l0 (l0.length : Int) x11_1 = some r) ∧ Aside0 (kq ≤ k) ∧ Aside0 (Below w.heap.size w w'))
 case atStart => exact ⟨(0), (0), (by first | rfl | (simp; done) | (simp [*]; done)), (by first | rfl | (simp; done) | (simp [*]; done)), H', ⟨Nat.le_refl _⟩, ⟨Cz.w HB.out⟩⟩
 case round =>
  clear H'
  try clear c1
  obtain ⟨x3_1, x11_1, rfl, rfl, HA, HK1, HB⟩ := hrel
  cases gk with
  | zero => exact absurd HA.out (by simp [slices_Concat_int64_int64.l0])
  | succ k1 =>
   have H := HA.out
   clear HA
   simp only [slices_Concat_int64_int64.l0] at H
   by_cases c2 : x11_1 < (l0.length : Int)
   ·rw [if_pos c2] at H
    have c2b0 : decide (x11_1 < (l0.length : Int)) = true := decide_eq_true c2
    clear c2
    by_cases c3 : 0 ≤ x11_1
    ·rw [if_pos c3] at H
     have c3b0 : decide (0 ≤ x11_1) = true := decide_eq_true c3
     clear c3
     by_cases c4 : x11_1 < (l0.length : Int)
     ·rw [if_pos c4] at H
      have c4b0 : decide (x11_1 < (l0.length : Int)) = true := decide_eq_true c4
      clear c4
      by_cases c5 : (wrap64 (x3_1 + ((rd_L6 l0 x11_1).length : Int))) < 0
      ·rw [if_pos c5] at H
       exact absurd H (by simp)
      ·rw [if_neg c5] at H
       have c5b0 : decide ((wrap64 (x3_1 + ((rd_L6 l0 x11_1).length : Int))) < 0) = false := decide_eq_false c5
       clear c5
       have H' := Aside0.mk H
       clear H
       have p352 : 0 ≤ (x11_1 : Int) := of_decide_eq_true (by first | (with_reducible assumption) | assumption)
       have q352 : x11_1 < (l0.length : Int) := of_decide_eq_true (by first | (with_reducible assumption) | assumption)
       obtain ⟨ad352, A352_0, c352_0, e352, hx352_0, hl352_0, hi352_0⟩ := at_L6 HR0.out x11_1 p352 q352
       cases e352
       replace hx352_0 := (HB.out.cell (World.block_lt_of_cell? w _ hx352_0)).trans hx352_0
       have HR352_0 := Aside0.mk hi352_0
       have HC352_0 := Aside0.mk hl352_0
       clear hi352_0 hl352_0
       replace p352 := eq_true p352
       replace q352 := eq_true q352
       go_wp2
       go_roundg k1
       case measure => have := HK1.out; omega
       case rel => exact ⟨(wrap64 (x3_1 + ((rd_L6 l0 x11_1).length : Int))), (wrap64 (x11_1 + 1)), (by first | rfl | (simp; done) | (simp [*]; done)), (by first | rfl | (simp; done) | (simp [*]; done)), H', ⟨by have := HK1.out; omega⟩, ⟨Cz.w HB.out⟩⟩
     ·rw [if_neg c4] at H
      exact absurd H (by simp)
    ·rw [if_neg c3] at H
     exact absurd H (by simp)
   ·rw [if_neg c2] at H
    have c2b0 : decide (x11_1 < (l0.length : Int)) = false := decide_eq_false c2
    clear c2
    replace H := Option.bind_eq_some_iff.mp H
    obtain ⟨t353, A60, H⟩ := H
    replace H : (slices_Concat_int64_int64.l1 k1 t353 l0 (l0.length : Int) 0) = some r := H
    have A6 := Aside0.mk A60
    clear A60
    have H' := Aside0.mk H
    clear H
    go_wp2_with (first | ((with_reducible refine gate_callee (f := 145) rfl ?_); refine goesL_ (some 24) rfl rfl Try.func145 (by kernel_rfl) rfl #[.slice none 0 0, .int .i64 x3_1] rfl (by (try simp only [List.map_toArray, List.map_cons, List.map_nil]); first | done | rfl | (simp only [List.length_drop, List.length_take]; rfl)) ?_; (with_reducible refine (slices_Grow_int64_int64.calls x3_1 t353 _ A6.out).mono ?_); rintro e w7 ⟨v354, rfl, ho0, hb⟩; refine ⟨_, rfl, ?_⟩; have n_ := Cy.a2 (Kd.R_lower ho0 (below_size (Cz.w HB.out))) (below_step (Cz.w HB.out) hb); clear HB; obtain ⟨HO355, HB⟩ := n_; (try clear hb); (try clear hb2); (try clear hk); (try clear hi); (try clear ho0)))
    go_loopg [6, 27] k1 (fun kq v6 v27 w' => ∃ (x6_2 : List Int) (x27_2 : Int), v27 = .int .i64 x27_2 ∧ Aside0 (slices_Concat_int64_int64.l1 kq x6_2 l0 (l0.length : Int) x27_2 = some r) ∧ Aside0 (kq ≤ k1) ∧ Aside0 (Kd.R (Kd.int .i64) 2 w' w.heap.size (fun _ => True) v6 x6_2) ∧ Aside0 (Below w.heap.size w w'))
    case atStart => exact ⟨(t353), (0), (by first | rfl | (simp; done) | (simp [*]; done)), H', ⟨Nat.le_refl _⟩, ⟨Cz.r HO355.out⟩, ⟨Cz.w HB.out⟩⟩
    case round =>
     clear H'
     try clear c1
     try clear c2
     try clear c2b0
     try clear p2
     try clear c3
     try clear c3b0
     try clear p3
     try clear q3
     try clear hx3
     try clear c4
     try clear c4b0
     try clear c5
     try clear c5b0
     try clear p6
     try clear hx352_0
     try clear p352
     try clear q352
     obtain ⟨x6_2, x27_2, rfl, HA, HK2, HO_6, HB⟩ := hrel
     cases gk with
     | zero => exact absurd HA.out (by simp [slices_Concat_int64_int64.l1])
     | succ k2 =>
      have H := HA.out
      clear HA
      simp only [slices_Concat_int64_int64.l1] at H
      by_cases c8 : x27_2 < (l0.length : Int)
      ·rw [if_pos c8] at H
       have c8b0 : decide (x27_2 < (l0.length : Int)) = true := decide_eq_true c8
       clear c8
       by_cases c9 : 0 ≤ x27_2
       ·rw [if_pos c9] at H
        have c9b0 : decide (0 ≤ x27_2) = true := decide_eq_true c9
        clear c9
        by_cases c10 : x27_2 < (l0.length : Int)
        ·rw [if_pos c10] at H
         have c10b0 : decide (x27_2 < (l0.length : Int)) = true := decide_eq_true c10
         clear c10
         by_cases c11 : x6_2.length + (rd_L6 l0 x27_2).length < 17592186044416
         ·rw [if_pos c11] at H
          have LMc11 := Aside0.mk c11
          clear c11
          obtain ⟨y357, hy357⟩ : ∃ y_ : List Int, y_ = (x6_2 ++ (rd_L6 l0 x27_2)) := ⟨_, rfl⟩
          replace H : (slices_Concat_int64_int64.l1 k2 y357 l0 (l0.length : Int) (wrap64 (x27_2 + 1))) = some r := by first | (rw [hy357]; with_reducible exact H) | (have H2_ := (Option.bind_some _ _).symm.trans H; rw [hy357]; with_reducible exact H2_) | (have H2_ := (Option.bind_some _ _).symm.trans H; with_reducible exact H2_) | with_reducible exact H | (rw [hy357]; exact H) | exact H
          have Ny357 := Aside0.mk hy357
          clear hy357
          have H' := Aside0.mk H
          clear H
          have p356 : 0 ≤ (x27_2 : Int) := of_decide_eq_true (by first | (with_reducible assumption) | assumption)
          have q356 : x27_2 < (l0.length : Int) := of_decide_eq_true (by first | (with_reducible assumption) | assumption)
          obtain ⟨ad356, A356_0, c356_0, e356, hx356_0, hl356_0, hi356_0⟩ := at_L6 HR0.out x27_2 p356 q356
          cases e356
          replace hx356_0 := (HB.out.cell (World.block_lt_of_cell? w _ hx356_0)).trans hx356_0
          have HR356_0 := Aside0.mk hi356_0
          have HC356_0 := Aside0.mk hl356_0
          clear hi356_0 hl356_0
          replace p356 := eq_true p356
          replace q356 := eq_true q356
          go_wp2_with (first | ((with_reducible refine gate_builtin (b := .append) (xs := #[.tmp 31, .tmp 32]) rfl ?_); at_builtin; refine Kd.R_append_rows (Kd.int .i64) (w0 := w) w.heap.size rfl (.tmp 31) (.tmp 32) 22 2 (.int .i64 0) 8 rfl Try.underlying22 info2 rfl (by decide) (by omega) u6 x6_2 (rd_L6 l0 x27_2) _ _ _ (fun _ => True) (fun _ => False) rfl rfl ?aO ?aR (fun _ _ h => h) (fun _ h => h.elim) ?aF ?aB ?aS ?aL ?_; (case aR => exact Cz.c HR356_0.out HB.out); (case aB => exact (Cz.w HB.out)); (case aF => exact (fun _ _ => trivial)); (case aO => exact (Cz.r HO_6.out)); (case aS => exact (below_size (Cz.w HB.out))); (case aL => have := LMc11.out; omega); intro v358 w12 ho hb hg hat; rw [← Ny357.out] at ho; have n_ := Cy.a2 hb ho; clear HB HO_6; obtain ⟨HB, HO359⟩ := n_; clear ho hb hg hat))
          go_roundg k2
          case measure => have := HK1.out; have := HK2.out; omega
          case rel => exact ⟨(y357), (wrap64 (x27_2 + 1)), (by first | rfl | (simp; done) | (simp [*]; done)), H', ⟨by have := HK1.out; have := HK2.out; omega⟩, ⟨Cz.r HO359.out⟩, ⟨Cz.w HB.out⟩⟩
         ·rw [if_neg c11] at H
          exact absurd H (by simp)
        ·rw [if_neg c10] at H
         exact absurd H (by simp)
       ·rw [if_neg c9] at H
        exact absurd H (by simp)
      ·rw [if_neg c8] at H
       have c8b0 : decide (x27_2 < (l0.length : Int)) = false := decide_eq_false c8
       clear c8
       obtain rfl := Option.some.inj H
       go_wp2
       go_ret
       exact ⟨_, by first | rfl | (simp [errW_none, errW_some] <;> rfl) | (simp [*, errW_none, errW_some] <;> rfl), Cz.r HO_6.out, Cz.w HB.out⟩
def impl_size_int64_144.f (l0 : List (List Int)) : Option (Int) := some (l0.length : Int)
set_option maxHeartbeats 8000000 in
set_option maxRecDepth 100000 in
theorem impl_size_int64_144.calls (A0 : Option Addr) (c0 : Nat) (l0 : List (List Int)) (r : Int) (w : World) (hr0 : Kd.C (Kd.slice 2 (Kd.int .i64)) w A0 l0.length l0) (hc0 : l0.length ≤ c0) (h : impl_size_int64_144.f l0 = some r) :
  Calls Try.prog 144 #[.slice A0 l0.length c0] w fun e w' => e = .returned (.int .i64 r) ∧ Drawn0 w w' := by
 have HR0 := Aside0.mk hr0
 have HC0 := Aside0.mk hc0
 clear hr0 hc0
 have H : (some (l0.length : Int)) = some r := h
 clear h
 obtain rfl := Option.some.inj H
 go_enter Try.func144, Try.ntmps144
 go_wp2
 go_ret
 exact ⟨by first | rfl | (simp; done) | (simp [*]; done), by repeat (first | exact Drawn0.refl _ | apply Drawn0.step)⟩
def impl_matrixOf.f (k : Nat) (l0 : List (List Int)) : Option (Int × Int × List Int) := (impl_size_int64_144.f l0).bind fun t361 => (if 0 < (l0.length : Int) then ((impl_size_int64_67.f (rd_L6 l0 0)).bind fun t363 => ((slices_Concat_int64_int64.f k l0).bind fun t364 => (some (t361, t363, t364)))) else (none))
def impl_matrixOf.T1 : Bool × List (List Nat × List Nat) := (true, [([], []), ([0], [0]), ([], []), ([2], [2]), ([3], [3]), ([4, 1], [4]), ([], []), ([6, 5], [6]), ([1, 5, 7], [1, 5, 7]), ([8, 7, 0, 1, 2, 3, 4, 5, 6, 7, 8], [8])])
def impl_matrixOf.B1 : List Nat := [0, 1, 0, 4, 12, 31, 0, 127, 255, 511]
theorem impl_matrixOf.tab1 : rtab .any (opsOf Try.f123 1) = impl_matrixOf.T1 := by kernel_rfl
theorem impl_matrixOf.bits1 : waitsOk impl_matrixOf.T1.2 impl_matrixOf.B1 = true := by kernel_rfl
set_option maxHeartbeats 8000000 in
set_option maxRecDepth 100000 in
theorem impl_matrixOf.calls (k : Nat) (A0 : Option Addr) (c0 : Nat) (l0 : List (List Int)) (r1 : Int) (r2 : Int) (r3 : List Int) (w : World) (hr0 : Kd.C (Kd.slice 2 (Kd.int .i64)) w A0 l0.length l0) (hc0 : l0.length ≤ c0) (h : impl_matrixOf.f k l0 = some (r1, r2, r3)) :
  Calls Try.prog 123 #[.slice A0 l0.length c0] w fun e w' => ∃ v2_ : Value, e = .returned (.agg #[.int .i64 r1, .int .i64 r2, v2_]) ∧ Kd.R (Kd.int .i64) 2 w' w.heap.size (fun _ => True) v2_ r3 ∧ Below w.heap.size w w' := by
 have hu27 := Try.underlying27
 have HR0 := Aside0.mk hr0
 have HC0 := Aside0.mk hc0
 clear hr0 hc0
 have HB := Aside0.mk (Below.refl w.heap.size w)
 have H : ((impl_size_int64_144.f l0).bind fun t361 => (if 0 < (l0.length : Int) then ((impl_size_int64_67.f (rd_L6 l0 0)).bind fun t363 => ((slices_Concat_int64_int64.f k l0).bind fun t364 => (some (t361, t363, t364)))) else (none))) = some (r1, r2, r3) := h
 clear h
 replace H := Option.bind_eq_some_iff.mp H
 obtain ⟨t361, A20, H⟩ := H
 replace H : (if 0 < (l0.length : Int) then ((impl_size_int64_67.f (rd_L6 l0 0)).bind fun t363 => ((slices_Concat_int64_int64.f k l0).bind fun t364 => (some (t361, t363, t364)))) else (none)) = some (r1, r2, r3) := H
 have A2 := Aside0.mk A20
 clear A20
 by_cases c3 : 0 < (l0.length : Int)
 ·rw [if_pos c3] at H
  have c3b0 : decide (0 < (l0.length : Int)) = true := decide_eq_true c3
  have c3b1 : decide (0 < l0.length) = true := decide_eq_true (by omega)
  clear c3
  replace H := Option.bind_eq_some_iff.mp H
  obtain ⟨t363, A40, H⟩ := H
  replace H : ((slices_Concat_int64_int64.f k l0).bind fun t364 => (some (t361, t363, t364))) = some (r1, r2, r3) := H
  have A4 := Aside0.mk A40
  clear A40
  replace H := Option.bind_eq_some_iff.mp H
  obtain ⟨t364, A50, H⟩ := H
  replace H : (some (t361, t363, t364)) = some (r1, r2, r3) := H
  have A5 := Aside0.mk A50
  clear A50
  simp only [Option.some.injEq, Prod.mk.injEq] at H
  obtain ⟨rfl, rfl, rfl⟩ := H
  go_enter Try.func123, Try.ntmps123
  try go_wp2_with (first | ((with_reducible refine gate_dst (N := 2) rfl ?_); refine box_event ?hg (N := 2) ?hd (cs := #[.int .i64 0, .int .i64 0, .slice none 0 0]) (t := 27) ?hr ?_; (case hd => rfl); (case hg => rfl); (case hr => first | (go_simp; done) | (go_simp; rfl)); intro gb360 hg w6 hbox hb; have n_ := Cy.a4 (below_step (Cz.w HB.out) hb) hbox (Cy.gw hg HB.out) (Cy.gw hg HB.out); clear HB; obtain ⟨HB, BK360, GW360, GE360⟩ := n_; clear hb hbox hg))
  have n_ := Cy.a2 (blk_drew BK360.out) (below_drew1 HB.out)
  clear BK360 HB
  obtain ⟨BK360, HB⟩ := n_
  have p362 : 0 ≤ (0 : Int) := (by omega)
  have q362 : 0 < (l0.length : Int) := of_decide_eq_true (by first | (with_reducible assumption) | assumption)
  obtain ⟨ad362, A362_0, c362_0, e362, hx362_0, hl362_0, hi362_0⟩ := at_L6 HR0.out 0 p362 q362
  have hw362_0 := hx362_0
  (try rw [show ((0 : Int)).toNat = 0 from rfl] at hw362_0)
  (try rw [show 0 * 1 = 0 from rfl] at hw362_0)
  (try rw [Addr.add_zero'] at hw362_0)
  cases e362
  have qi362 : (0 < l0.length) = True := eq_true (by omega)
  (try rw [show ((0 : Int)).toNat = 0 from rfl] at hx362_0)
  (try rw [Addr.add_zero'] at hx362_0)
  replace hx362_0 := (HB.out.cell (World.block_lt_of_cell? w _ hx362_0)).trans hx362_0
  have HR362_0 := Aside0.mk hi362_0
  have HC362_0 := Aside0.mk hl362_0
  clear hi362_0 hl362_0
  replace p362 := eq_true p362
  replace q362 := eq_true q362
  refine start_ (n := 10) (S := fun w' => w'.cell? ad362 = some (.slice A362_0 (rd_L6 l0 0).length c362_0)) (ds := []) #[false, false, false, false, false, false, false, false, false, false] (by kernel_rfl) rfl rfl (((HB.out.cell (World.block_lt_of_cell? w _ hw362_0)).trans hw362_0)) (fun hHeld => ?_); refine with_tabW impl_matrixOf.tab1 impl_matrixOf.bits1 (fun HT_ HW_ => ?_)
  generalize w6.drew = w7 at BK360 HB HR362_0 hx362_0 hHeld ⊢
  refine Cy.pu 0 3 HT_ ?_
  refine Cy.pu 2 5 HT_ ?_
  refine Cy.pu 3 6 HT_ ?_
  refine Cy.pu 6 9 HT_ ?_
  refine Cy.tk 4 7 HT_ HW_ hHeld ?_
  refine one_ (i := 1) (N := some 4) #[true, true, true, true, true, false, true, false, false, false] rfl rfl (one_of HT_.out (by kernel_rfl)) (by decide) (fun K hK => ?_)
  refine goes_ Try.func144 (by kernel_rfl) rfl #[.slice (some ad362) l0.length c0] (by rfl) rfl rfl (by (try simp only [List.map_toArray, List.map_cons, List.map_nil]); first | done | rfl | (simp only [List.length_drop, List.length_take]; rfl)) ?_
  with_reducible refine (impl_size_int64_144.calls _ _ l0 t361 _ ?side1 ?side2 A2.out).mono ?_
  (case side1 => exact Cz.c HR0.out HB.out)
  (case side2 => exact HC0.out)
  rintro e w' ⟨rfl, ⟨nd, rfl⟩⟩
  refine ⟨_, rfl, ?_⟩
  refine hK.out _ _ (((HB.out.cell (World.block_lt_of_cell? w _ hw362_0)).trans hw362_0)) (fun hHeld => ?_)
  clear hK K
  refine norm_ (a' := ?_) ?_ ?_
  rotate_left
  ·show Act.put _ (some 4) _ = _
   simp only [Act.put, List.setIfInBounds_toArray, List.set_cons_zero, List.set_cons_succ, i64_w, i32_w]
   rfl
  refine one_ (i := 5) (N := some 8) #[true, true, true, true, true, true, true, false, false, false] rfl rfl (one_of HT_.out (by kernel_rfl)) (by decide) (fun K hK => ?_)
  refine goes_ Try.func67 (by kernel_rfl) rfl #[.slice A362_0 (rd_L6 l0 0).length c362_0] (by rfl) rfl rfl (by (try simp only [List.map_toArray, List.map_cons, List.map_nil]); first | done | rfl | (simp only [List.length_drop, List.length_take]; rfl)) ?_
  with_reducible refine (impl_size_int64_67.calls _ _ (rd_L6 l0 0) t363 _ ?side1 ?side2 A4.out).mono ?_
  (case side1 => repeat (first | exact (Kd.C_below HR362_0.out (Cz.w HB.out)) | (with_reducible refine Kd.C_alloc ?_ _) | (with_reducible refine Kd.C_drewN ?_ _) | (with_reducible refine Kd.C_drew ?_)))
  (case side2 => exact HC362_0.out)
  rintro e w' ⟨rfl, ⟨nd, rfl⟩⟩
  refine ⟨_, rfl, ?_⟩
  refine hK.out _ _ (((HB.out.cell (World.block_lt_of_cell? w _ hw362_0)).trans hw362_0)) (fun hHeld => ?_)
  clear hK K
  refine norm_ (a' := ?_) ?_ ?_
  rotate_left
  ·show Act.put _ (some 8) _ = _
   simp only [Act.put, List.setIfInBounds_toArray, List.set_cons_zero, List.set_cons_succ, i64_w, i32_w]
   rfl
  refine one_ (i := 7) (N := some 10) #[true, true, true, true, true, true, true, true, false, false] rfl rfl (one_of HT_.out (by kernel_rfl)) (by decide) (fun K hK => ?_)
  refine goes_ Try.func127 (by kernel_rfl) rfl #[.slice (some ad362) l0.length c0] (by rfl) rfl rfl (by (try simp only [List.map_toArray, List.map_cons, List.map_nil]); first | done | rfl | (simp only [List.length_drop, List.length_take]; rfl)) ?_
  with_reducible refine (slices_Concat_int64_int64.calls k _ _ l0 t364 _ ?side1 ?side2 A5.out).mono ?_
  (case side1 => repeat (first | exact (Kd.C_below HR0.out (Cz.w HB.out)) | (with_reducible refine Kd.C_alloc ?_ _) | (with_reducible refine Kd.C_drewN ?_ _) | (with_reducible refine Kd.C_drew ?_)))
  (case side2 => exact HC0.out)
  rintro e w8 ⟨v365, rfl, ho0, hb⟩
  refine ⟨_, rfl, ?_⟩
  have n_ := Cy.a3 (Kd.R_lower ho0 (below_size (Cz.w HB.out))) (blk_below (g := gb360) (o := .cells #[.int .i64 0, .int .i64 0, .slice none 0 0] 27 (0, 0)) (Cz.b BK360.out) hb) (below_step (Cz.w HB.out) hb)
  clear BK360 HB
  obtain ⟨HO366, BK360, HB⟩ := n_
  (try clear hb)
  (try clear hb2)
  (try clear hk)
  (try clear hi)
  (try clear ho0)
  obtain ⟨Ao9, co9, eo9⟩ := Kd.R_slice HO366.out
  (first | subst eo9 | (injection eo9 with f1_ f2_ f3_; have f4_ := f1_.symm; have f5_ := f3_.symm; clear f1_ f2_ f3_; subst f4_; subst f5_))
  refine hK.out _ _ (((HB.out.cell (World.block_lt_of_cell? w _ hw362_0)).trans hw362_0)) (fun hHeld => ?_)
  clear hK K
  refine norm_ (a' := ?_) ?_ ?_
  rotate_left
  ·show Act.put _ (some 10) _ = _
   simp only [Act.put, List.setIfInBounds_toArray, List.set_cons_zero, List.set_cons_succ, i64_w, i32_w]
   rfl
  refine Cy.pu 8 11 HT_ ?_
  refine one_ (i := 9) (N := none) #[true, true, true, true, true, true, true, true, true, true] rfl rfl (one_of HT_.out (by kernel_rfl)) (by decide) (fun K hK => ?_)
  have hs10 : w8.cell? ⟨gb360, 0, none⟩ = some (.int .i64 0) := (blk_cell BK360.out 0).trans rfl
  have hfs10 := blk_frozen BK360.out 0
  have hs11 : w8.cell? ⟨gb360, 1, none⟩ = some (.int .i64 0) := (blk_cell BK360.out 1).trans rfl
  have hfs11 := blk_frozen BK360.out 1
  have hs12 : w8.cell? ⟨gb360, 2, none⟩ = some (.slice none 0 0) := (blk_cell BK360.out 2).trans rfl
  have hfs12 := blk_frozen BK360.out 2
  refine skip_ (w1 := ?_) (by rfl) rfl ?_ ?_
  rotate_left
  ·go_simp
   rfl
  refine hK.out _ _ (((cell_far (p := ⟨gb360, _, none⟩) (by first | exact Nat.ne_of_lt (Nat.lt_of_lt_of_le (by have := World.block_lt_of_cell? _ _ hw362_0; first | rwa [add_block] at this | exact this) GW360.out) | (rw [add_block]; exact Nat.ne_of_lt (Nat.lt_of_lt_of_le (by have := World.block_lt_of_cell? _ _ hw362_0; first | rwa [add_block] at this | exact this) GW360.out)) | (show (Addr.add _ _).block ≠ _; rw [add_block]; exact Nat.ne_of_lt (Nat.lt_of_lt_of_le (by have := World.block_lt_of_cell? _ _ hw362_0; first | rwa [add_block] at this | exact this) GW360.out)) | (dsimp only; exact Nat.ne_of_lt (Nat.lt_of_lt_of_le (by have := World.block_lt_of_cell? _ _ hw362_0; first | rwa [add_block] at this | exact this) GW360.out))) _).trans (((cell_far (p := ⟨gb360, _, none⟩) (by first | exact Nat.ne_of_lt (Nat.lt_of_lt_of_le (by have := World.block_lt_of_cell? _ _ hw362_0; first | rwa [add_block] at this | exact this) GW360.out) | (rw [add_block]; exact Nat.ne_of_lt (Nat.lt_of_lt_of_le (by have := World.block_lt_of_cell? _ _ hw362_0; first | rwa [add_block] at this | exact this) GW360.out)) | (show (Addr.add _ _).block ≠ _; rw [add_block]; exact Nat.ne_of_lt (Nat.lt_of_lt_of_le (by have := World.block_lt_of_cell? _ _ hw362_0; first | rwa [add_block] at this | exact this) GW360.out)) | (dsimp only; exact Nat.ne_of_lt (Nat.lt_of_lt_of_le (by have := World.block_lt_of_cell? _ _ hw362_0; first | rwa [add_block] at this | exact this) GW360.out))) _).trans (((cell_far (p := ⟨gb360, _, none⟩) (by first | exact Nat.ne_of_lt (Nat.lt_of_lt_of_le (by have := World.block_lt_of_cell? _ _ hw362_0; first | rwa [add_block] at this | exact this) GW360.out) | (rw [add_block]; exact Nat.ne_of_lt (Nat.lt_of_lt_of_le (by have := World.block_lt_of_cell? _ _ hw362_0; first | rwa [add_block] at this | exact this) GW360.out)) | (show (Addr.add _ _).block ≠ _; rw [add_block]; exact Nat.ne_of_lt (Nat.lt_of_lt_of_le (by have := World.block_lt_of_cell? _ _ hw362_0; first | rwa [add_block] at this | exact this) GW360.out)) | (dsimp only; exact Nat.ne_of_lt (Nat.lt_of_lt_of_le (by have := World.block_lt_of_cell? _ _ hw362_0; first | rwa [add_block] at this | exact this) GW360.out))) _).trans (hHeld))))))) (fun hHeld => ?_)
  clear hK K
  refine done_ (done_of HT_.out (by kernel_rfl)) ?_
  try go_wp2
  refine bodyPost_ret (results_cell_row rfl _ _ gb360 27 #[.int .i64 t361, .int .i64 t363, .slice Ao9 t364.length co9] (0, 0) _ rfl (Cz.p3 BK360.out) Try.underlying27 rfl (by kernel_rfl)) rfl ?_
  exact ⟨_, by first | rfl | (simp [errW_none, errW_some] <;> rfl) | (simp [*, errW_none, errW_some] <;> rfl), by (with_reducible repeat (first | apply Kd.R_alloc | apply Kd.R_drewN | apply Kd.R_drew)); exact Kd.R_mono (Kd.R_far (p := ⟨gb360, 2, none⟩) (Kd.R_far (p := ⟨gb360, 1, none⟩) (Kd.R_far (p := ⟨gb360, 0, none⟩) (Kd.R_types HO366.out BK360.out (by decide)) (fun _ hk => hk.2) (.int .i64 t361)) (fun _ hk => hk.2) (.int .i64 t363)) (fun _ hk => hk.2) (.slice Ao9 t364.length co9)) (fun _ hk => trivial), Cz.w HB.out⟩
 ·rw [if_neg c3] at H
  exact absurd H (by simp)
mutual
def impl_cauchy.l0 : Nat → Int → Int → List (List Int) → Int → Int → Option (Int × Int × List Int)
 | 0, _, _, _, _, _ => none
 | k + 1, x0, x1, x5, x10, x11 => if x11 < x10 then ((impl_unit.f x11 x0).bind fun t368 => (if x5.length < 5864062014805 then (impl_cauchy.l0 k x0 x1 (x5 ++ [t368]) x10 (wrap64 (x11 + 1))) else (none))) else (impl_cauchy.l1 k x0 x5 x1 0)
def impl_cauchy.l1 : Nat → Int → List (List Int) → Int → Int → Option (Int × Int × List Int)
 | 0, _, _, _, _ => none
 | k + 1, x0, x5, x21, x22 => if x22 < x21 then (impl_cauchy.l2 k x0 x5 x22 ([] : List Int) x21 x22 x0 0) else ((impl_matrixOf.f k x5).bind fun bt374 => (some (bt374.1, bt374.2.1, bt374.2.2)))
def impl_cauchy.l2 : Nat → Int → List (List Int) → Int → List Int → Int → Int → Int → Int → Option (Int × Int × List Int)
 | 0, _, _, _, _, _, _, _, _ => none
 | k + 1, x0, x5, x7, x8, x21, x22, x25, x26 => if x26 < x25 then ((impl_inv.f k (Go.bits .xor .i64 (wrap64 (x0 + x7)) x26)).bind fun t379 => (if x8.length < 17592186044416 then (impl_cauchy.l2 k x0 x5 x7 (x8 ++ [t379]) x21 x22 x25 (wrap64 (x26 + 1))) else (none))) else (if x5.length < 5864062014805 then (impl_cauchy.l1 k x0 (x5 ++ [x8]) x21 (wrap64 (x22 + 1))) else (none))
end
def impl_cauchy.f (k : Nat) (a0 : Int) (a1 : Int) : Option (Int × Int × List Int) := impl_cauchy.l0 k a0 a1 ([] : List (List Int)) a0 0
set_option maxHeartbeats 8000000 in
set_option maxRecDepth 100000 in
theorem impl_cauchy.calls (k : Nat) (a0 : Int) (a1 : Int) (r1 : Int) (r2 : Int) (r3 : List Int) (w : World) (h : impl_cauchy.f k a0 a1 = some (r1, r2, r3)) :
  Calls Try.prog 75 #[.int .i64 a0, .int .i64 a1] w fun e w' => ∃ v2_ : Value, e = .returned (.agg #[.int .i64 r1, .int .i64 r2, v2_]) ∧ Kd.R (Kd.int .i64) 2 w' w.heap.size (fun _ => True) v2_ r3 ∧ Below w.heap.size w w' := by
 have hu27 := Try.underlying27
 have HB := Aside0.mk (Below.refl w.heap.size w)
 have H : (impl_cauchy.l0 k a0 a1 ([] : List (List Int)) a0 0) = some (r1, r2, r3) := h
 clear h
 have H' := Aside0.mk H
 clear H
 go_enter Try.func75, Try.ntmps75
 go_wp2_with (first | ((with_reducible refine gate_dst (N := 4) rfl ?_); refine box_event ?hg (N := 4) ?hd (cs := #[.int .i64 0, .int .i64 0, .slice none 0 0]) (t := 27) ?hr ?_; (case hd => rfl); (case hg => rfl); (case hr => first | (go_simp; done) | (go_simp; rfl)); intro gb367 hg w3 hbox hb; have n_ := Cy.a4 (below_step (Cz.w HB.out) hb) hbox (Cy.gw hg HB.out) (Cy.gw hg HB.out); clear HB; obtain ⟨HB, BK367, GW367, GE367⟩ := n_; clear hb hbox hg))
 go_loopg [5, 11] k (fun kq v5 v11 w' => ∃ (x5_1 : List (List Int)) (x11_1 : Int), v11 = .int .i64 x11_1 ∧ Aside0 (impl_cauchy.l0 kq a0 a1 x5_1 a0 x11_1 = some (r1, r2, r3)) ∧ Aside0 (kq ≤ k) ∧ Aside0 (Kd.S (Kd.slice 2 (Kd.int .i64)) 22 w' w.heap.size (fun _ => True) v5 x5_1) ∧ Aside0 (w'.heap[gb367]? = some (.cells #[.int .i64 0, .int .i64 0, (.slice none 0 0)] 27 (0, 0))) ∧ Aside0 (Below w.heap.size w w'))
 case atStart => exact ⟨(([] : List (List Int))), (0), (by first | rfl | (simp; done) | (simp [*]; done)), H', ⟨Nat.le_refl _⟩, ⟨by first | exact Kd.S_nil _ _ _ _ _ | exact Kd.N_nil _ _ _ _ _ | exact Kd.V_nil _ _ _ _ _ | exact Kd.Q_nil _ _ _ _ _ | exact Kd.R_nil _ _ _ _ _⟩, ⟨Cz.b BK367.out⟩, ⟨Cz.w HB.out⟩⟩
 case round =>
  clear H'
  try clear p2
  obtain ⟨x5_1, x11_1, rfl, HA, HK1, HO_5, BK367, HB⟩ := hrel
  cases gk with
  | zero => exact absurd HA.out (by simp [impl_cauchy.l0])
  | succ k1 =>
   have H := HA.out
   clear HA
   simp only [impl_cauchy.l0] at H
   by_cases c4 : x11_1 < a0
   ·rw [if_pos c4] at H
    have c4b0 : decide (x11_1 < a0) = true := decide_eq_true c4
    clear c4
    replace H := Option.bind_eq_some_iff.mp H
    obtain ⟨t368, A50, H⟩ := H
    replace H : (if x5_1.length < 5864062014805 then (impl_cauchy.l0 k1 a0 a1 (x5_1 ++ [t368]) a0 (wrap64 (x11_1 + 1))) else (none)) = some (r1, r2, r3) := H
    have A5 := Aside0.mk A50
    clear A50
    by_cases c6 : x5_1.length < 5864062014805
    ·rw [if_pos c6] at H
     have LMc6 := Aside0.mk c6
     clear c6
     obtain ⟨y371, hy371⟩ : ∃ y_ : List (List Int), y_ = (x5_1 ++ [t368]) := ⟨_, rfl⟩
     replace H : (impl_cauchy.l0 k1 a0 a1 y371 a0 (wrap64 (x11_1 + 1))) = some (r1, r2, r3) := by first | (rw [hy371]; with_reducible exact H) | (have H2_ := (Option.bind_some _ _).symm.trans H; rw [hy371]; with_reducible exact H2_) | (have H2_ := (Option.bind_some _ _).symm.trans H; with_reducible exact H2_) | with_reducible exact H | (rw [hy371]; exact H) | exact H
     have Ny371 := Aside0.mk hy371
     clear hy371
     have H' := Aside0.mk H
     clear H
     go_wp2_with (first | ((with_reducible refine gate_callee (f := 121) rfl ?_); refine goesL_ (some 17) rfl rfl Try.func121 (by kernel_rfl) rfl #[.int .i64 x11_1, .int .i64 a0] rfl (by (try simp only [List.map_toArray, List.map_cons, List.map_nil]); first | done | rfl | (simp only [List.length_drop, List.length_take]; rfl)) ?_; (with_reducible refine (impl_unit.calls x11_1 a0 t368 _ A5.out).mono ?_); rintro e w7 ⟨v369, rfl, ho0, hb⟩; refine ⟨_, rfl, ?_⟩; have n_ := Cy.a4 (Kd.S_elder' (by (with_reducible repeat (first | apply Kd.S_alloc | apply Kd.S_drewN | apply Kd.S_drew)); exact HO_5.out) (Kd.R_base ho0) hb) (Kd.R_lower ho0 (below_size (Cz.w HB.out))) (blk_below (g := gb367) (o := .cells #[.int .i64 0, .int .i64 0, .slice none 0 0] 27 (0, 0)) (Cz.b BK367.out) hb) (below_step (Cz.w HB.out) hb); clear HO_5 BK367 HB; obtain ⟨HO_5, HO370, BK367, HB⟩ := n_; (try clear hb); (try clear hb2); (try clear hk); (try clear hi); (try clear ho0); obtain ⟨Ao9, co9, eo9⟩ := Kd.R_slice HO370.out; subst eo9) | ((with_reducible refine gate_builtin (b := .append) (xs := #[.tmp 14, .tmp 18]) rfl ?_); at_builtin; refine Kd.S_append (Kd.slice 2 (Kd.int .i64)) (w0 := w) w.heap.size rfl (.tmp 14) (.tmp 18) 95 22 (.slice none 0 0) 24 rfl Try.underlying95 info22 rfl (by decide) (by omega) u5 x5_1 t368 [.slice Ao9 t368.length co9] (fun _ => True) (fun k_ => some k_ = (.slice Ao9 t368.length co9 : Value).ownBlock) rfl rfl ?aP (fun k_ hk_ => ((Kd.R_mono (ok' := fun k_ => ((fun _ => True)) k_ ∧ some k_ ≠ (u5 : Value).ownBlock) (Kd.R_apart' (HO370.out) (Kd.S_typed HO_5.out) (by decide)) (fun k_ hk => ⟨trivial, hk.2⟩))).1 k_ hk_.symm) ?aF ?aO ?aB ?aS ?aL ?_; (case aP => exact Kd.M_row (Kd.R_mono (Kd.R_tight rfl (Kd.R_mono (ok' := fun k_ => ((fun _ => True)) k_ ∧ some k_ ≠ (u5 : Value).ownBlock) (Kd.R_apart' (HO370.out) (Kd.S_typed HO_5.out) (by decide)) (fun k_ hk => ⟨trivial, hk.2⟩))) (fun _ h_ => h_))); (case aB => exact (Cz.w HB.out)); (case aF => exact (fun _ _ => trivial)); (case aO => exact (by (with_reducible repeat (first | apply Kd.S_alloc | apply Kd.S_drewN | apply Kd.S_drew)); exact Kd.S_mono HO_5.out (fun k_ hk => ⟨trivial, fun e_ => hk.2 e_⟩))); (case aS => exact (below_size (Cz.w HB.out))); (case aL => have := LMc6.out; omega); intro v372 w8 ho hb hg hat; rw [← Ny371.out] at ho; have n_ := Cy.a3 (blk_grown (g := gb367) (o := .cells #[.int .i64 0, .int .i64 0, .slice none 0 0] 27 (0, 0)) (Cz.b BK367.out) hg (Kd.S_ne HO_5.out BK367.out (by decide))) hb ho; clear BK367 HB HO_5 HO370; obtain ⟨BK367, HB, HO373⟩ := n_; clear ho hb hg hat))
     go_roundg k1
     case measure => have := HK1.out; omega
     case rel => exact ⟨(y371), (wrap64 (x11_1 + 1)), (by first | rfl | (simp; done) | (simp [*]; done)), H', ⟨by have := HK1.out; omega⟩, ⟨by (with_reducible repeat (first | apply Kd.S_alloc | apply Kd.S_drewN | apply Kd.S_drew)); exact HO373.out⟩, ⟨Cz.b BK367.out⟩, ⟨Cz.w HB.out⟩⟩
    ·rw [if_neg c6] at H
     exact absurd H (by simp)
   ·rw [if_neg c4] at H
    have c4b0 : decide (x11_1 < a0) = false := decide_eq_false c4
    clear c4
    have H' := Aside0.mk H
    clear H
    go_wp2
    go_loopg [5, 22] k1 (fun kq v5 v22 w' => ∃ (x5_2 : List (List Int)) (x22_2 : Int), v22 = .int .i64 x22_2 ∧ Aside0 (impl_cauchy.l1 kq a0 x5_2 a1 x22_2 = some (r1, r2, r3)) ∧ Aside0 (kq ≤ k1) ∧ Aside0 (Kd.S (Kd.slice 2 (Kd.int .i64)) 22 w' w.heap.size (fun _ => True) v5 x5_2) ∧ Aside0 (w'.heap[gb367]? = some (.cells #[.int .i64 0, .int .i64 0, (.slice none 0 0)] 27 (0, 0))) ∧ Aside0 (Below w.heap.size w w'))
    case atStart => exact ⟨(x5_1), (0), (by first | rfl | (simp; done) | (simp [*]; done)), H', ⟨Nat.le_refl _⟩, ⟨by (with_reducible repeat (first | apply Kd.S_alloc | apply Kd.S_drewN | apply Kd.S_drew)); exact HO_5.out⟩, ⟨Cz.b BK367.out⟩, ⟨Cz.w HB.out⟩⟩
    case round =>
     clear H'
     try clear c1
     try clear p2
     try clear c4
     try clear c4b0
     try clear c6
     try clear p6
     try clear c7
     try clear p2
     obtain ⟨x5_2, x22_2, rfl, HA, HK2, HO_5, BK367, HB⟩ := hrel
     cases gk with
     | zero => exact absurd HA.out (by simp [impl_cauchy.l1])
     | succ k2 =>
      have H := HA.out
      clear HA
      simp only [impl_cauchy.l1] at H
      by_cases c10 : x22_2 < a1
      ·rw [if_pos c10] at H
       have c10b0 : decide (x22_2 < a1) = true := decide_eq_true c10
       clear c10
       have H' := Aside0.mk H
       clear H
       go_wp2
       go_loopg [8, 26] k2 (fun kq v8 v26 w' => ∃ (x8_3 : List Int) (x26_3 : Int), v26 = .int .i64 x26_3 ∧ Aside0 (impl_cauchy.l2 kq a0 x5_2 x22_2 x8_3 a1 x22_2 a0 x26_3 = some (r1, r2, r3)) ∧ Aside0 (kq ≤ k2) ∧ Aside0 (Kd.S (Kd.slice 2 (Kd.int .i64)) 22 w' w.heap.size (fun k_ => some k_ ≠ (v8 : Value).ownBlock) u5 x5_2) ∧ Aside0 (Kd.R (Kd.int .i64) 2 w' w.heap.size (fun _ => True) v8 x8_3) ∧ Aside0 (w'.heap[gb367]? = some (.cells #[.int .i64 0, .int .i64 0, (.slice none 0 0)] 27 (0, 0))) ∧ Aside0 (Below w.heap.size w w'))
       case atStart => exact ⟨(([] : List Int)), (0), (by first | rfl | (simp; done) | (simp [*]; done)), H', ⟨Nat.le_refl _⟩, ⟨by (with_reducible repeat (first | apply Kd.S_alloc | apply Kd.S_drewN | apply Kd.S_drew)); exact Kd.S_mono HO_5.out (fun _ hk => (by simp [Value.ownBlock]))⟩, ⟨by first | exact Kd.R_nil _ _ _ _ _ | exact Kd.N_nil _ _ _ _ _ | exact Kd.V_nil _ _ _ _ _ | exact Kd.Q_nil _ _ _ _ _ | exact Kd.S_nil _ _ _ _ _⟩, ⟨Cz.b BK367.out⟩, ⟨Cz.w HB.out⟩⟩
       case round =>
        clear H'
        try clear c1
        try clear p2
        try clear c4
        try clear c4b0
        try clear c6
        try clear p6
        try clear c7
        try clear c10
        try clear c10b0
        try clear p2
        try clear p6
        obtain ⟨x8_3, x26_3, rfl, HA, HK3, HO_5, HO_8, BK367, HB⟩ := hrel
        cases gk with
        | zero => exact absurd HA.out (by simp [impl_cauchy.l2])
        | succ k3 =>
         have H := HA.out
         clear HA
         simp only [impl_cauchy.l2] at H
         by_cases c11 : x26_3 < a0
         ·rw [if_pos c11] at H
          have c11b0 : decide (x26_3 < a0) = true := decide_eq_true c11
          clear c11
          replace H := Option.bind_eq_some_iff.mp H
          obtain ⟨t379, A120, H⟩ := H
          replace H : (if x8_3.length < 17592186044416 then (impl_cauchy.l2 k3 a0 x5_2 x22_2 (x8_3 ++ [t379]) a1 x22_2 a0 (wrap64 (x26_3 + 1))) else (none)) = some (r1, r2, r3) := H
          have A12 := Aside0.mk A120
          clear A120
          by_cases c13 : x8_3.length < 17592186044416
          ·rw [if_pos c13] at H
           have LMc13 := Aside0.mk c13
           clear c13
           obtain ⟨y380, hy380⟩ : ∃ y_ : List Int, y_ = (x8_3 ++ [t379]) := ⟨_, rfl⟩
           replace H : (impl_cauchy.l2 k3 a0 x5_2 x22_2 y380 a1 x22_2 a0 (wrap64 (x26_3 + 1))) = some (r1, r2, r3) := by first | (rw [hy380]; with_reducible exact H) | (have H2_ := (Option.bind_some _ _).symm.trans H; rw [hy380]; with_reducible exact H2_) | (have H2_ := (Option.bind_some _ _).symm.trans H; with_reducible exact H2_) | with_reducible exact H | (rw [hy380]; exact H) | exact H
           have Ny380 := Aside0.mk hy380
           clear hy380
           have H' := Aside0.mk H
           clear H
           go_wp2_with (first | ((with_reducible refine gate_callee (f := 122) rfl ?_); refine goesL_ (some 35) rfl rfl Try.func122 (by kernel_rfl) rfl #[.int .i64 (Go.bits .xor .i64 (wrap64 (a0 + x22_2)) x26_3)] rfl (by (try simp only [List.map_toArray, List.map_cons, List.map_nil]); first | done | rfl | (simp only [List.length_drop, List.length_take]; rfl)) ?_; (with_reducible refine (impl_inv.calls k3 (Go.bits .xor .i64 (wrap64 (a0 + x22_2)) x26_3) t379 _ A12.out).mono ?_); rintro e w' ⟨rfl, ⟨nd, rfl⟩⟩; refine ⟨_, rfl, ?_⟩) | ((with_reducible refine gate_builtin (b := .append) (xs := #[.tmp 29, .tmp 36]) rfl ?_); at_builtin; refine Kd.R_append (Kd.int .i64) (w0 := w) w.heap.size rfl (.tmp 29) (.tmp 36) 22 2 (.int .i64 0) 8 rfl Try.underlying22 info2 rfl (by decide) (by omega) u8 x8_3 t379 [.int .i64 t379] (fun _ => True) (fun _ => False) rfl rfl ?aP (fun _ hk => hk.elim) ?aF ?aO ?aB ?aS ?aL ?_; (case aP => exact rfl); (case aB => exact (Cz.w HB.out)); (case aF => exact (fun _ _ => trivial)); (case aO => exact (Cz.r HO_8.out)); (case aS => exact (below_size (Cz.w HB.out))); (case aL => have := LMc13.out; omega); intro v381 w14 ho hb hg hat; rw [← Ny380.out] at ho; have n_ := Cy.a4 (Kd.S_after (ok := (fun _ => True)) (by (with_reducible repeat (first | apply Kd.S_alloc | apply Kd.S_drewN | apply Kd.S_drew)); exact Kd.S_mono HO_5.out (fun _ hk => ⟨trivial, hk⟩)) hg hat) (blk_grown (g := gb367) (o := .cells #[.int .i64 0, .int .i64 0, .slice none 0 0] 27 (0, 0)) (Cz.b BK367.out) hg (Kd.R_ne HO_8.out BK367.out (by decide))) hb ho; clear HO_5 BK367 HB HO_8; obtain ⟨HO_5, BK367, HB, HO382⟩ := n_; clear ho hb hg hat))
           go_roundg k3
           case measure => have := HK1.out; have := HK2.out; have := HK3.out; omega
           case rel => exact ⟨(y380), (wrap64 (x26_3 + 1)), (by first | rfl | (simp; done) | (simp [*]; done)), H', ⟨by have := HK1.out; have := HK2.out; have := HK3.out; omega⟩, ⟨by (with_reducible repeat (first | apply Kd.S_alloc | apply Kd.S_drewN | apply Kd.S_drew)); exact Kd.S_mono HO_5.out (fun _ hk => hk.2)⟩, ⟨Cz.r HO382.out⟩, ⟨Cz.b BK367.out⟩, ⟨Cz.w HB.out⟩⟩
          ·rw [if_neg c13] at H
           exact absurd H (by simp)
         ·rw [if_neg c11] at H
          have c11b0 : decide (x26_3 < a0) = false := decide_eq_false c11
          clear c11
          by_cases c15 : x5_2.length < 5864062014805
          ·rw [if_pos c15] at H
           have LMc15 := Aside0.mk c15
           clear c15
           obtain ⟨y383, hy383⟩ : ∃ y_ : List (List Int), y_ = (x5_2 ++ [x8_3]) := ⟨_, rfl⟩
           replace H : (impl_cauchy.l1 k3 a0 y383 a1 (wrap64 (x22_2 + 1))) = some (r1, r2, r3) := by first | (rw [hy383]; with_reducible exact H) | (have H2_ := (Option.bind_some _ _).symm.trans H; rw [hy383]; with_reducible exact H2_) | (have H2_ := (Option.bind_some _ _).symm.trans H; with_reducible exact H2_) | with_reducible exact H | (rw [hy383]; exact H) | exact H
           have Ny383 := Aside0.mk hy383
           clear hy383
           have H' := Aside0.mk H
           clear H
           obtain ⟨Ao17, co17, eo17⟩ := Kd.R_slice HO_8.out
           subst eo17
           go_wp2_with (first | ((with_reducible refine gate_builtin (b := .append) (xs := #[.tmp 39, .tmp 41]) rfl ?_); at_builtin; refine Kd.S_append (Kd.slice 2 (Kd.int .i64)) (w0 := w) w.heap.size rfl (.tmp 39) (.tmp 41) 95 22 (.slice none 0 0) 24 rfl Try.underlying95 info22 rfl (by decide) (by omega) u5 x5_2 x8_3 [.slice Ao17 x8_3.length co17] (fun _ => True) (fun k_ => some k_ = (.slice Ao17 x8_3.length co17 : Value).ownBlock) rfl rfl ?aP (fun k_ hk_ => ((Kd.R_mono (ok' := fun k_ => ((fun _ => True)) k_ ∧ some k_ ≠ (u5 : Value).ownBlock) (Kd.R_apart' (HO_8.out) (Kd.S_typed HO_5.out) (by decide)) (fun k_ hk => ⟨trivial, hk.2⟩))).1 k_ hk_.symm) ?aF ?aO ?aB ?aS ?aL ?_; (case aP => exact Kd.M_row (Kd.R_mono (Kd.R_tight rfl (Kd.R_mono (ok' := fun k_ => ((fun _ => True)) k_ ∧ some k_ ≠ (u5 : Value).ownBlock) (Kd.R_apart' (HO_8.out) (Kd.S_typed HO_5.out) (by decide)) (fun k_ hk => ⟨trivial, hk.2⟩))) (fun _ h_ => h_))); (case aB => exact (Cz.w HB.out)); (case aF => exact (fun _ _ => trivial)); (case aO => exact (by (with_reducible repeat (first | apply Kd.S_alloc | apply Kd.S_drewN | apply Kd.S_drew)); exact Kd.S_mono HO_5.out (fun k_ hk => ⟨trivial, fun e_ => hk e_⟩))); (case aS => exact (below_size (Cz.w HB.out))); (case aL => have := LMc15.out; omega); intro v384 w16 ho hb hg hat; rw [← Ny383.out] at ho; have n_ := Cy.a3 (blk_grown (g := gb367) (o := .cells #[.int .i64 0, .int .i64 0, .slice none 0 0] 27 (0, 0)) (Cz.b BK367.out) hg (Kd.S_ne HO_5.out BK367.out (by decide))) hb ho; clear BK367 HB HO_5 HO_8; obtain ⟨BK367, HB, HO385⟩ := n_; clear ho hb hg hat))
           go_roundg k3
           case measure => have := HK1.out; have := HK2.out; have := HK3.out; omega
           case rel => exact ⟨(y383), (wrap64 (x22_2 + 1)), (by first | rfl | (simp; done) | (simp [*]; done)), H', ⟨by have := HK1.out; have := HK2.out; have := HK3.out; omega⟩, ⟨by (with_reducible repeat (first | apply Kd.S_alloc | apply Kd.S_drewN | apply Kd.S_drew)); exact HO385.out⟩, ⟨Cz.b BK367.out⟩, ⟨Cz.w HB.out⟩⟩
          ·rw [if_neg c15] at H
           exact absurd H (by simp)
      ·rw [if_neg c10] at H
       have c10b0 : decide (x22_2 < a1) = false := decide_eq_false c10
       clear c10
       replace H := Option.bind_eq_some_iff.mp H
       obtain ⟨⟨t374, t375, t376⟩, A180, H⟩ := H
       replace H : (some (t374, t375, t376)) = some (r1, r2, r3) := H
       have A18 := Aside0.mk A180
       clear A180
       simp only [Option.some.injEq, Prod.mk.injEq] at H
       obtain ⟨rfl, rfl, rfl⟩ := H
       obtain ⟨Ao19, co19, eo19⟩ := Kd.S_slice HO_5.out
       subst eo19
       go_wp2_with (first | ((with_reducible refine gate_callee (f := 123) rfl ?_); refine goesL_ (some 45) rfl rfl Try.func123 (by kernel_rfl) rfl #[.slice Ao19 x5_2.length co19] rfl (by (try simp only [List.map_toArray, List.map_cons, List.map_nil]); first | done | rfl | (simp only [List.length_drop, List.length_take]; rfl)) ?_; (with_reducible refine (impl_matrixOf.calls k2 _ _ x5_2 t374 t375 t376 _ ?side1 ?side2 A18.out).mono ?_); (case side1 => repeat (first | exact (Kd.S_reads' HO_5.out).2.2 | (with_reducible refine Kd.C_alloc ?_ _) | (with_reducible refine Kd.C_drewN ?_ _) | (with_reducible refine Kd.C_drew ?_))); (case side2 => exact (Kd.S_reads' HO_5.out).2.1); rintro e w20 ⟨v377, rfl, ho0, hb⟩; refine ⟨_, rfl, ?_⟩; have n_ := Cy.a4 (Kd.S_elder' (by (with_reducible repeat (first | apply Kd.S_alloc | apply Kd.S_drewN | apply Kd.S_drew)); exact HO_5.out) (Kd.R_base ho0) hb) (Kd.R_lower ho0 (below_size (Cz.w HB.out))) (blk_below (g := gb367) (o := .cells #[.int .i64 0, .int .i64 0, .slice none 0 0] 27 (0, 0)) (Cz.b BK367.out) hb) (below_step (Cz.w HB.out) hb); clear HO_5 BK367 HB; obtain ⟨HO_5, HO378, BK367, HB⟩ := n_; (try clear hb); (try clear hb2); (try clear hk); (try clear hi); (try clear ho0); obtain ⟨hcz21_0, hcz21_1, hcz21_2, hfz21_0, hfz21_1, hfz21_2⟩ := Cy.z3 BK367.out; obtain ⟨Ao22, co22, eo22⟩ := Kd.R_slice HO378.out; subst eo22))
       refine bodyPost_ret (results_cell_row rfl _ _ gb367 27 #[.int .i64 t374, .int .i64 t375, .slice Ao22 t376.length co22] (0, 0) _ rfl (Cz.p3 BK367.out) Try.underlying27 rfl (by kernel_rfl)) rfl ?_
       exact ⟨_, by first | rfl | (simp [errW_none, errW_some] <;> rfl) | (simp [*, errW_none, errW_some] <;> rfl), by (with_reducible repeat (first | apply Kd.R_alloc | apply Kd.R_drewN | apply Kd.R_drew)); exact Kd.R_mono (Kd.R_far (p := ⟨gb367, 2, none⟩) (Kd.R_far (p := ⟨gb367, 1, none⟩) (Kd.R_far (p := ⟨gb367, 0, none⟩) (Kd.R_types HO378.out BK367.out (by decide)) (fun _ hk => hk.2) (.int .i64 t374)) (fun _ hk => hk.2) (.int .i64 t375)) (fun _ hk => hk.2) (.slice Ao22 t376.length co22)) (fun _ hk => trivial), Cz.w HB.out⟩
end Go.Proofs.Ytlololbhlnapkaa.XFnExactRepair

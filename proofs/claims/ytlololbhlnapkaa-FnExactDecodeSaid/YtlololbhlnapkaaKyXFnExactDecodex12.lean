/- Plain functions of what the law reaches, proofs that the calls come to them, and the law's row: written by a program of this session (xprint.py) over the kit's print. No conditions beyond each lemma's own. -/
import Derived.Test.YtlololbhlnapkaaKyCy
import Derived.Test.YtlololbhlnapkaaKyXFnExactDecodex0
import Derived.Test.YtlololbhlnapkaaKyXFnExactDecodex10
namespace Go.Proofs.Ytlololbhlnapkaa.XFnExactDecode
open Go.RowKit Go.Proofs.YtlololbhlnapkaaW.PrintWords Go.Proofs.YtlololbhlnapkaaW.PrintLast Go.Proofs.YtlololbhlnapkaaW.PrintMore
attribute [local go_sem] max2_int min2_int max_two min_two max_three min_three max_four min_four   -- for this text's walks alone
set_option linter.unusedVariables false
set_option linter.unusedSimpArgs false
def impl_Matrix_reduced_1.f (l0 : List Int) (a1 : Int) : Option (Bool) := if 0 ≤ a1 then (if a1 < (l0.length : Int) then (some ((rd l0 a1) != 0)) else (none)) else (none)
set_option maxHeartbeats 8000000 in
set_option maxRecDepth 100000 in
theorem impl_Matrix_reduced_1.calls (A0 : Option Addr) (c0 : Nat) (l0 : List Int) (a1 : Int) (r : Bool) (w : World) (hr0 : Kd.C (Kd.int .i64) w A0 l0.length l0) (hc0 : l0.length ≤ c0) (gb : Nat) (hgb : w.cell? ⟨gb, 0, none⟩ = some (.int .i64 a1)) (h : impl_Matrix_reduced_1.f l0 a1 = some r) :
  Calls Try.prog 129 #[.slice A0 l0.length c0, .pointer (some ⟨gb, 0, none⟩)] w fun e w' => e = .returned (.bool r) ∧ Drawn0 w w' := by
 have HR0 := Aside0.mk hr0
 have HC0 := Aside0.mk hc0
 clear hr0 hc0
 have H : (if 0 ≤ a1 then (if a1 < (l0.length : Int) then (some ((rd l0 a1) != 0)) else (none)) else (none)) = some r := h
 clear h
 by_cases c3 : 0 ≤ a1
 ·rw [if_pos c3] at H
  have c3b0 : decide (0 ≤ a1) = true := decide_eq_true c3
  clear c3
  by_cases c4 : a1 < (l0.length : Int)
  ·rw [if_pos c4] at H
   have c4b0 : decide (a1 < (l0.length : Int)) = true := decide_eq_true c4
   clear c4
   obtain rfl := Option.some.inj H
   have p397 : 0 ≤ (a1 : Int) := of_decide_eq_true (by first | (with_reducible assumption) | assumption)
   have q397 : a1 < (l0.length : Int) := of_decide_eq_true (by first | (with_reducible assumption) | assumption)
   obtain ⟨ad397, e397, hx397_0⟩ := Kd.at_int HR0.out a1 p397 q397
   cases e397
   replace p397 := eq_true p397
   replace q397 := eq_true q397
   go_enter Try.func129, Try.ntmps129
   go_wp2
   go_ret
   exact ⟨by first | rfl | (simp; done) | (simp [*]; done), by repeat (first | exact Drawn0.refl _ | apply Drawn0.step)⟩
  ·rw [if_neg c4] at H
   exact absurd H (by simp)
 ·rw [if_neg c3] at H
  exact absurd H (by simp)
def slices_IndexFunc_int64_int64.l0 : Nat → List (List Int) → Int → Int → Int → Option (Int)
 | 0, _, _, _, _ => none
 | k + 1, x0, x1, x7, x8 => if x8 < x7 then (if 0 ≤ x8 then (if x8 < (x0.length : Int) then ((impl_Matrix_reduced_1.f (rd_L6 x0 x8) x1).bind fun t399 => (if t399 = true then (some x8) else (slices_IndexFunc_int64_int64.l0 k x0 x1 x7 (wrap64 (x8 + 1))))) else (none)) else (none)) else (some (-1))
def slices_IndexFunc_int64_int64.f (k : Nat) (l0 : List (List Int)) (a1 : Int) : Option (Int) := slices_IndexFunc_int64_int64.l0 k l0 a1 (l0.length : Int) 0
set_option maxHeartbeats 8000000 in
set_option maxRecDepth 100000 in
theorem slices_IndexFunc_int64_int64.calls (k : Nat) (A0 : Option Addr) (c0 : Nat) (l0 : List (List Int)) (a1 : Int) (r : Int) (w : World) (hr0 : Kd.C (Kd.slice 2 (Kd.int .i64)) w A0 l0.length l0) (hc0 : l0.length ≤ c0) (gb : Nat) (hgb : w.cell? ⟨gb, 0, none⟩ = some (.int .i64 a1)) (h : slices_IndexFunc_int64_int64.f k l0 a1 = some r) :
  Calls Try.prog 128 #[.slice A0 l0.length c0, .func (.func 129) #[] #[.pointer (some ⟨gb, 0, none⟩)]] w fun e w' => e = .returned (.int .i64 r) ∧ Drawn0 w w' := by
 have HR0 := Aside0.mk hr0
 have HC0 := Aside0.mk hc0
 clear hr0 hc0
 have H : (slices_IndexFunc_int64_int64.l0 k l0 a1 (l0.length : Int) 0) = some r := h
 clear h
 have H' := Aside0.mk H
 clear H
 go_enter Try.func128, Try.ntmps128
 go_wp2
 go_loopg [8] k (fun kq v8 w' => ∃ (x8_1 : Int), v8 = .int .i64 x8_1 ∧ Aside0 (slices_IndexFunc_int64_int64.l0 kq l0 a1 (l0.length : Int) x8_1 = some r) ∧ Aside0 (kq ≤ k) ∧ Drawn0 w w')
 case atStart => exact ⟨(0), (by first | rfl | (simp; done) | (simp [*]; done)), H', ⟨Nat.le_refl _⟩, by repeat (first | exact Drawn0.refl _ | apply Drawn0.step)⟩
 case round =>
  clear H'
  try clear c1
  try clear p2
  obtain ⟨x8_1, rfl, HA, HK1, ⟨m1, rfl⟩⟩ := hrel
  cases gk with
  | zero => exact absurd HA.out (by simp [slices_IndexFunc_int64_int64.l0])
  | succ k1 =>
   have H := HA.out
   clear HA
   simp only [slices_IndexFunc_int64_int64.l0] at H
   by_cases c3 : x8_1 < (l0.length : Int)
   ·rw [if_pos c3] at H
    have c3b0 : decide (x8_1 < (l0.length : Int)) = true := decide_eq_true c3
    clear c3
    by_cases c4 : 0 ≤ x8_1
    ·rw [if_pos c4] at H
     have c4b0 : decide (0 ≤ x8_1) = true := decide_eq_true c4
     clear c4
     by_cases c5 : x8_1 < (l0.length : Int)
     ·rw [if_pos c5] at H
      have c5b0 : decide (x8_1 < (l0.length : Int)) = true := decide_eq_true c5
      clear c5
      replace H := Option.bind_eq_some_iff.mp H
      obtain ⟨t399, A60, H⟩ := H
      replace H : (if t399 = true then (some x8_1) else (slices_IndexFunc_int64_int64.l0 k1 l0 a1 (l0.length : Int) (wrap64 (x8_1 + 1)))) = some r := H
      have A6 := Aside0.mk A60
      clear A60
      by_cases c7 : t399 = true
      ·subst c7
       have H1 : (some x8_1) = some r := by rw [if_pos rfl] at H; exact H
       clear H
       have H := H1
       clear H1
       obtain rfl := Option.some.inj H
       have p398 : 0 ≤ (x8_1 : Int) := of_decide_eq_true (by first | (with_reducible assumption) | assumption)
       have q398 : x8_1 < (l0.length : Int) := of_decide_eq_true (by first | (with_reducible assumption) | assumption)
       obtain ⟨ad398, A398_0, c398_0, e398, hx398_0, hl398_0, hi398_0⟩ := at_L6 HR0.out x8_1 p398 q398
       cases e398
       have HR398_0 := Aside0.mk hi398_0
       have HC398_0 := Aside0.mk hl398_0
       clear hi398_0 hl398_0
       replace p398 := eq_true p398
       replace q398 := eq_true q398
       go_wp2_with (first | (go_at_call 129; (with_reducible refine (impl_Matrix_reduced_1.calls _ _ (rd_L6 l0 x8_1) a1 true _ ?side1 ?side2 gb ?gside A6.out).mono ?_); (case gside => exact hgb); (case side1 => repeat (first | exact HR398_0.out | (with_reducible refine Kd.C_alloc ?_ _) | (with_reducible refine Kd.C_drewN ?_ _) | (with_reducible refine Kd.C_drew ?_))); (case side2 => exact HC398_0.out); rintro e w' ⟨rfl, ⟨nd, rfl⟩⟩))
       go_ret
       exact ⟨by first | rfl | (simp; done) | (simp [*]; done), by repeat (first | exact Drawn0.refl _ | apply Drawn0.step)⟩
      ·replace c7 := Bool.eq_false_iff.mpr c7
       subst c7
       have H1 : (slices_IndexFunc_int64_int64.l0 k1 l0 a1 (l0.length : Int) (wrap64 (x8_1 + 1))) = some r := by rw [if_neg (show ¬ (false = true) by decide)] at H; exact H
       clear H
       have H := H1
       clear H1
       have H' := Aside0.mk H
       clear H
       have p398 : 0 ≤ (x8_1 : Int) := of_decide_eq_true (by first | (with_reducible assumption) | assumption)
       have q398 : x8_1 < (l0.length : Int) := of_decide_eq_true (by first | (with_reducible assumption) | assumption)
       obtain ⟨ad398, A398_0, c398_0, e398, hx398_0, hl398_0, hi398_0⟩ := at_L6 HR0.out x8_1 p398 q398
       cases e398
       have HR398_0 := Aside0.mk hi398_0
       have HC398_0 := Aside0.mk hl398_0
       clear hi398_0 hl398_0
       replace p398 := eq_true p398
       replace q398 := eq_true q398
       go_wp2_with (first | (go_at_call 129; (with_reducible refine (impl_Matrix_reduced_1.calls _ _ (rd_L6 l0 x8_1) a1 false _ ?side1 ?side2 gb ?gside A6.out).mono ?_); (case gside => exact hgb); (case side1 => repeat (first | exact HR398_0.out | (with_reducible refine Kd.C_alloc ?_ _) | (with_reducible refine Kd.C_drewN ?_ _) | (with_reducible refine Kd.C_drew ?_))); (case side2 => exact HC398_0.out); rintro e w' ⟨rfl, ⟨nd, rfl⟩⟩))
       go_roundg k1
       case measure => have := HK1.out; omega
       case rel => exact ⟨(wrap64 (x8_1 + 1)), (by first | rfl | (simp; done) | (simp [*]; done)), H', ⟨by have := HK1.out; omega⟩, by repeat (first | exact Drawn0.refl _ | apply Drawn0.step)⟩
     ·rw [if_neg c5] at H
      exact absurd H (by simp)
    ·rw [if_neg c4] at H
     exact absurd H (by simp)
   ·rw [if_neg c3] at H
    have c3b0 : decide (x8_1 < (l0.length : Int)) = false := decide_eq_false c3
    clear c3
    obtain rfl := Option.some.inj H
    go_wp2
    go_ret
    exact ⟨by first | rfl | (simp; done) | (simp [*]; done), by repeat (first | exact Drawn0.refl _ | apply Drawn0.step)⟩
def impl_scale.l0 : Nat → List Int → Int → Int → Int → Option (List Int)
 | 0, _, _, _, _ => none
 | k + 1, x0, x1, x7, x8 => if x8 < x7 then (if 0 ≤ x8 then (if x8 < (x0.length : Int) then ((impl_mul.f k (rd x0 x8) x1).bind fun t401 => (impl_scale.l0 k (x0.set (x8 : Int).toNat t401) x1 x7 (wrap64 (x8 + 1)))) else (none)) else (none)) else (some x0)
def impl_scale.f (k : Nat) (l0 : List Int) (a1 : Int) : Option (List Int) := impl_scale.l0 k l0 a1 (l0.length : Int) 0
set_option maxHeartbeats 8000000 in
set_option maxRecDepth 100000 in
theorem impl_scale.calls (k : Nat) (P0_ : Nat → Prop) (u9000_ : Value) (l0 : List Int) (a1 : Int) (r : List Int) (w0 w : World) (hB : Below w0.heap.size w0 w) (ho0 : Kd.R (Kd.int .i64) 2 w w0.heap.size P0_ u9000_ l0) (h : impl_scale.f k l0 a1 = some r) :
  Calls Try.prog 130 #[u9000_, .int .i64 a1] w fun e w' => e = .returned (.tuple #[]) ∧ Kd.R (Kd.int .i64) 2 w' w0.heap.size (fun k_ => (P0_ k_ ∨ w.heap.size ≤ k_)) u9000_ r ∧ Below w0.heap.size w0 w' ∧ Kept w w' (fun k_ => P0_ k_) := by
 have HO0 := Aside0.mk (show Kd.R (Kd.int .i64) 2 w w0.heap.size (fun k_ => (P0_ k_ ∨ w.heap.size ≤ k_)) u9000_ l0 from Kd.R_mono ho0 (fun k_ hk => (.inl hk)))
 have HK := Aside0.mk (Kept.refl w (fun k_ => P0_ k_))
 have HW0 := Aside0.mk hB.size
 have HB := Aside0.mk hB
 clear hB
 have H : (impl_scale.l0 k l0 a1 (l0.length : Int) 0) = some r := h
 clear h
 have H' := Aside0.mk H
 clear H
 obtain ⟨Ao3, co3, eo3⟩ := Kd.R_slice HO0.out
 subst eo3
 go_enter Try.func130, Try.ntmps130
 go_wp2
 go_loopg [8] k (fun kq v8 w' => ∃ (x0_1 : List Int) (x8_1 : Int), v8 = .int .i64 x8_1 ∧ Aside0 (impl_scale.l0 kq x0_1 a1 (l0.length : Int) x8_1 = some r) ∧ Aside0 (kq ≤ k) ∧ Aside0 (Kd.R (Kd.int .i64) 2 w' w0.heap.size (fun k_ => (P0_ k_ ∨ w.heap.size ≤ k_)) (.slice Ao3 l0.length co3) x0_1) ∧ Aside0 (Kept w w' (fun k_ => P0_ k_)) ∧ Aside0 (Below w0.heap.size w0 w'))
 case atStart => exact ⟨(l0), (0), (by first | rfl | (simp; done) | (simp [*]; done)), H', ⟨Nat.le_refl _⟩, ⟨Cz.r HO0.out⟩, ⟨by repeat (first | (with_reducible first | exact HK.out | apply Kept.alloc | apply Kept.drewN | apply Kept.drew) | exact HK.out)⟩, ⟨Cz.w HB.out⟩⟩
 case round =>
  clear H'
  try clear c1
  try clear p2
  obtain ⟨x0_1, x8_1, rfl, HA, HK1, HO_0, HK, HB⟩ := hrel
  have hl0_1 := (Kd.R_reads' HO_0.out).1
  rw [hl0_1] at HO_0
  (try simp only [hl0_1])
  cases gk with
  | zero => exact absurd HA.out (by simp [impl_scale.l0])
  | succ k1 =>
   have H := HA.out
   clear HA
   simp only [impl_scale.l0] at H
   by_cases c4 : x8_1 < (l0.length : Int)
   ·rw [if_pos c4] at H
    have c4b0 : decide (x8_1 < (l0.length : Int)) = true := decide_eq_true c4
    clear c4
    by_cases c5 : 0 ≤ x8_1
    ·rw [if_pos c5] at H
     have c5b0 : decide (0 ≤ x8_1) = true := decide_eq_true c5
     clear c5
     by_cases c6 : x8_1 < (x0_1.length : Int)
     ·rw [if_pos c6] at H
      have c6b0 : decide (x8_1 < (x0_1.length : Int)) = true := decide_eq_true c6
      clear c6
      replace H := Option.bind_eq_some_iff.mp H
      obtain ⟨t401, A70, H⟩ := H
      replace H : (impl_scale.l0 k1 (x0_1.set (x8_1 : Int).toNat t401) a1 (l0.length : Int) (wrap64 (x8_1 + 1))) = some r := H
      have A7 := Aside0.mk A70
      clear A70
      obtain ⟨y402, hy402⟩ : ∃ y_ : List Int, y_ = (x0_1.set (x8_1 : Int).toNat t401) := ⟨_, rfl⟩
      replace H : (impl_scale.l0 k1 y402 a1 (l0.length : Int) (wrap64 (x8_1 + 1))) = some r := by first | (rw [hy402]; with_reducible exact H) | (have H2_ := (Option.bind_some _ _).symm.trans H; rw [hy402]; with_reducible exact H2_) | (have H2_ := (Option.bind_some _ _).symm.trans H; with_reducible exact H2_) | with_reducible exact H | (rw [hy402]; exact H) | exact H
      have Ny402 := Aside0.mk hy402
      clear hy402
      have H' := Aside0.mk H
      clear H
      have p400 : 0 ≤ (x8_1 : Int) := of_decide_eq_true (by first | (with_reducible assumption) | assumption)
      have q400 : x8_1 < (x0_1.length : Int) := of_decide_eq_true (by first | (with_reducible assumption) | assumption)
      obtain ⟨ad400, e400, hx400_0⟩ := Kd.at_int (Kd.R_reads' HO_0.out).2.2 x8_1 p400 q400
      cases e400
      replace p400 := eq_true p400
      replace q400 := eq_true q400
      go_wp2_with (first | ((with_reducible refine gate_callee (f := 132) rfl ?_); refine goesL_ (some 17) rfl rfl Try.func132 (by kernel_rfl) rfl #[.int .i64 (rd x0_1 x8_1), .int .i64 a1] rfl Cy.ls ?_; (with_reducible refine (impl_mul.calls k1 (rd x0_1 x8_1) a1 t401 _ A7.out).mono ?_); rintro e w' ⟨rfl, ⟨nd, rfl⟩⟩; refine ⟨_, rfl, ?_⟩; (try (rw [drewN_self wr]; generalize hq_ : World.drewN wr _ = wr; have n0_ : Aside0 (Kd.R (Kd.int .i64) 2 wr w0.heap.size (fun k_ => (P0_ k_ ∨ w.heap.size ≤ k_)) (.slice (some ad400) x0_1.length co3) x0_1) := ⟨by rw [← hq_]; exact (Cz.r HO_0.out)⟩; have n1_ : Aside0 (Kept w wr (fun k_ => P0_ k_)) := ⟨by rw [← hq_]; exact (by repeat (first | (with_reducible first | exact HK.out | apply Kept.alloc | apply Kept.drewN | apply Kept.drew) | exact HK.out))⟩; have n2_ : Aside0 (Below w0.heap.size w0 wr) := ⟨by rw [← hq_]; exact (Cz.w HB.out)⟩; clear HO_0 HK HB hq_; have HO_0 := n0_; have HK := n1_; have HB := n2_; clear n0_ n1_ n2_)); have p8 : 0 ≤ (x8_1 : Int) := of_decide_eq_true (by first | (with_reducible assumption) | assumption); have q8 : (x8_1 : Int) < ((x0_1.length : Int) : Int) := of_decide_eq_true (by first | (with_reducible assumption) | assumption); obtain ⟨go8, co8, eo8, gb8, gl8, cl8, HG8⟩ := Kd.R_form HO_0.out (by omega); (first | cases eo8 | (injection eo8 with ea_ en_ ec_; (first | subst ea_ | (injection ea_ with ea_; subst ea_)); subst ec_; clear en_)); have GB8 := Aside0.mk gb8; have GG8 := Aside0.mk HG8; clear gb8 gl8 HG8; have HMgo8 := Aside0.mk (show (P0_ go8 ∨ w.heap.size ≤ go8) from (HO_0.out.1 _ rfl)); (first | simp only [add_plain] at hx400_0 | skip); obtain ⟨hx8_0, hf8_0⟩ := Kd.R_celln 0 HO_0.out (x8_1 : Int) p8 q8; replace p8 := eq_true p8; replace q8 := eq_true q8; obtain ⟨hy9_, hz9_⟩ := Kd.R_celln 0 HO_0.out (x8_1 : Int) (of_decide_eq_true (by first | (with_reducible assumption) | assumption)) (of_decide_eq_true (by first | (with_reducible assumption) | assumption)); have HP9 := Kd.R_putg HO_0.out (x8_1 : Int) t401) | ((with_reducible refine gate_store (t := 2) (p := 18) rfl ?_); refine store_event (t := 2) (p := 18) (v := ?vo_w10) (w1 := (wr.setCell ⟨go8, (x8_1 : Int).toNat, none⟩ (.int .i64 t401))) ?hg ?ho ?hn ?hr ?_; (case ho => rfl); (case hg => rfl); (case hn => rfl); (case hr => first | (go_simp; done) | (go_simp; rfl)); intro w10 hw; have hg : wr.grownBy w10 (some go8) := (by rw [hw]; exact HP9.2); have hp_ : Kd.R (Kd.int .i64) 2 w10 w0.heap.size (fun k_ => (P0_ k_ ∨ w.heap.size ≤ k_)) (.slice (some ⟨go8, 0, none⟩) x0_1.length co3) y402 := (by rw [hw, Ny402.out]; exact HP9.1); clear HP9; have n_ := Cy.a3 hp_ (by rw [hw]; exact below_set (HB.out) GB8.out : Below w0.heap.size w0 w10) (Kept.of_grown (S := (fun k_ => P0_ k_)) hg (by repeat (first | (with_reducible first | exact HK.out | apply Kept.alloc | apply Kept.drewN | apply Kept.drew) | exact HK.out)) (fun k_ e_ => (HO_0.out.1 k_ e_))); clear HO_0 HB HK; obtain ⟨HO_0, HB, HK⟩ := n_; clear hg hw hp_))
      (try simp only [← hl0_1])
      go_roundg k1
      case measure => have := HK1.out; omega
      case rel => exact ⟨(y402), (wrap64 (x8_1 + 1)), (by first | rfl | (simp; done) | (simp [*]; done)), H', ⟨by have := HK1.out; omega⟩, ⟨by (try simp only [hl0_1]); (with_reducible repeat (first | apply Kd.R_alloc | apply Kd.R_drewN | apply Kd.R_drew)); exact HO_0.out⟩, ⟨by repeat (first | (with_reducible first | exact HK.out | apply Kept.alloc | apply Kept.drewN | apply Kept.drew) | exact HK.out)⟩, ⟨Cz.w HB.out⟩⟩
     ·rw [if_neg c6] at H
      exact absurd H (by simp)
    ·rw [if_neg c5] at H
     exact absurd H (by simp)
   ·rw [if_neg c4] at H
    have c4b0 : decide (x8_1 < (l0.length : Int)) = false := decide_eq_false c4
    have c4b9 : decide (x8_1 < (x0_1.length : Int)) = false := by (rw [← hl0_1]; exact c4b0)
    clear c4
    obtain rfl := Option.some.inj H
    go_wp2
    first | go_end0 | ((try simp only [Exit.inBlock, Exit.then]); refine bodyPost_ret (results_none rfl _ _ _) rfl ?_)
    exact ⟨by first | rfl | (simp [errW_none, errW_some] <;> rfl) | (simp [*, errW_none, errW_some] <;> rfl), (by first | exact (Cz.r HO_0.out) | (simp only [hl0_1]; exact (Cz.r HO_0.out))), Cz.w HB.out, by repeat (first | (with_reducible first | exact HK.out | apply Kept.alloc | apply Kept.drewN | apply Kept.drew) | exact HK.out)⟩
def impl_addTimes.l0 : Nat → List Int → Int → List Int → Int → Int → Option (List Int)
 | 0, _, _, _, _, _ => none
 | k + 1, x0, x2, x8, x9, x10 => if x10 < x9 then (if 0 ≤ x10 then (if x10 < (x8.length : Int) then (if x10 < (x0.length : Int) then ((impl_mul.f k (rd x8 x10) x2).bind fun t405 => (impl_addTimes.l0 k (x0.set (x10 : Int).toNat (Go.bits .xor .i64 (rd x0 x10) t405)) x2 x8 x9 (wrap64 (x10 + 1)))) else (none)) else (none)) else (none)) else (some x0)
def impl_addTimes.f (k : Nat) (l0 : List Int) (l1 : List Int) (a2 : Int) : Option (List Int) := impl_addTimes.l0 k l0 a2 l1 (l1.length : Int) 0
def impl_addTimes.T3 : Bool × List (List Nat × List Nat) := (true, [([], []), ([], []), ([0, 1], [0, 1]), ([2], [2]), ([], []), ([], []), ([4, 5], [4, 5]), ([3, 6], [3, 6]), ([0, 1, 0, 1, 2, 3, 4, 5, 6, 7], [0, 1]), ([8, 7, 6, 0, 1, 2, 3, 4, 5, 6, 7], [7, 8])])
def impl_addTimes.B3 : List Nat := [0, 0, 3, 7, 0, 0, 48, 127, 255, 511]
theorem impl_addTimes.tab3 : rtab .any (opsOf Try.f131 3) = impl_addTimes.T3 := by kernel_rfl
theorem impl_addTimes.bits3 : waitsOk impl_addTimes.T3.2 impl_addTimes.B3 = true := by kernel_rfl
set_option maxHeartbeats 8000000 in
set_option maxRecDepth 100000 in
theorem impl_addTimes.calls (k : Nat) (P0_ : Nat → Prop) (u9000_ : Value) (l0 : List Int) (A1 : Option Addr) (c1 : Nat) (l1 : List Int) (a2 : Int) (r : List Int) (w0 w : World) (hB : Below w0.heap.size w0 w) (ho0 : Kd.R (Kd.int .i64) 2 w w0.heap.size P0_ u9000_ l0) (hr1 : ∀ W_, Kept w W_ (fun k_ => P0_ k_) → Kd.C (Kd.int .i64) W_ A1 l1.length l1) (hc1 : l1.length ≤ c1) (h : impl_addTimes.f k l0 l1 a2 = some r) :
  Calls Try.prog 131 #[u9000_, .slice A1 l1.length c1, .int .i64 a2] w fun e w' => e = .returned (.tuple #[]) ∧ Kd.R (Kd.int .i64) 2 w' w0.heap.size (fun k_ => (P0_ k_ ∨ w.heap.size ≤ k_)) u9000_ r ∧ Below w0.heap.size w0 w' ∧ Kept w w' (fun k_ => P0_ k_) := by
 have HO0 := Aside0.mk (show Kd.R (Kd.int .i64) 2 w w0.heap.size (fun k_ => (P0_ k_ ∨ w.heap.size ≤ k_)) u9000_ l0 from Kd.R_mono ho0 (fun k_ hk => (.inl hk)))
 have HR1 := Aside0.mk hr1
 have HC1 := Aside0.mk hc1
 clear hr1 hc1
 have HK := Aside0.mk (Kept.refl w (fun k_ => P0_ k_))
 have HW0 := Aside0.mk hB.size
 have HB := Aside0.mk hB
 clear hB
 have H : (impl_addTimes.l0 k l0 a2 l1 (l1.length : Int) 0) = some r := h
 clear h
 have H' := Aside0.mk H
 clear H
 go_enter Try.func131, Try.ntmps131
 go_wp2
 go_loopg [10] k (fun kq v10 w' => ∃ (x0_1 : List Int) (x10_1 : Int), v10 = .int .i64 x10_1 ∧ Aside0 (impl_addTimes.l0 kq x0_1 a2 l1 (l1.length : Int) x10_1 = some r) ∧ Aside0 (kq ≤ k) ∧ Aside0 (Kd.R (Kd.int .i64) 2 w' w0.heap.size (fun k_ => (P0_ k_ ∨ w.heap.size ≤ k_)) u9000_ x0_1) ∧ Aside0 (Kept w w' (fun k_ => P0_ k_)) ∧ Aside0 (Below w0.heap.size w0 w'))
 case atStart => exact ⟨(l0), (0), (by first | rfl | (simp; done) | (simp [*]; done)), H', ⟨Nat.le_refl _⟩, ⟨Cz.r HO0.out⟩, ⟨by repeat (first | (with_reducible first | exact HK.out | apply Kept.alloc | apply Kept.drewN | apply Kept.drew) | exact HK.out)⟩, ⟨Cz.w HB.out⟩⟩
 case round =>
  clear H'
  try clear c1
  try clear p2
  obtain ⟨x0_1, x10_1, rfl, HA, HK1, HO_0, HK, HB⟩ := hrel
  cases gk with
  | zero => exact absurd HA.out (by simp [impl_addTimes.l0])
  | succ k1 =>
   have H := HA.out
   clear HA
   simp only [impl_addTimes.l0] at H
   by_cases c4 : x10_1 < (l1.length : Int)
   ·rw [if_pos c4] at H
    have c4b0 : decide (x10_1 < (l1.length : Int)) = true := decide_eq_true c4
    clear c4
    by_cases c5 : 0 ≤ x10_1
    ·rw [if_pos c5] at H
     have c5b0 : decide (0 ≤ x10_1) = true := decide_eq_true c5
     clear c5
     by_cases c6 : x10_1 < (l1.length : Int)
     ·rw [if_pos c6] at H
      have c6b0 : decide (x10_1 < (l1.length : Int)) = true := decide_eq_true c6
      clear c6
      by_cases c7 : x10_1 < (x0_1.length : Int)
      ·rw [if_pos c7] at H
       have c7b0 : decide (x10_1 < (x0_1.length : Int)) = true := decide_eq_true c7
       clear c7
       replace H := Option.bind_eq_some_iff.mp H
       obtain ⟨t405, A80, H⟩ := H
       replace H : (impl_addTimes.l0 k1 (x0_1.set (x10_1 : Int).toNat (Go.bits .xor .i64 (rd x0_1 x10_1) t405)) a2 l1 (l1.length : Int) (wrap64 (x10_1 + 1))) = some r := H
       have A8 := Aside0.mk A80
       clear A80
       obtain ⟨y406, hy406⟩ : ∃ y_ : List Int, y_ = (x0_1.set (x10_1 : Int).toNat (Go.bits .xor .i64 (rd x0_1 x10_1) t405)) := ⟨_, rfl⟩
       replace H : (impl_addTimes.l0 k1 y406 a2 l1 (l1.length : Int) (wrap64 (x10_1 + 1))) = some r := by first | (rw [hy406]; with_reducible exact H) | (have H2_ := (Option.bind_some _ _).symm.trans H; rw [hy406]; with_reducible exact H2_) | (have H2_ := (Option.bind_some _ _).symm.trans H; with_reducible exact H2_) | with_reducible exact H | (rw [hy406]; exact H) | exact H
       have Ny406 := Aside0.mk hy406
       clear hy406
       have H' := Aside0.mk H
       clear H
       have p403 : 0 ≤ (x10_1 : Int) := of_decide_eq_true (by first | (with_reducible assumption) | assumption)
       have q403 : x10_1 < (l1.length : Int) := of_decide_eq_true (by first | (with_reducible assumption) | assumption)
       obtain ⟨ad403, e403, hx403_0⟩ := Kd.at_int (Kd.C_kept_now HR1.out HK.out) x10_1 p403 q403
       cases e403
       replace p403 := eq_true p403
       replace q403 := eq_true q403
       try go_wp2
       have n_ := Cy.a3 (Kd.R_drew HO_0.out) (Kept.drew HK.out) (below_drew1 HB.out)
       clear HO_0 HK HB
       obtain ⟨HO_0, HK, HB⟩ := n_
       obtain ⟨Ao11, co11, eo11⟩ := Kd.R_slice HO_0.out
       (first | subst eo11 | (injection eo11 with f1_ f2_ f3_; have f4_ := f1_.symm; have f5_ := f3_.symm; clear f1_ f2_ f3_; subst f4_; subst f5_))
       have p404 : 0 ≤ (x10_1 : Int) := of_decide_eq_true (by first | (with_reducible assumption) | assumption)
       have q404 : x10_1 < (x0_1.length : Int) := of_decide_eq_true (by first | (with_reducible assumption) | assumption)
       obtain ⟨ad404, e404, hx404_0⟩ := Kd.at_int (Kd.R_reads' HO_0.out).2.2 x10_1 p404 q404
       cases e404
       replace p404 := eq_true p404
       replace q404 := eq_true q404
       refine start_ (n := 10) (S := fun w' => w'.cell? (ad404.add (x10_1).toNat) = some (.int .i64 (rd x0_1 x10_1))) (ds := [9]) #[false, false, false, false, false, false, false, false, false, false] (by kernel_rfl) rfl rfl (hx404_0) (fun hHeld => ?_); refine with_tabW impl_addTimes.tab3 impl_addTimes.bits3 (fun HT_ HW_ => ?_)
       generalize wr.drew = w10 at HO_0 HK HB hx404_0 hHeld ⊢
       refine Cy.pu 0 15 HT_ ?_
       refine Cy.pu 1 16 HT_ ?_
       refine Cy.pu 2 17 HT_ ?_
       refine Cy.pu 4 19 HT_ ?_
       refine Cy.pu 5 20 HT_ ?_
       refine Cy.tk 3 18 HT_ HW_ hHeld ?_
       refine one_ (i := 6) (N := some 21) #[true, true, true, true, true, true, true, false, false, false] rfl rfl (one_of HT_.out (by kernel_rfl)) (by decide) (fun K hK => ?_)
       refine goes_ Try.func132 (by kernel_rfl) rfl #[.int .i64 (rd l1 x10_1), .int .i64 a2] (by rfl) rfl rfl Cy.ls ?_
       with_reducible refine (impl_mul.calls k1 (rd l1 x10_1) a2 t405 _ A8.out).mono ?_
       rintro e w' ⟨rfl, ⟨nd, rfl⟩⟩
       refine ⟨_, rfl, ?_⟩
       have p9 : 0 ≤ (x10_1 : Int) := of_decide_eq_true (by first | (with_reducible assumption) | assumption)
       have q9 : (x10_1 : Int) < ((x0_1.length : Int) : Int) := of_decide_eq_true (by first | (with_reducible assumption) | assumption)
       obtain ⟨go9, co9, eo9, gb9, gl9, cl9, HG9⟩ := Kd.R_form HO_0.out (by omega)
       (first | cases eo9 | (injection eo9 with ea_ en_ ec_; (first | subst ea_ | (injection ea_ with ea_; subst ea_)); subst ec_; clear en_))
       have GB9 := Aside0.mk gb9
       have GG9 := Aside0.mk HG9
       clear gb9 gl9 HG9
       have HMgo9 := Aside0.mk (show (P0_ go9 ∨ w.heap.size ≤ go9) from (HO_0.out.1 _ rfl))
       (first | simp only [add_plain] at hx404_0 | skip)
       obtain ⟨hx9_0, hf9_0⟩ := Kd.R_celln 0 HO_0.out (x10_1 : Int) p9 q9
       replace p9 := eq_true p9
       replace q9 := eq_true q9
       have HP12 := Kd.R_putn HO_0.out (x10_1 : Int) (Go.bits .xor .i64 (rd x0_1 x10_1) t405)
       rw [← Ny406.out] at HP12
       have HQ12 := Aside0.mk HP12
       clear HP12
       refine hK.out _ _ (hHeld) (fun hHeld => ?_)
       clear hK K
       refine norm_ (a' := ?_) ?_ ?_
       rotate_left
       ·show Act.put _ (some 21) _ = _
        simp only [Act.put, List.setIfInBounds_toArray, List.set_cons_zero, List.set_cons_succ, i64_w, i32_w]
        rfl
       refine Cy.pu 7 22 HT_ ?_
       refine Cy.pu 8 23 HT_ ?_
       refine last_ (i := 9) (N := none) #[true, true, true, true, true, true, true, true, true, true] rfl rfl (one_of HT_.out (by kernel_rfl)) (by decide) (fun K hK => ?_)
       refine skip_ (w1 := ?_) (by rfl) rfl ?_ ?_
       rotate_left
       ·go_simp
        rfl
       refine hK.out _ _ ?_
       clear hK K
       refine done_ (done_of HT_.out (by kernel_rfl)) ?_
       try go_wp2
       go_roundg k1
       case measure => have := HK1.out; omega
       case rel => exact ⟨(y406), (wrap64 (x10_1 + 1)), (by first | rfl | (simp; done) | (simp [*]; done)), H', ⟨by have := HK1.out; omega⟩, ⟨by (with_reducible repeat (first | apply Kd.R_alloc | apply Kd.R_drewN | apply Kd.R_drew)); exact HQ12.out⟩, ⟨by repeat (first | (with_reducible first | exact HK.out | apply Kept.alloc | apply Kept.drewN | apply Kept.drew | refine Kept.setCell ?_ HMgo9.out _) | exact HK.out)⟩, ⟨by repeat (first | (with_reducible first | exact HB.out | apply below_alloc | apply pw_below_drewN | apply below_drew1 | refine below_set ?_ GB9.out) | exact HB.out)⟩⟩
      ·rw [if_neg c7] at H
       exact absurd H (by simp)
     ·rw [if_neg c6] at H
      exact absurd H (by simp)
    ·rw [if_neg c5] at H
     exact absurd H (by simp)
   ·rw [if_neg c4] at H
    have c4b0 : decide (x10_1 < (l1.length : Int)) = false := decide_eq_false c4
    clear c4
    obtain rfl := Option.some.inj H
    go_wp2
    first | go_end0 | ((try simp only [Exit.inBlock, Exit.then]); refine bodyPost_ret (results_none rfl _ _ _) rfl ?_)
    exact ⟨by first | rfl | (simp [errW_none, errW_some] <;> rfl) | (simp [*, errW_none, errW_some] <;> rfl), Cz.r HO_0.out, Cz.w HB.out, by repeat (first | (with_reducible first | exact HK.out | apply Kept.alloc | apply Kept.drewN | apply Kept.drew) | exact HK.out)⟩
end Go.Proofs.Ytlololbhlnapkaa.XFnExactDecode

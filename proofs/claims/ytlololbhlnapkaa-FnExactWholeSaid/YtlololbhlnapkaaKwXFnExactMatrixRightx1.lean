/- Plain functions of what the law reaches, proofs that the calls come to them, and the law's row: written by a program of this session (xprint.py) over the kit's print. No conditions beyond each lemma's own. -/
import Derived.Test.YtlololbhlnapkaaKwXFnExactMatrixRightx0
namespace Go.Proofs.Ytlololbhlnapkaa.XFnExactMatrixRight
open Go.RowKit Go.Proofs.YtlololbhlnapkaaW.PrintWords Go.Proofs.YtlololbhlnapkaaW.PrintLast Go.Proofs.YtlololbhlnapkaaW.PrintMore
attribute [local go_sem] max2_int min2_int max_two min_two max_three min_three max_four min_four   -- for this text's walks alone
set_option linter.unusedVariables false
set_option linter.unusedSimpArgs false
def spec_l02Byte.f (a0 : Int) : Option (Bool) := if a0 ≥ 0 then (some (decide (a0 ≤ 255))) else (some false)
set_option maxHeartbeats 8000000 in
set_option maxRecDepth 100000 in
theorem spec_l02Byte.calls (a0 : Int) (r : Bool) (w : World) (h : spec_l02Byte.f a0 = some r) :
    Calls Try.prog 65 #[.int .i64 a0] w fun e w' => e = .returned (.bool r) ∧ Drawn0 w w' := by
  have H : (if a0 ≥ 0 then (some (decide (a0 ≤ 255))) else (some false)) = some r := h
  clear h
  by_cases c2 : a0 ≥ 0
  · rw [if_pos c2] at H
    have c2b0 : decide (0 ≤ a0) = true := decide_eq_true c2
    clear c2
    obtain rfl := Option.some.inj H
    go_enter Try.func65, Try.ntmps65
    go_wp2
    go_ret
    exact ⟨by first | rfl | (simp; done) | (simp [*]; done), by repeat (first | exact Drawn0.refl _ | apply Drawn0.step)⟩
  · rw [if_neg c2] at H
    have c2b0 : decide (0 ≤ a0) = false := decide_eq_false c2
    clear c2
    obtain rfl := Option.some.inj H
    go_enter Try.func65, Try.ntmps65
    go_wp2
    go_ret
    exact ⟨by first | rfl | (simp; done) | (simp [*]; done), by repeat (first | exact Drawn0.refl _ | apply Drawn0.step)⟩
mutual
def spec_MatrixRight.j0 : Nat → Bool → Int → Int → List Int → Option (Bool)
  | 0, _, _, _, _ => none
  | k + 1, x32, x104000, x104001, x104002 => if x32 = true then (some false) else (spec_MatrixRight.l0 k 0 x104000 x104001 x104002)
def spec_MatrixRight.l0 : Nat → Int → Int → Int → List Int → Option (Bool)
  | 0, _, _, _, _ => none
  | k + 1, x3, x104000, x104001, x104002 => if x3 < (x104002.length : Int) then (if 0 ≤ x3 then ((spec_l02Byte.f (rd x104002 x3)).bind fun t105 => (if t105 = true then (spec_MatrixRight.l0 k (wrap64 (x3 + 1)) x104000 x104001 x104002) else (some false))) else (none)) else (some true)
end
def laws_toInt64S.l0 : Nat → List Int → List Int → Int → Option (List Int)
  | 0, _, _, _ => none
  | k + 1, x0, x3, x4 => if x4 < (x0.length : Int) then (if 0 ≤ x4 then (if x4 < (x3.length : Int) then (laws_toInt64S.l0 k x0 (x3.set (x4 : Int).toNat (rd x0 x4)) (wrap64 (x4 + 1))) else (none)) else (none)) else (some x3)
def impl_within.f (a0 : Int) (a1 : Int) (a2 : Int) : Option (Bool) := if a0 ≥ a1 then (some (decide (a0 ≤ a2))) else (some false)
set_option maxHeartbeats 8000000 in
set_option maxRecDepth 100000 in
theorem impl_within.calls (a0 : Int) (a1 : Int) (a2 : Int) (r : Bool) (w : World) (h : impl_within.f a0 a1 a2 = some r) :
    Calls Try.prog 66 #[.int .i64 a0, .int .i64 a1, .int .i64 a2] w fun e w' => e = .returned (.bool r) ∧ Drawn0 w w' := by
  have H : (if a0 ≥ a1 then (some (decide (a0 ≤ a2))) else (some false)) = some r := h
  clear h
  by_cases c4 : a0 ≥ a1
  · rw [if_pos c4] at H
    have c4b0 : decide (a1 ≤ a0) = true := decide_eq_true c4
    clear c4
    obtain rfl := Option.some.inj H
    go_enter Try.func66, Try.ntmps66
    go_wp2
    go_ret
    exact ⟨by first | rfl | (simp; done) | (simp [*]; done), by repeat (first | exact Drawn0.refl _ | apply Drawn0.step)⟩
  · rw [if_neg c4] at H
    have c4b0 : decide (a1 ≤ a0) = false := decide_eq_false c4
    clear c4
    obtain rfl := Option.some.inj H
    go_enter Try.func66, Try.ntmps66
    go_wp2
    go_ret
    exact ⟨by first | rfl | (simp; done) | (simp [*]; done), by repeat (first | exact Drawn0.refl _ | apply Drawn0.step)⟩
def impl_isByte.f (a0 : Int) : Option (Bool) := (impl_within.f a0 0 255).bind fun t117 => (some t117)
def impl_MatrixRight_1.f (a0 : Int) : Option (Bool) := (impl_isByte.f a0).bind fun t118 => (some (!t118))
def slices_IndexFunc_int64_int64.l0 : Nat → List Int → Int → Int → Option (Int)
  | 0, _, _, _ => none
  | k + 1, x0, x7, x8 => if x8 < x7 then (if 0 ≤ x8 then (if x8 < (x0.length : Int) then ((impl_MatrixRight_1.f (rd x0 x8)).bind fun t120 => (if t120 = true then (some x8) else (slices_IndexFunc_int64_int64.l0 k x0 x7 (wrap64 (x8 + 1))))) else (none)) else (none)) else (some (-1))
end Go.Proofs.Ytlololbhlnapkaa.XFnExactMatrixRight

-- PRINTED BY print.sh 35421559b90ae4d0a3588c463048766b98c2df88dd9212a6774a882060cdf62d: not written by this session
import Derived.Test.YteidgaeonffilaaPFnFieldx0
import Derived.Test.YteidgaeonffilaaPFnFieldx1
namespace Go.Proofs.Yteidgaeonffilaa.PFnField
open Go.RowKit Go.Proofs.YteidgaeonffilaaW.PrintWords Go.Proofs.YteidgaeonffilaaW.PrintLast Go.Proofs.YteidgaeonffilaaW.PrintMore
attribute [local go_sem] max2_int min2_int max_two min_two max_three min_three max_four min_four   -- for this text's walks alone
set_option linter.unusedVariables false
set_option linter.unusedSimpArgs false

/-! ### laws_lwAt: function 41 -/
def laws_lwAt.f (l0 : List Int) (a1 : Int) (a2 : Int) : Option (Int) := if a2 ≤ 1 then (some 0) else (if (l0.length : Int) = 0 then (some 0) else (if 0 ≤ (Int.tmod a1 (l0.length : Int)) then (if (Int.tmod a1 (l0.length : Int)) < (l0.length : Int) then (if a2 = 0 then (none) else (some (Int.tmod (wrap64 (rd l0 (Int.tmod a1 (l0.length : Int)))) a2))) else (none)) else (none)))
set_option maxHeartbeats 8000000 in
set_option maxRecDepth 100000 in
theorem laws_lwAt.calls (A0 : Option Addr) (c0 : Nat) (l0 : List Int) (a1 : Int) (a2 : Int) (r : Int) (w : World) (hr0 : Kd.C (Kd.int .u8) w A0 l0.length l0) (hc0 : l0.length ≤ c0) (h : laws_lwAt.f l0 a1 a2 = some r) :
    Calls Try.prog 41 #[.slice A0 l0.length c0, .int .i64 a1, .int .i64 a2] w fun e w' => e = .returned (.int .i64 r) ∧ Drawn0 w w' := by
  have HR0 := Aside0.mk hr0
  have HC0 := Aside0.mk hc0
  clear hr0 hc0
  have H : (if a2 ≤ 1 then (some 0) else (if (l0.length : Int) = 0 then (some 0) else (if 0 ≤ (Int.tmod a1 (l0.length : Int)) then (if (Int.tmod a1 (l0.length : Int)) < (l0.length : Int) then (if a2 = 0 then (none) else (some (Int.tmod (wrap64 (rd l0 (Int.tmod a1 (l0.length : Int)))) a2))) else (none)) else (none)))) = some r := h
  clear h
  by_cases c4 : a2 ≤ 1
  · rw [if_pos c4] at H
    have c4b0 : decide (a2 ≤ 1) = true := decide_eq_true c4
    clear c4
    obtain rfl := Option.some.inj H
    go_enter Try.func41, Try.ntmps41
    go_wp2
    go_ret
    exact ⟨by first | rfl | (simp; done) | (simp [*]; done), by repeat (first | exact Drawn0.refl _ | apply Drawn0.step)⟩
  · rw [if_neg c4] at H
    have c4b0 : decide (a2 ≤ 1) = false := decide_eq_false c4
    clear c4
    by_cases c5 : (l0.length : Int) = 0
    · rw [if_pos c5] at H
      have c5b0 : ((l0.length : Int) == 0) = true := beq_iff_eq.mpr c5
      have c5b1 : ((l0.length : Int) != 0) = false := bne_eq_false_iff_eq.mpr c5
      clear c5
      obtain rfl := Option.some.inj H
      go_enter Try.func41, Try.ntmps41
      go_wp2
      go_ret
      exact ⟨by first | rfl | (simp; done) | (simp [*]; done), by repeat (first | exact Drawn0.refl _ | apply Drawn0.step)⟩
    · rw [if_neg c5] at H
      have c5b0 : ((l0.length : Int) == 0) = false := beq_eq_false_iff_ne.mpr c5
      have c5b1 : ((l0.length : Int) != 0) = true := bne_iff_ne.mpr c5
      have c5b2 : ¬ (l0 = []) := fun h_ => c5 (by rw [h_]; rfl)
      obtain ⟨ji6, hji6⟩ : ∃ j_ : Int, (Int.tmod a1 (l0.length : Int)) = j_ := ⟨_, rfl⟩
      replace H : (if 0 ≤ (ji6) then (if (ji6) < (l0.length : Int) then (if a2 = 0 then (none) else (some (Int.tmod (wrap64 (rd l0 (ji6))) a2))) else (none)) else (none)) = some r := by first | (rw [hji6] at H; exact H) | (simp only [hji6] at H ⊢; exact H)
      by_cases c7 : 0 ≤ (ji6)
      · rw [if_pos c7] at H
        have c7b0 : decide (0 ≤ (ji6)) = true := decide_eq_true c7
        clear c7
        by_cases c8 : (ji6) < (l0.length : Int)
        · rw [if_pos c8] at H
          have c8b0 : decide ((ji6) < (l0.length : Int)) = true := decide_eq_true c8
          clear c8
          by_cases c9 : a2 = 0
          · rw [if_pos c9] at H
            exact absurd H (by simp)
          · rw [if_neg c9] at H
            have c9b0 : (a2 == 0) = false := beq_eq_false_iff_ne.mpr c9
            have c9b1 : (a2 != 0) = true := bne_iff_ne.mpr c9
            obtain rfl := Option.some.inj H
            have p121 : 0 ≤ ((ji6) : Int) := of_decide_eq_true (by first | (with_reducible assumption) | assumption)
            have q121 : (ji6) < (l0.length : Int) := of_decide_eq_true (by first | (with_reducible assumption) | assumption)
            obtain ⟨ad121, e121, hx121_0⟩ := Kd.at_int HR0.out (ji6) p121 q121
            cases e121
            replace p121 := eq_true p121
            replace q121 := eq_true q121
            go_enter Try.func41, Try.ntmps41
            go_wp2
            go_ret
            exact ⟨by first | rfl | (simp; done) | (simp only [← hji6] <;> (first | rfl | simp)) | (simp [*]; done), by repeat (first | exact Drawn0.refl _ | apply Drawn0.step)⟩
        · rw [if_neg c8] at H
          exact absurd H (by simp)
      · rw [if_neg c7] at H
        exact absurd H (by simp)

/-! ### laws_FnField: function 14 -/
mutual
def laws_FnField.j0 : Nat → List Int → List Int → Bool → Option (Bool)
  | 0, _, _, _ => none
  | k + 1, x0, x1, x17 => if x17 = true then (some true) else ((laws_lwAt.f x0 0 256).bind fun t122 => ((laws_lwAt.f x0 1 256).bind fun t123 => ((laws_lwAt.f x1 0 256).bind fun t124 => ((impl_FieldMul.f k t122 t123).bind fun t125 => ((spec_FieldMul.f k t122 t123).bind fun t126 => (if t125 = t126 then ((impl_FieldMul.f k t123 t122).bind fun t127 => (if t125 = t127 then ((impl_FieldMul.f k t125 t124).bind fun t128 => ((impl_FieldMul.f k t123 t124).bind fun t129 => ((impl_FieldMul.f k t122 t129).bind fun t130 => (if t128 = t130 then ((impl_FieldMul.f k t122 (Go.bits .xor .i64 t123 t124)).bind fun t131 => ((impl_FieldMul.f k t122 t124).bind fun t132 => (if t131 = (Go.bits .xor .i64 t125 t132) then ((impl_FieldMul.f k t122 1).bind fun t133 => (laws_FnField.j1 k t122 t123 t124 t125 (t133 != t122))) else (laws_FnField.j1 k t122 t123 t124 t125 true)))) else (laws_FnField.j1 k t122 t123 t124 t125 true))))) else (laws_FnField.j1 k t122 t123 t124 t125 true))) else (laws_FnField.j1 k t122 t123 t124 t125 true)))))))
def laws_FnField.j1 : Nat → Int → Int → Int → Int → Bool → Option (Bool)
  | 0, _, _, _, _, _ => none
  | k + 1, x5, x6, x7, x8, x68 => if x68 = true then (some false) else (if x6 = 0 then (if x8 = 0 then ((impl_FieldLog.f k x6).bind fun t134 => (if t134 = (-1) then ((impl_FieldInv.f k x6).bind fun t135 => (some (t135 == 0))) else (some false))) else (some false)) else ((impl_FieldLog.f k x6).bind fun t136 => ((impl_FieldInv.f k x6).bind fun t137 => ((impl_FieldMul.f k x6 t137).bind fun t138 => (if t138 = 1 then ((impl_FieldDiv.f k x8 x6).bind fun t139 => (if t139 = x5 then (if t136 ≥ 0 then (if t136 < 255 then ((impl_FieldExp.f k t136).bind fun t140 => (if t140 = x6 then ((impl_FieldPow.f k x6 255).bind fun t141 => (if t141 = 1 then ((impl_FieldPow.f k x6 x7).bind fun t142 => ((impl_FieldMul.f k t142 x6).bind fun t143 => ((impl_FieldPow.f k x6 (wrap64 (x7 + 1))).bind fun t144 => (some (t143 == t144))))) else (some false))) else (some false))) else (some false)) else (some false)) else (some false))) else (some false))))))
end
def laws_FnField.f (k : Nat) (l0 : List Int) (l1 : List Int) : Option (Bool) := if (l0.length : Int) > 1048576 then (laws_FnField.j0 k l0 l1 true) else (laws_FnField.j0 k l0 l1 (decide ((l1.length : Int) > 1048576)))
theorem laws_FnField.mono_l : ∀ k, (∀ y0 y1 y2, LeO (laws_FnField.j0 k y0 y1 y2) (laws_FnField.j0 (k + 1) y0 y1 y2)) ∧ (∀ y0 y1 y2 y3 y4, LeO (laws_FnField.j1 k y0 y1 y2 y3 y4) (laws_FnField.j1 (k + 1) y0 y1 y2 y3 y4))
  | 0 => ⟨fun _ _ _ r h => by simp [laws_FnField.j0] at h, fun _ _ _ _ _ r h => by simp [laws_FnField.j1] at h⟩
  | k + 1 => by
    obtain ⟨ih0, ih1⟩ := laws_FnField.mono_l k
    refine ⟨?_, ?_⟩
    · intro y0 y1 y2
      unfold laws_FnField.j0
      repeat' first
      | (with_reducible exact ih0 _ _ _)
      | (with_reducible exact ih1 _ _ _ _ _)
      | (with_reducible exact impl_FieldDiv.mono _ _ _)
      | (with_reducible exact impl_FieldExp.mono _ _)
      | (with_reducible exact impl_FieldInv.mono _ _)
      | (with_reducible exact impl_FieldLog.mono _ _)
      | (with_reducible exact impl_FieldMul.mono _ _ _)
      | (with_reducible exact impl_FieldPow.mono _ _ _)
      | (with_reducible exact spec_FieldMul.mono _ _ _)
      | (with_reducible exact LeO.refl _)
      | (with_reducible exact LeO.none _)
      | (with_reducible refine LeO.ite ?_ ?_)
      | (with_reducible refine LeO.bind ?_ (fun _ => ?_))
      | exact ih0 _ _ _
      | exact ih1 _ _ _ _ _
      | exact impl_FieldDiv.mono _ _ _
      | exact impl_FieldExp.mono _ _
      | exact impl_FieldInv.mono _ _
      | exact impl_FieldLog.mono _ _
      | exact impl_FieldMul.mono _ _ _
      | exact impl_FieldPow.mono _ _ _
      | exact spec_FieldMul.mono _ _ _
      | exact LeO.none _
      | refine LeO.ite ?_ ?_
      | refine LeO.bind ?_ (fun _ => ?_)
    · intro y0 y1 y2 y3 y4
      unfold laws_FnField.j1
      repeat' first
      | (with_reducible exact ih0 _ _ _)
      | (with_reducible exact ih1 _ _ _ _ _)
      | (with_reducible exact impl_FieldDiv.mono _ _ _)
      | (with_reducible exact impl_FieldExp.mono _ _)
      | (with_reducible exact impl_FieldInv.mono _ _)
      | (with_reducible exact impl_FieldLog.mono _ _)
      | (with_reducible exact impl_FieldMul.mono _ _ _)
      | (with_reducible exact impl_FieldPow.mono _ _ _)
      | (with_reducible exact spec_FieldMul.mono _ _ _)
      | (with_reducible exact LeO.refl _)
      | (with_reducible exact LeO.none _)
      | (with_reducible refine LeO.ite ?_ ?_)
      | (with_reducible refine LeO.bind ?_ (fun _ => ?_))
      | exact ih0 _ _ _
      | exact ih1 _ _ _ _ _
      | exact impl_FieldDiv.mono _ _ _
      | exact impl_FieldExp.mono _ _
      | exact impl_FieldInv.mono _ _
      | exact impl_FieldLog.mono _ _
      | exact impl_FieldMul.mono _ _ _
      | exact impl_FieldPow.mono _ _ _
      | exact spec_FieldMul.mono _ _ _
      | exact LeO.none _
      | refine LeO.ite ?_ ?_
      | refine LeO.bind ?_ (fun _ => ?_)
theorem laws_FnField.mono : ∀ a0 a1 k, LeO (laws_FnField.f k a0 a1) (laws_FnField.f (k + 1) a0 a1) := by
  intro a0 a1 k
  obtain ⟨ih0, ih1⟩ := laws_FnField.mono_l k
  unfold laws_FnField.f
  repeat' first
      | (with_reducible exact ih0 _ _ _)
      | (with_reducible exact ih1 _ _ _ _ _)
      | (with_reducible exact impl_FieldDiv.mono _ _ _)
      | (with_reducible exact impl_FieldExp.mono _ _)
      | (with_reducible exact impl_FieldInv.mono _ _)
      | (with_reducible exact impl_FieldLog.mono _ _)
      | (with_reducible exact impl_FieldMul.mono _ _ _)
      | (with_reducible exact impl_FieldPow.mono _ _ _)
      | (with_reducible exact spec_FieldMul.mono _ _ _)
      | (with_reducible exact LeO.refl _)
      | (with_reducible exact LeO.none _)
      | (with_reducible refine LeO.ite ?_ ?_)
      | (with_reducible refine LeO.bind ?_ (fun _ => ?_))
      | exact ih0 _ _ _
      | exact ih1 _ _ _ _ _
      | exact impl_FieldDiv.mono _ _ _
      | exact impl_FieldExp.mono _ _
      | exact impl_FieldInv.mono _ _
      | exact impl_FieldLog.mono _ _
      | exact impl_FieldMul.mono _ _ _
      | exact impl_FieldPow.mono _ _ _
      | exact spec_FieldMul.mono _ _ _
      | exact LeO.none _
      | refine LeO.ite ?_ ?_
      | refine LeO.bind ?_ (fun _ => ?_)
set_option maxHeartbeats 8000000 in
set_option maxRecDepth 100000 in
theorem laws_FnField.calls (k : Nat) (A0 : Option Addr) (c0 : Nat) (l0 : List Int) (A1 : Option Addr) (c1 : Nat) (l1 : List Int) (r : Bool) (w : World) (hr0 : Kd.C (Kd.int .u8) w A0 l0.length l0) (hc0 : l0.length ≤ c0) (hr1 : Kd.C (Kd.int .u8) w A1 l1.length l1) (hc1 : l1.length ≤ c1) (h : laws_FnField.f k l0 l1 = some r) :
    Calls Try.prog 14 #[.slice A0 l0.length c0, .slice A1 l1.length c1] w fun e w' => e = .returned (.bool r) ∧ Drawn0 w w' := by
  have HR0 := Aside0.mk hr0
  have HC0 := Aside0.mk hc0
  clear hr0 hc0
  have HR1 := Aside0.mk hr1
  have HC1 := Aside0.mk hc1
  clear hr1 hc1
  have H : (if (l0.length : Int) > 1048576 then (laws_FnField.j0 k l0 l1 true) else (laws_FnField.j0 k l0 l1 (decide ((l1.length : Int) > 1048576)))) = some r := h
  clear h
  have HC3 := Aside0.mk H
  clear H
  go_enter Try.func14, Try.ntmps14
  go_upto_region 1 with (fail)
  go_cut [17] (fun v17 wc => ∃ (kq : Nat) (x17_2 : Bool), v17 = .bool x17_2 ∧ Aside0 (laws_FnField.j0 kq l0 l1 x17_2 = some r) ∧ Aside0 (kq ≤ k) ∧ Drawn0 w wc)
  case first =>
    have H := HC3.out
    clear HC3
    by_cases c4 : (l0.length : Int) > 1048576
    · rw [if_pos c4] at H
      have c4b0 : decide (1048576 < (l0.length : Int)) = true := decide_eq_true c4
      have c4b1 : decide (1048576 < l0.length) = true := decide_eq_true (by omega)
      clear c4
      (first | rw [c4b0] | (simp only [i64_w, i32_w]; rw [c4b0]) | skip)
      have H' := Aside0.mk H
      clear H
      go_wp2
      go_meet
      case rel => exact ⟨_, (true), (by first | rfl | (simp; done) | (simp [*]; done)), H', ⟨by first | omega | exact Nat.le_refl _⟩, by repeat (first | exact Drawn0.refl _ | apply Drawn0.step)⟩
    · rw [if_neg c4] at H
      have c4b0 : decide (1048576 < (l0.length : Int)) = false := decide_eq_false c4
      have c4b1 : decide (1048576 < l0.length) = false := decide_eq_false (by omega)
      clear c4
      (first | rw [c4b0] | (simp only [i64_w, i32_w]; rw [c4b0]) | skip)
      have H' := Aside0.mk H
      clear H
      go_wp2
      go_meet
      case rel => exact ⟨_, (decide ((l1.length : Int) > 1048576)), (by first | rfl | (simp; done) | (simp [*]; done)), H', ⟨by first | omega | exact Nat.le_refl _⟩, by repeat (first | exact Drawn0.refl _ | apply Drawn0.step)⟩
  case rest =>
    clear HC3
    try clear c1
    try clear p2
    try clear c4
    try clear c4b0
    try clear c4b1
    obtain ⟨kq, x17_2, rfl, HA, HJ2, ⟨mc2, rfl⟩⟩ := hcut
    cases kq with
    | zero => exact absurd HA.out (by simp [laws_FnField.j0])
    | succ kj2 =>
      have H := HA.out
      clear HA
      simp only [laws_FnField.j0] at H
      by_cases c5 : x17_2 = true
      · subst c5
        have H1 : (some true) = some r := by rw [if_pos rfl] at H; exact H
        clear H
        have H := H1
        clear H1
        obtain rfl := Option.some.inj H
        go_wp2
        go_ret
        exact ⟨by first | rfl | (simp; done) | (simp [*]; done), by repeat (first | exact Drawn0.refl _ | apply Drawn0.step)⟩
      · replace c5 := Bool.eq_false_iff.mpr c5
        subst c5
        have H1 : ((laws_lwAt.f l0 0 256).bind fun t122 => ((laws_lwAt.f l0 1 256).bind fun t123 => ((laws_lwAt.f l1 0 256).bind fun t124 => ((impl_FieldMul.f kj2 t122 t123).bind fun t125 => ((spec_FieldMul.f kj2 t122 t123).bind fun t126 => (if t125 = t126 then ((impl_FieldMul.f kj2 t123 t122).bind fun t127 => (if t125 = t127 then ((impl_FieldMul.f kj2 t125 t124).bind fun t128 => ((impl_FieldMul.f kj2 t123 t124).bind fun t129 => ((impl_FieldMul.f kj2 t122 t129).bind fun t130 => (if t128 = t130 then ((impl_FieldMul.f kj2 t122 (Go.bits .xor .i64 t123 t124)).bind fun t131 => ((impl_FieldMul.f kj2 t122 t124).bind fun t132 => (if t131 = (Go.bits .xor .i64 t125 t132) then ((impl_FieldMul.f kj2 t122 1).bind fun t133 => (laws_FnField.j1 kj2 t122 t123 t124 t125 (t133 != t122))) else (laws_FnField.j1 kj2 t122 t123 t124 t125 true)))) else (laws_FnField.j1 kj2 t122 t123 t124 t125 true))))) else (laws_FnField.j1 kj2 t122 t123 t124 t125 true))) else (laws_FnField.j1 kj2 t122 t123 t124 t125 true))))))) = some r := by rw [if_neg (show ¬ (false = true) by decide)] at H; exact H
        clear H
        have H := H1
        clear H1
        replace H := Option.bind_eq_some_iff.mp H
        obtain ⟨t122, A60, H⟩ := H
        replace H : ((laws_lwAt.f l0 1 256).bind fun t123 => ((laws_lwAt.f l1 0 256).bind fun t124 => ((impl_FieldMul.f kj2 t122 t123).bind fun t125 => ((spec_FieldMul.f kj2 t122 t123).bind fun t126 => (if t125 = t126 then ((impl_FieldMul.f kj2 t123 t122).bind fun t127 => (if t125 = t127 then ((impl_FieldMul.f kj2 t125 t124).bind fun t128 => ((impl_FieldMul.f kj2 t123 t124).bind fun t129 => ((impl_FieldMul.f kj2 t122 t129).bind fun t130 => (if t128 = t130 then ((impl_FieldMul.f kj2 t122 (Go.bits .xor .i64 t123 t124)).bind fun t131 => ((impl_FieldMul.f kj2 t122 t124).bind fun t132 => (if t131 = (Go.bits .xor .i64 t125 t132) then ((impl_FieldMul.f kj2 t122 1).bind fun t133 => (laws_FnField.j1 kj2 t122 t123 t124 t125 (t133 != t122))) else (laws_FnField.j1 kj2 t122 t123 t124 t125 true)))) else (laws_FnField.j1 kj2 t122 t123 t124 t125 true))))) else (laws_FnField.j1 kj2 t122 t123 t124 t125 true))) else (laws_FnField.j1 kj2 t122 t123 t124 t125 true)))))) = some r := H
        have A6 := Aside0.mk A60
        clear A60
        replace H := Option.bind_eq_some_iff.mp H
        obtain ⟨t123, A70, H⟩ := H
        replace H : ((laws_lwAt.f l1 0 256).bind fun t124 => ((impl_FieldMul.f kj2 t122 t123).bind fun t125 => ((spec_FieldMul.f kj2 t122 t123).bind fun t126 => (if t125 = t126 then ((impl_FieldMul.f kj2 t123 t122).bind fun t127 => (if t125 = t127 then ((impl_FieldMul.f kj2 t125 t124).bind fun t128 => ((impl_FieldMul.f kj2 t123 t124).bind fun t129 => ((impl_FieldMul.f kj2 t122 t129).bind fun t130 => (if t128 = t130 then ((impl_FieldMul.f kj2 t122 (Go.bits .xor .i64 t123 t124)).bind fun t131 => ((impl_FieldMul.f kj2 t122 t124).bind fun t132 => (if t131 = (Go.bits .xor .i64 t125 t132) then ((impl_FieldMul.f kj2 t122 1).bind fun t133 => (laws_FnField.j1 kj2 t122 t123 t124 t125 (t133 != t122))) else (laws_FnField.j1 kj2 t122 t123 t124 t125 true)))) else (laws_FnField.j1 kj2 t122 t123 t124 t125 true))))) else (laws_FnField.j1 kj2 t122 t123 t124 t125 true))) else (laws_FnField.j1 kj2 t122 t123 t124 t125 true))))) = some r := H
        have A7 := Aside0.mk A70
        clear A70
        replace H := Option.bind_eq_some_iff.mp H
        obtain ⟨t124, A80, H⟩ := H
        replace H : ((impl_FieldMul.f kj2 t122 t123).bind fun t125 => ((spec_FieldMul.f kj2 t122 t123).bind fun t126 => (if t125 = t126 then ((impl_FieldMul.f kj2 t123 t122).bind fun t127 => (if t125 = t127 then ((impl_FieldMul.f kj2 t125 t124).bind fun t128 => ((impl_FieldMul.f kj2 t123 t124).bind fun t129 => ((impl_FieldMul.f kj2 t122 t129).bind fun t130 => (if t128 = t130 then ((impl_FieldMul.f kj2 t122 (Go.bits .xor .i64 t123 t124)).bind fun t131 => ((impl_FieldMul.f kj2 t122 t124).bind fun t132 => (if t131 = (Go.bits .xor .i64 t125 t132) then ((impl_FieldMul.f kj2 t122 1).bind fun t133 => (laws_FnField.j1 kj2 t122 t123 t124 t125 (t133 != t122))) else (laws_FnField.j1 kj2 t122 t123 t124 t125 true)))) else (laws_FnField.j1 kj2 t122 t123 t124 t125 true))))) else (laws_FnField.j1 kj2 t122 t123 t124 t125 true))) else (laws_FnField.j1 kj2 t122 t123 t124 t125 true)))) = some r := H
        have A8 := Aside0.mk A80
        clear A80
        replace H := Option.bind_eq_some_iff.mp H
        obtain ⟨t125, A90, H⟩ := H
        replace H : ((spec_FieldMul.f kj2 t122 t123).bind fun t126 => (if t125 = t126 then ((impl_FieldMul.f kj2 t123 t122).bind fun t127 => (if t125 = t127 then ((impl_FieldMul.f kj2 t125 t124).bind fun t128 => ((impl_FieldMul.f kj2 t123 t124).bind fun t129 => ((impl_FieldMul.f kj2 t122 t129).bind fun t130 => (if t128 = t130 then ((impl_FieldMul.f kj2 t122 (Go.bits .xor .i64 t123 t124)).bind fun t131 => ((impl_FieldMul.f kj2 t122 t124).bind fun t132 => (if t131 = (Go.bits .xor .i64 t125 t132) then ((impl_FieldMul.f kj2 t122 1).bind fun t133 => (laws_FnField.j1 kj2 t122 t123 t124 t125 (t133 != t122))) else (laws_FnField.j1 kj2 t122 t123 t124 t125 true)))) else (laws_FnField.j1 kj2 t122 t123 t124 t125 true))))) else (laws_FnField.j1 kj2 t122 t123 t124 t125 true))) else (laws_FnField.j1 kj2 t122 t123 t124 t125 true))) = some r := H
        have A9 := Aside0.mk A90
        clear A90
        have HC10 := Aside0.mk H
        clear H
        go_upto_region 7 with (first | ((with_reducible refine gate_callee (f := 41) rfl ?_); refine goesL_ (some 19) rfl rfl Try.func41 (by kernel_rfl) rfl #[.slice A0 l0.length c0, .int .i64 0, .int .i64 256] rfl (by (try simp only [List.map_toArray, List.map_cons, List.map_nil]); first | done | rfl | (simp only [List.length_drop, List.length_take]; rfl)) ?_; (with_reducible refine (laws_lwAt.calls _ _ l0 0 256 t122 _ ?side1 ?side2 A6.out).mono ?_); (case side1 => repeat (first | exact HR0.out | (with_reducible refine Kd.C_alloc ?_ _) | (with_reducible refine Kd.C_drewN ?_ _) | (with_reducible refine Kd.C_drew ?_))); (case side2 => exact HC0.out); rintro e w' ⟨rfl, ⟨nd, rfl⟩⟩; refine ⟨_, rfl, ?_⟩) | ((with_reducible refine gate_callee (f := 41) rfl ?_); refine goesL_ (some 21) rfl rfl Try.func41 (by kernel_rfl) rfl #[.slice A0 l0.length c0, .int .i64 1, .int .i64 256] rfl (by (try simp only [List.map_toArray, List.map_cons, List.map_nil]); first | done | rfl | (simp only [List.length_drop, List.length_take]; rfl)) ?_; (with_reducible refine (laws_lwAt.calls _ _ l0 1 256 t123 _ ?side1 ?side2 A7.out).mono ?_); (case side1 => repeat (first | exact HR0.out | (with_reducible refine Kd.C_alloc ?_ _) | (with_reducible refine Kd.C_drewN ?_ _) | (with_reducible refine Kd.C_drew ?_))); (case side2 => exact HC0.out); rintro e w' ⟨rfl, ⟨nd, rfl⟩⟩; refine ⟨_, rfl, ?_⟩) | ((with_reducible refine gate_callee (f := 41) rfl ?_); refine goesL_ (some 23) rfl rfl Try.func41 (by kernel_rfl) rfl #[.slice A1 l1.length c1, .int .i64 0, .int .i64 256] rfl (by (try simp only [List.map_toArray, List.map_cons, List.map_nil]); first | done | rfl | (simp only [List.length_drop, List.length_take]; rfl)) ?_; (with_reducible refine (laws_lwAt.calls _ _ l1 0 256 t124 _ ?side1 ?side2 A8.out).mono ?_); (case side1 => repeat (first | exact HR1.out | (with_reducible refine Kd.C_alloc ?_ _) | (with_reducible refine Kd.C_drewN ?_ _) | (with_reducible refine Kd.C_drew ?_))); (case side2 => exact HC1.out); rintro e w' ⟨rfl, ⟨nd, rfl⟩⟩; refine ⟨_, rfl, ?_⟩) | ((with_reducible refine gate_callee (f := 30) rfl ?_); refine goesL_ (some 26) rfl rfl Try.func30 (by kernel_rfl) rfl #[.int .i64 t122, .int .i64 t123] rfl (by (try simp only [List.map_toArray, List.map_cons, List.map_nil]); first | done | rfl | (simp only [List.length_drop, List.length_take]; rfl)) ?_; (with_reducible refine (impl_FieldMul.calls kj2 t122 t123 t125 _ A9.out).mono ?_); rintro e w' ⟨rfl, ⟨nd, rfl⟩⟩; refine ⟨_, rfl, ?_⟩))
        (try simp only [Act.put, List.setIfInBounds_toArray, List.set_cons_zero, List.set_cons_succ])
        go_cut [68] (fun v68 wc => ∃ (kq : Nat) (x68_9 : Bool), v68 = .bool x68_9 ∧ Aside0 (laws_FnField.j1 kq t122 t123 t124 t125 x68_9 = some r) ∧ Aside0 (kq ≤ kj2) ∧ Drawn0 w wc)
        case first =>
          have H := HC10.out
          clear HC10
          replace H := Option.bind_eq_some_iff.mp H
          obtain ⟨t126, A110, H⟩ := H
          replace H : (if t125 = t126 then ((impl_FieldMul.f kj2 t123 t122).bind fun t127 => (if t125 = t127 then ((impl_FieldMul.f kj2 t125 t124).bind fun t128 => ((impl_FieldMul.f kj2 t123 t124).bind fun t129 => ((impl_FieldMul.f kj2 t122 t129).bind fun t130 => (if t128 = t130 then ((impl_FieldMul.f kj2 t122 (Go.bits .xor .i64 t123 t124)).bind fun t131 => ((impl_FieldMul.f kj2 t122 t124).bind fun t132 => (if t131 = (Go.bits .xor .i64 t125 t132) then ((impl_FieldMul.f kj2 t122 1).bind fun t133 => (laws_FnField.j1 kj2 t122 t123 t124 t125 (t133 != t122))) else (laws_FnField.j1 kj2 t122 t123 t124 t125 true)))) else (laws_FnField.j1 kj2 t122 t123 t124 t125 true))))) else (laws_FnField.j1 kj2 t122 t123 t124 t125 true))) else (laws_FnField.j1 kj2 t122 t123 t124 t125 true)) = some r := H
          have A11 := Aside0.mk A110
          clear A110
          by_cases c12 : t125 = t126
          · rw [if_pos c12] at H
            have c12b0 : (t125 == t126) = true := beq_iff_eq.mpr c12
            have c12b1 : (t125 != t126) = false := bne_eq_false_iff_eq.mpr c12
            clear c12
            (first | rw [c12b0] | (simp only [i64_w, i32_w]; rw [c12b0]) | skip)
            replace H := Option.bind_eq_some_iff.mp H
            obtain ⟨t127, A130, H⟩ := H
            replace H : (if t125 = t127 then ((impl_FieldMul.f kj2 t125 t124).bind fun t128 => ((impl_FieldMul.f kj2 t123 t124).bind fun t129 => ((impl_FieldMul.f kj2 t122 t129).bind fun t130 => (if t128 = t130 then ((impl_FieldMul.f kj2 t122 (Go.bits .xor .i64 t123 t124)).bind fun t131 => ((impl_FieldMul.f kj2 t122 t124).bind fun t132 => (if t131 = (Go.bits .xor .i64 t125 t132) then ((impl_FieldMul.f kj2 t122 1).bind fun t133 => (laws_FnField.j1 kj2 t122 t123 t124 t125 (t133 != t122))) else (laws_FnField.j1 kj2 t122 t123 t124 t125 true)))) else (laws_FnField.j1 kj2 t122 t123 t124 t125 true))))) else (laws_FnField.j1 kj2 t122 t123 t124 t125 true)) = some r := H
            have A13 := Aside0.mk A130
            clear A130
            by_cases c14 : t125 = t127
            · rw [if_pos c14] at H
              have c14b0 : (t125 == t127) = true := beq_iff_eq.mpr c14
              have c14b1 : (t125 != t127) = false := bne_eq_false_iff_eq.mpr c14
              clear c14
              replace H := Option.bind_eq_some_iff.mp H
              obtain ⟨t128, A150, H⟩ := H
              replace H : ((impl_FieldMul.f kj2 t123 t124).bind fun t129 => ((impl_FieldMul.f kj2 t122 t129).bind fun t130 => (if t128 = t130 then ((impl_FieldMul.f kj2 t122 (Go.bits .xor .i64 t123 t124)).bind fun t131 => ((impl_FieldMul.f kj2 t122 t124).bind fun t132 => (if t131 = (Go.bits .xor .i64 t125 t132) then ((impl_FieldMul.f kj2 t122 1).bind fun t133 => (laws_FnField.j1 kj2 t122 t123 t124 t125 (t133 != t122))) else (laws_FnField.j1 kj2 t122 t123 t124 t125 true)))) else (laws_FnField.j1 kj2 t122 t123 t124 t125 true)))) = some r := H
              have A15 := Aside0.mk A150
              clear A150
              replace H := Option.bind_eq_some_iff.mp H
              obtain ⟨t129, A160, H⟩ := H
              replace H : ((impl_FieldMul.f kj2 t122 t129).bind fun t130 => (if t128 = t130 then ((impl_FieldMul.f kj2 t122 (Go.bits .xor .i64 t123 t124)).bind fun t131 => ((impl_FieldMul.f kj2 t122 t124).bind fun t132 => (if t131 = (Go.bits .xor .i64 t125 t132) then ((impl_FieldMul.f kj2 t122 1).bind fun t133 => (laws_FnField.j1 kj2 t122 t123 t124 t125 (t133 != t122))) else (laws_FnField.j1 kj2 t122 t123 t124 t125 true)))) else (laws_FnField.j1 kj2 t122 t123 t124 t125 true))) = some r := H
              have A16 := Aside0.mk A160
              clear A160
              replace H := Option.bind_eq_some_iff.mp H
              obtain ⟨t130, A170, H⟩ := H
              replace H : (if t128 = t130 then ((impl_FieldMul.f kj2 t122 (Go.bits .xor .i64 t123 t124)).bind fun t131 => ((impl_FieldMul.f kj2 t122 t124).bind fun t132 => (if t131 = (Go.bits .xor .i64 t125 t132) then ((impl_FieldMul.f kj2 t122 1).bind fun t133 => (laws_FnField.j1 kj2 t122 t123 t124 t125 (t133 != t122))) else (laws_FnField.j1 kj2 t122 t123 t124 t125 true)))) else (laws_FnField.j1 kj2 t122 t123 t124 t125 true)) = some r := H
              have A17 := Aside0.mk A170
              clear A170
              by_cases c18 : t128 = t130
              · rw [if_pos c18] at H
                have c18b0 : (t128 == t130) = true := beq_iff_eq.mpr c18
                have c18b1 : (t128 != t130) = false := bne_eq_false_iff_eq.mpr c18
                clear c18
                replace H := Option.bind_eq_some_iff.mp H
                obtain ⟨t131, A190, H⟩ := H
                replace H : ((impl_FieldMul.f kj2 t122 t124).bind fun t132 => (if t131 = (Go.bits .xor .i64 t125 t132) then ((impl_FieldMul.f kj2 t122 1).bind fun t133 => (laws_FnField.j1 kj2 t122 t123 t124 t125 (t133 != t122))) else (laws_FnField.j1 kj2 t122 t123 t124 t125 true))) = some r := H
                have A19 := Aside0.mk A190
                clear A190
                replace H := Option.bind_eq_some_iff.mp H
                obtain ⟨t132, A200, H⟩ := H
                replace H : (if t131 = (Go.bits .xor .i64 t125 t132) then ((impl_FieldMul.f kj2 t122 1).bind fun t133 => (laws_FnField.j1 kj2 t122 t123 t124 t125 (t133 != t122))) else (laws_FnField.j1 kj2 t122 t123 t124 t125 true)) = some r := H
                have A20 := Aside0.mk A200
                clear A200
                by_cases c21 : t131 = (Go.bits .xor .i64 t125 t132)
                · rw [if_pos c21] at H
                  have c21b0 : (t131 == (Go.bits .xor .i64 t125 t132)) = true := beq_iff_eq.mpr c21
                  have c21b1 : (t131 != (Go.bits .xor .i64 t125 t132)) = false := bne_eq_false_iff_eq.mpr c21
                  clear c21
                  replace H := Option.bind_eq_some_iff.mp H
                  obtain ⟨t133, A220, H⟩ := H
                  replace H : (laws_FnField.j1 kj2 t122 t123 t124 t125 (t133 != t122)) = some r := H
                  have A22 := Aside0.mk A220
                  clear A220
                  have H' := Aside0.mk H
                  clear H
                  go_wp2_with (first | ((with_reducible refine gate_callee (f := 29) rfl ?_); refine goesL_ (some 30) rfl rfl Try.func29 (by kernel_rfl) rfl #[.int .i64 t122, .int .i64 t123] rfl (by (try simp only [List.map_toArray, List.map_cons, List.map_nil]); first | done | rfl | (simp only [List.length_drop, List.length_take]; rfl)) ?_; (with_reducible refine (spec_FieldMul.calls kj2 t122 t123 t126 _ A11.out).mono ?_); rintro e w' ⟨rfl, ⟨nd, rfl⟩⟩; refine ⟨_, rfl, ?_⟩) | (go_at_call 30; (with_reducible refine (impl_FieldMul.calls kj2 t123 t122 t127 _ A13.out).mono ?_); rintro e w' ⟨rfl, ⟨nd, rfl⟩⟩) | (go_at_call 30; (with_reducible refine (impl_FieldMul.calls kj2 t125 t124 t128 _ A15.out).mono ?_); rintro e w' ⟨rfl, ⟨nd, rfl⟩⟩) | (go_at_call 30; (with_reducible refine (impl_FieldMul.calls kj2 t123 t124 t129 _ A16.out).mono ?_); rintro e w' ⟨rfl, ⟨nd, rfl⟩⟩) | (go_at_call 30; (with_reducible refine (impl_FieldMul.calls kj2 t122 t129 t130 _ A17.out).mono ?_); rintro e w' ⟨rfl, ⟨nd, rfl⟩⟩) | (go_at_call 30; (with_reducible refine (impl_FieldMul.calls kj2 t122 (Go.bits .xor .i64 t123 t124) t131 _ A19.out).mono ?_); rintro e w' ⟨rfl, ⟨nd, rfl⟩⟩) | (go_at_call 30; (with_reducible refine (impl_FieldMul.calls kj2 t122 t124 t132 _ A20.out).mono ?_); rintro e w' ⟨rfl, ⟨nd, rfl⟩⟩) | (go_at_call 30; (with_reducible refine (impl_FieldMul.calls kj2 t122 1 t133 _ A22.out).mono ?_); rintro e w' ⟨rfl, ⟨nd, rfl⟩⟩))
                  go_meet
                  case rel => exact ⟨_, ((t133 != t122)), (by first | rfl | (simp; done) | (simp [*]; done)), H', ⟨by have := HJ2.out; first | omega | exact Nat.le_refl _⟩, by repeat (first | exact Drawn0.refl _ | apply Drawn0.step)⟩
                · rw [if_neg c21] at H
                  have c21b0 : (t131 == (Go.bits .xor .i64 t125 t132)) = false := beq_eq_false_iff_ne.mpr c21
                  have c21b1 : (t131 != (Go.bits .xor .i64 t125 t132)) = true := bne_iff_ne.mpr c21
                  have H' := Aside0.mk H
                  clear H
                  go_wp2_with (first | ((with_reducible refine gate_callee (f := 29) rfl ?_); refine goesL_ (some 30) rfl rfl Try.func29 (by kernel_rfl) rfl #[.int .i64 t122, .int .i64 t123] rfl (by (try simp only [List.map_toArray, List.map_cons, List.map_nil]); first | done | rfl | (simp only [List.length_drop, List.length_take]; rfl)) ?_; (with_reducible refine (spec_FieldMul.calls kj2 t122 t123 t126 _ A11.out).mono ?_); rintro e w' ⟨rfl, ⟨nd, rfl⟩⟩; refine ⟨_, rfl, ?_⟩) | (go_at_call 30; (with_reducible refine (impl_FieldMul.calls kj2 t123 t122 t127 _ A13.out).mono ?_); rintro e w' ⟨rfl, ⟨nd, rfl⟩⟩) | (go_at_call 30; (with_reducible refine (impl_FieldMul.calls kj2 t125 t124 t128 _ A15.out).mono ?_); rintro e w' ⟨rfl, ⟨nd, rfl⟩⟩) | (go_at_call 30; (with_reducible refine (impl_FieldMul.calls kj2 t123 t124 t129 _ A16.out).mono ?_); rintro e w' ⟨rfl, ⟨nd, rfl⟩⟩) | (go_at_call 30; (with_reducible refine (impl_FieldMul.calls kj2 t122 t129 t130 _ A17.out).mono ?_); rintro e w' ⟨rfl, ⟨nd, rfl⟩⟩) | (go_at_call 30; (with_reducible refine (impl_FieldMul.calls kj2 t122 (Go.bits .xor .i64 t123 t124) t131 _ A19.out).mono ?_); rintro e w' ⟨rfl, ⟨nd, rfl⟩⟩) | (go_at_call 30; (with_reducible refine (impl_FieldMul.calls kj2 t122 t124 t132 _ A20.out).mono ?_); rintro e w' ⟨rfl, ⟨nd, rfl⟩⟩))
                  go_meet
                  case rel => exact ⟨_, (true), (by first | rfl | (simp; done) | (simp [*]; done)), H', ⟨by have := HJ2.out; first | omega | exact Nat.le_refl _⟩, by repeat (first | exact Drawn0.refl _ | apply Drawn0.step)⟩
              · rw [if_neg c18] at H
                have c18b0 : (t128 == t130) = false := beq_eq_false_iff_ne.mpr c18
                have c18b1 : (t128 != t130) = true := bne_iff_ne.mpr c18
                have H' := Aside0.mk H
                clear H
                go_wp2_with (first | ((with_reducible refine gate_callee (f := 29) rfl ?_); refine goesL_ (some 30) rfl rfl Try.func29 (by kernel_rfl) rfl #[.int .i64 t122, .int .i64 t123] rfl (by (try simp only [List.map_toArray, List.map_cons, List.map_nil]); first | done | rfl | (simp only [List.length_drop, List.length_take]; rfl)) ?_; (with_reducible refine (spec_FieldMul.calls kj2 t122 t123 t126 _ A11.out).mono ?_); rintro e w' ⟨rfl, ⟨nd, rfl⟩⟩; refine ⟨_, rfl, ?_⟩) | (go_at_call 30; (with_reducible refine (impl_FieldMul.calls kj2 t123 t122 t127 _ A13.out).mono ?_); rintro e w' ⟨rfl, ⟨nd, rfl⟩⟩) | (go_at_call 30; (with_reducible refine (impl_FieldMul.calls kj2 t125 t124 t128 _ A15.out).mono ?_); rintro e w' ⟨rfl, ⟨nd, rfl⟩⟩) | (go_at_call 30; (with_reducible refine (impl_FieldMul.calls kj2 t123 t124 t129 _ A16.out).mono ?_); rintro e w' ⟨rfl, ⟨nd, rfl⟩⟩) | (go_at_call 30; (with_reducible refine (impl_FieldMul.calls kj2 t122 t129 t130 _ A17.out).mono ?_); rintro e w' ⟨rfl, ⟨nd, rfl⟩⟩))
                go_meet
                case rel => exact ⟨_, (true), (by first | rfl | (simp; done) | (simp [*]; done)), H', ⟨by have := HJ2.out; first | omega | exact Nat.le_refl _⟩, by repeat (first | exact Drawn0.refl _ | apply Drawn0.step)⟩
            · rw [if_neg c14] at H
              have c14b0 : (t125 == t127) = false := beq_eq_false_iff_ne.mpr c14
              have c14b1 : (t125 != t127) = true := bne_iff_ne.mpr c14
              have H' := Aside0.mk H
              clear H
              go_wp2_with (first | ((with_reducible refine gate_callee (f := 29) rfl ?_); refine goesL_ (some 30) rfl rfl Try.func29 (by kernel_rfl) rfl #[.int .i64 t122, .int .i64 t123] rfl (by (try simp only [List.map_toArray, List.map_cons, List.map_nil]); first | done | rfl | (simp only [List.length_drop, List.length_take]; rfl)) ?_; (with_reducible refine (spec_FieldMul.calls kj2 t122 t123 t126 _ A11.out).mono ?_); rintro e w' ⟨rfl, ⟨nd, rfl⟩⟩; refine ⟨_, rfl, ?_⟩) | (go_at_call 30; (with_reducible refine (impl_FieldMul.calls kj2 t123 t122 t127 _ A13.out).mono ?_); rintro e w' ⟨rfl, ⟨nd, rfl⟩⟩))
              go_meet
              case rel => exact ⟨_, (true), (by first | rfl | (simp; done) | (simp [*]; done)), H', ⟨by have := HJ2.out; first | omega | exact Nat.le_refl _⟩, by repeat (first | exact Drawn0.refl _ | apply Drawn0.step)⟩
          · rw [if_neg c12] at H
            have c12b0 : (t125 == t126) = false := beq_eq_false_iff_ne.mpr c12
            have c12b1 : (t125 != t126) = true := bne_iff_ne.mpr c12
            (first | rw [c12b0] | (simp only [i64_w, i32_w]; rw [c12b0]) | skip)
            have H' := Aside0.mk H
            clear H
            go_wp2_with (first | ((with_reducible refine gate_callee (f := 29) rfl ?_); refine goesL_ (some 30) rfl rfl Try.func29 (by kernel_rfl) rfl #[.int .i64 t122, .int .i64 t123] rfl (by (try simp only [List.map_toArray, List.map_cons, List.map_nil]); first | done | rfl | (simp only [List.length_drop, List.length_take]; rfl)) ?_; (with_reducible refine (spec_FieldMul.calls kj2 t122 t123 t126 _ A11.out).mono ?_); rintro e w' ⟨rfl, ⟨nd, rfl⟩⟩; refine ⟨_, rfl, ?_⟩))
            go_meet
            case rel => exact ⟨_, (true), (by first | rfl | (simp; done) | (simp [*]; done)), H', ⟨by have := HJ2.out; first | omega | exact Nat.le_refl _⟩, by repeat (first | exact Drawn0.refl _ | apply Drawn0.step)⟩
        case rest =>
          clear HC10
          try clear c1
          try clear c2
          try clear p2
          try clear c3
          try clear c4
          try clear c4b0
          try clear c4b1
          try clear c5
          try clear c12
          try clear c12b0
          try clear c12b1
          try clear c14
          try clear c14b0
          try clear c14b1
          try clear c18
          try clear c18b0
          try clear c18b1
          try clear c21
          try clear c21b0
          try clear c21b1
          try clear p2
          obtain ⟨kq, x68_9, rfl, HA, HJ9, ⟨mc9, rfl⟩⟩ := hcut
          cases kq with
          | zero => exact absurd HA.out (by simp [laws_FnField.j1])
          | succ kj9 =>
            have H := HA.out
            clear HA
            simp only [laws_FnField.j1] at H
            by_cases c23 : x68_9 = true
            · subst c23
              have H1 : (some false) = some r := by rw [if_pos rfl] at H; exact H
              clear H
              have H := H1
              clear H1
              obtain rfl := Option.some.inj H
              go_wp2
              go_ret
              exact ⟨by first | rfl | (simp; done) | (simp [*]; done), by repeat (first | exact Drawn0.refl _ | apply Drawn0.step)⟩
            · replace c23 := Bool.eq_false_iff.mpr c23
              subst c23
              have H1 : (if t123 = 0 then (if t125 = 0 then ((impl_FieldLog.f kj9 t123).bind fun t134 => (if t134 = (-1) then ((impl_FieldInv.f kj9 t123).bind fun t135 => (some (t135 == 0))) else (some false))) else (some false)) else ((impl_FieldLog.f kj9 t123).bind fun t136 => ((impl_FieldInv.f kj9 t123).bind fun t137 => ((impl_FieldMul.f kj9 t123 t137).bind fun t138 => (if t138 = 1 then ((impl_FieldDiv.f kj9 t125 t123).bind fun t139 => (if t139 = t122 then (if t136 ≥ 0 then (if t136 < 255 then ((impl_FieldExp.f kj9 t136).bind fun t140 => (if t140 = t123 then ((impl_FieldPow.f kj9 t123 255).bind fun t141 => (if t141 = 1 then ((impl_FieldPow.f kj9 t123 t124).bind fun t142 => ((impl_FieldMul.f kj9 t142 t123).bind fun t143 => ((impl_FieldPow.f kj9 t123 (wrap64 (t124 + 1))).bind fun t144 => (some (t143 == t144))))) else (some false))) else (some false))) else (some false)) else (some false)) else (some false))) else (some false)))))) = some r := by rw [if_neg (show ¬ (false = true) by decide)] at H; exact H
              clear H
              have H := H1
              clear H1
              by_cases c24 : t123 = 0
              · rw [if_pos c24] at H
                have c24b0 : (t123 == 0) = true := beq_iff_eq.mpr c24
                have c24b1 : (t123 != 0) = false := bne_eq_false_iff_eq.mpr c24
                clear c24
                by_cases c25 : t125 = 0
                · rw [if_pos c25] at H
                  have c25b0 : (t125 == 0) = true := beq_iff_eq.mpr c25
                  have c25b1 : (t125 != 0) = false := bne_eq_false_iff_eq.mpr c25
                  clear c25
                  replace H := Option.bind_eq_some_iff.mp H
                  obtain ⟨t134, A260, H⟩ := H
                  replace H : (if t134 = (-1) then ((impl_FieldInv.f kj9 t123).bind fun t135 => (some (t135 == 0))) else (some false)) = some r := H
                  have A26 := Aside0.mk A260
                  clear A260
                  by_cases c27 : t134 = (-1)
                  · rw [if_pos c27] at H
                    have c27b0 : (t134 == (-1)) = true := beq_iff_eq.mpr c27
                    have c27b1 : (t134 != (-1)) = false := bne_eq_false_iff_eq.mpr c27
                    clear c27
                    replace H := Option.bind_eq_some_iff.mp H
                    obtain ⟨t135, A280, H⟩ := H
                    replace H : (some (t135 == 0)) = some r := H
                    have A28 := Aside0.mk A280
                    clear A280
                    obtain rfl := Option.some.inj H
                    go_wp2_with (first | (go_at_call 34; (with_reducible refine (impl_FieldLog.calls kj9 t123 t134 _ A26.out).mono ?_); rintro e w' ⟨rfl, ⟨nd, rfl⟩⟩) | (go_at_call 36; (with_reducible refine (impl_FieldInv.calls kj9 t123 t135 _ A28.out).mono ?_); rintro e w' ⟨rfl, ⟨nd, rfl⟩⟩))
                    go_ret
                    exact ⟨by first | rfl | (simp; done) | (simp [*]; done), by repeat (first | exact Drawn0.refl _ | apply Drawn0.step)⟩
                  · rw [if_neg c27] at H
                    have c27b0 : (t134 == (-1)) = false := beq_eq_false_iff_ne.mpr c27
                    have c27b1 : (t134 != (-1)) = true := bne_iff_ne.mpr c27
                    obtain rfl := Option.some.inj H
                    go_wp2_with (first | (go_at_call 34; (with_reducible refine (impl_FieldLog.calls kj9 t123 t134 _ A26.out).mono ?_); rintro e w' ⟨rfl, ⟨nd, rfl⟩⟩))
                    go_ret
                    exact ⟨by first | rfl | (simp; done) | (simp [*]; done), by repeat (first | exact Drawn0.refl _ | apply Drawn0.step)⟩
                · rw [if_neg c25] at H
                  have c25b0 : (t125 == 0) = false := beq_eq_false_iff_ne.mpr c25
                  have c25b1 : (t125 != 0) = true := bne_iff_ne.mpr c25
                  obtain rfl := Option.some.inj H
                  go_wp2
                  go_ret
                  exact ⟨by first | rfl | (simp; done) | (simp [*]; done), by repeat (first | exact Drawn0.refl _ | apply Drawn0.step)⟩
              · rw [if_neg c24] at H
                have c24b0 : (t123 == 0) = false := beq_eq_false_iff_ne.mpr c24
                have c24b1 : (t123 != 0) = true := bne_iff_ne.mpr c24
                replace H := Option.bind_eq_some_iff.mp H
                obtain ⟨t136, A290, H⟩ := H
                replace H : ((impl_FieldInv.f kj9 t123).bind fun t137 => ((impl_FieldMul.f kj9 t123 t137).bind fun t138 => (if t138 = 1 then ((impl_FieldDiv.f kj9 t125 t123).bind fun t139 => (if t139 = t122 then (if t136 ≥ 0 then (if t136 < 255 then ((impl_FieldExp.f kj9 t136).bind fun t140 => (if t140 = t123 then ((impl_FieldPow.f kj9 t123 255).bind fun t141 => (if t141 = 1 then ((impl_FieldPow.f kj9 t123 t124).bind fun t142 => ((impl_FieldMul.f kj9 t142 t123).bind fun t143 => ((impl_FieldPow.f kj9 t123 (wrap64 (t124 + 1))).bind fun t144 => (some (t143 == t144))))) else (some false))) else (some false))) else (some false)) else (some false)) else (some false))) else (some false)))) = some r := H
                have A29 := Aside0.mk A290
                clear A290
                replace H := Option.bind_eq_some_iff.mp H
                obtain ⟨t137, A300, H⟩ := H
                replace H : ((impl_FieldMul.f kj9 t123 t137).bind fun t138 => (if t138 = 1 then ((impl_FieldDiv.f kj9 t125 t123).bind fun t139 => (if t139 = t122 then (if t136 ≥ 0 then (if t136 < 255 then ((impl_FieldExp.f kj9 t136).bind fun t140 => (if t140 = t123 then ((impl_FieldPow.f kj9 t123 255).bind fun t141 => (if t141 = 1 then ((impl_FieldPow.f kj9 t123 t124).bind fun t142 => ((impl_FieldMul.f kj9 t142 t123).bind fun t143 => ((impl_FieldPow.f kj9 t123 (wrap64 (t124 + 1))).bind fun t144 => (some (t143 == t144))))) else (some false))) else (some false))) else (some false)) else (some false)) else (some false))) else (some false))) = some r := H
                have A30 := Aside0.mk A300
                clear A300
                replace H := Option.bind_eq_some_iff.mp H
                obtain ⟨t138, A310, H⟩ := H
                replace H : (if t138 = 1 then ((impl_FieldDiv.f kj9 t125 t123).bind fun t139 => (if t139 = t122 then (if t136 ≥ 0 then (if t136 < 255 then ((impl_FieldExp.f kj9 t136).bind fun t140 => (if t140 = t123 then ((impl_FieldPow.f kj9 t123 255).bind fun t141 => (if t141 = 1 then ((impl_FieldPow.f kj9 t123 t124).bind fun t142 => ((impl_FieldMul.f kj9 t142 t123).bind fun t143 => ((impl_FieldPow.f kj9 t123 (wrap64 (t124 + 1))).bind fun t144 => (some (t143 == t144))))) else (some false))) else (some false))) else (some false)) else (some false)) else (some false))) else (some false)) = some r := H
                have A31 := Aside0.mk A310
                clear A310
                by_cases c32 : t138 = 1
                · rw [if_pos c32] at H
                  have c32b0 : (t138 == 1) = true := beq_iff_eq.mpr c32
                  have c32b1 : (t138 != 1) = false := bne_eq_false_iff_eq.mpr c32
                  clear c32
                  replace H := Option.bind_eq_some_iff.mp H
                  obtain ⟨t139, A330, H⟩ := H
                  replace H : (if t139 = t122 then (if t136 ≥ 0 then (if t136 < 255 then ((impl_FieldExp.f kj9 t136).bind fun t140 => (if t140 = t123 then ((impl_FieldPow.f kj9 t123 255).bind fun t141 => (if t141 = 1 then ((impl_FieldPow.f kj9 t123 t124).bind fun t142 => ((impl_FieldMul.f kj9 t142 t123).bind fun t143 => ((impl_FieldPow.f kj9 t123 (wrap64 (t124 + 1))).bind fun t144 => (some (t143 == t144))))) else (some false))) else (some false))) else (some false)) else (some false)) else (some false)) = some r := H
                  have A33 := Aside0.mk A330
                  clear A330
                  by_cases c34 : t139 = t122
                  · rw [if_pos c34] at H
                    have c34b0 : (t139 == t122) = true := beq_iff_eq.mpr c34
                    have c34b1 : (t139 != t122) = false := bne_eq_false_iff_eq.mpr c34
                    clear c34
                    by_cases c35 : t136 ≥ 0
                    · rw [if_pos c35] at H
                      have c35b0 : decide (0 ≤ t136) = true := decide_eq_true c35
                      clear c35
                      by_cases c36 : t136 < 255
                      · rw [if_pos c36] at H
                        have c36b0 : decide (t136 < 255) = true := decide_eq_true c36
                        clear c36
                        replace H := Option.bind_eq_some_iff.mp H
                        obtain ⟨t140, A370, H⟩ := H
                        replace H : (if t140 = t123 then ((impl_FieldPow.f kj9 t123 255).bind fun t141 => (if t141 = 1 then ((impl_FieldPow.f kj9 t123 t124).bind fun t142 => ((impl_FieldMul.f kj9 t142 t123).bind fun t143 => ((impl_FieldPow.f kj9 t123 (wrap64 (t124 + 1))).bind fun t144 => (some (t143 == t144))))) else (some false))) else (some false)) = some r := H
                        have A37 := Aside0.mk A370
                        clear A370
                        by_cases c38 : t140 = t123
                        · rw [if_pos c38] at H
                          have c38b0 : (t140 == t123) = true := beq_iff_eq.mpr c38
                          have c38b1 : (t140 != t123) = false := bne_eq_false_iff_eq.mpr c38
                          clear c38
                          replace H := Option.bind_eq_some_iff.mp H
                          obtain ⟨t141, A390, H⟩ := H
                          replace H : (if t141 = 1 then ((impl_FieldPow.f kj9 t123 t124).bind fun t142 => ((impl_FieldMul.f kj9 t142 t123).bind fun t143 => ((impl_FieldPow.f kj9 t123 (wrap64 (t124 + 1))).bind fun t144 => (some (t143 == t144))))) else (some false)) = some r := H
                          have A39 := Aside0.mk A390
                          clear A390
                          by_cases c40 : t141 = 1
                          · rw [if_pos c40] at H
                            have c40b0 : (t141 == 1) = true := beq_iff_eq.mpr c40
                            have c40b1 : (t141 != 1) = false := bne_eq_false_iff_eq.mpr c40
                            clear c40
                            replace H := Option.bind_eq_some_iff.mp H
                            obtain ⟨t142, A410, H⟩ := H
                            replace H : ((impl_FieldMul.f kj9 t142 t123).bind fun t143 => ((impl_FieldPow.f kj9 t123 (wrap64 (t124 + 1))).bind fun t144 => (some (t143 == t144)))) = some r := H
                            have A41 := Aside0.mk A410
                            clear A410
                            replace H := Option.bind_eq_some_iff.mp H
                            obtain ⟨t143, A420, H⟩ := H
                            replace H : ((impl_FieldPow.f kj9 t123 (wrap64 (t124 + 1))).bind fun t144 => (some (t143 == t144))) = some r := H
                            have A42 := Aside0.mk A420
                            clear A420
                            replace H := Option.bind_eq_some_iff.mp H
                            obtain ⟨t144, A430, H⟩ := H
                            replace H : (some (t143 == t144)) = some r := H
                            have A43 := Aside0.mk A430
                            clear A430
                            obtain rfl := Option.some.inj H
                            go_wp2_with (first | ((with_reducible refine gate_callee (f := 34) rfl ?_); refine goesL_ (some 84) rfl rfl Try.func34 (by kernel_rfl) rfl #[.int .i64 t123] rfl (by (try simp only [List.map_toArray, List.map_cons, List.map_nil]); first | done | rfl | (simp only [List.length_drop, List.length_take]; rfl)) ?_; (with_reducible refine (impl_FieldLog.calls kj9 t123 t136 _ A29.out).mono ?_); rintro e w' ⟨rfl, ⟨nd, rfl⟩⟩; refine ⟨_, rfl, ?_⟩) | ((with_reducible refine gate_callee (f := 36) rfl ?_); refine goesL_ (some 87) rfl rfl Try.func36 (by kernel_rfl) rfl #[.int .i64 t123] rfl (by (try simp only [List.map_toArray, List.map_cons, List.map_nil]); first | done | rfl | (simp only [List.length_drop, List.length_take]; rfl)) ?_; (with_reducible refine (impl_FieldInv.calls kj9 t123 t137 _ A30.out).mono ?_); rintro e w' ⟨rfl, ⟨nd, rfl⟩⟩; refine ⟨_, rfl, ?_⟩) | ((with_reducible refine gate_callee (f := 30) rfl ?_); refine goesL_ (some 88) rfl rfl Try.func30 (by kernel_rfl) rfl #[.int .i64 t123, .int .i64 t137] rfl (by (try simp only [List.map_toArray, List.map_cons, List.map_nil]); first | done | rfl | (simp only [List.length_drop, List.length_take]; rfl)) ?_; (with_reducible refine (impl_FieldMul.calls kj9 t123 t137 t138 _ A31.out).mono ?_); rintro e w' ⟨rfl, ⟨nd, rfl⟩⟩; refine ⟨_, rfl, ?_⟩) | (go_at_call 40; (with_reducible refine (impl_FieldDiv.calls kj9 t125 t123 t139 _ A33.out).mono ?_); rintro e w' ⟨rfl, ⟨nd, rfl⟩⟩) | (go_at_call 32; (with_reducible refine (impl_FieldExp.calls kj9 t136 t140 _ A37.out).mono ?_); rintro e w' ⟨rfl, ⟨nd, rfl⟩⟩) | (go_at_call 38; (with_reducible refine (impl_FieldPow.calls kj9 t123 255 t141 _ A39.out).mono ?_); rintro e w' ⟨rfl, ⟨nd, rfl⟩⟩) | (go_at_call 38; (with_reducible refine (impl_FieldPow.calls kj9 t123 t124 t142 _ A41.out).mono ?_); rintro e w' ⟨rfl, ⟨nd, rfl⟩⟩) | (go_at_call 30; (with_reducible refine (impl_FieldMul.calls kj9 t142 t123 t143 _ A42.out).mono ?_); rintro e w' ⟨rfl, ⟨nd, rfl⟩⟩) | (go_at_call 38; (with_reducible refine (impl_FieldPow.calls kj9 t123 (wrap64 (t124 + 1)) t144 _ A43.out).mono ?_); rintro e w' ⟨rfl, ⟨nd, rfl⟩⟩))
                            go_ret
                            exact ⟨by first | rfl | (simp; done) | (simp [*]; done), by repeat (first | exact Drawn0.refl _ | apply Drawn0.step)⟩
                          · rw [if_neg c40] at H
                            have c40b0 : (t141 == 1) = false := beq_eq_false_iff_ne.mpr c40
                            have c40b1 : (t141 != 1) = true := bne_iff_ne.mpr c40
                            obtain rfl := Option.some.inj H
                            go_wp2_with (first | ((with_reducible refine gate_callee (f := 34) rfl ?_); refine goesL_ (some 84) rfl rfl Try.func34 (by kernel_rfl) rfl #[.int .i64 t123] rfl (by (try simp only [List.map_toArray, List.map_cons, List.map_nil]); first | done | rfl | (simp only [List.length_drop, List.length_take]; rfl)) ?_; (with_reducible refine (impl_FieldLog.calls kj9 t123 t136 _ A29.out).mono ?_); rintro e w' ⟨rfl, ⟨nd, rfl⟩⟩; refine ⟨_, rfl, ?_⟩) | ((with_reducible refine gate_callee (f := 36) rfl ?_); refine goesL_ (some 87) rfl rfl Try.func36 (by kernel_rfl) rfl #[.int .i64 t123] rfl (by (try simp only [List.map_toArray, List.map_cons, List.map_nil]); first | done | rfl | (simp only [List.length_drop, List.length_take]; rfl)) ?_; (with_reducible refine (impl_FieldInv.calls kj9 t123 t137 _ A30.out).mono ?_); rintro e w' ⟨rfl, ⟨nd, rfl⟩⟩; refine ⟨_, rfl, ?_⟩) | ((with_reducible refine gate_callee (f := 30) rfl ?_); refine goesL_ (some 88) rfl rfl Try.func30 (by kernel_rfl) rfl #[.int .i64 t123, .int .i64 t137] rfl (by (try simp only [List.map_toArray, List.map_cons, List.map_nil]); first | done | rfl | (simp only [List.length_drop, List.length_take]; rfl)) ?_; (with_reducible refine (impl_FieldMul.calls kj9 t123 t137 t138 _ A31.out).mono ?_); rintro e w' ⟨rfl, ⟨nd, rfl⟩⟩; refine ⟨_, rfl, ?_⟩) | (go_at_call 40; (with_reducible refine (impl_FieldDiv.calls kj9 t125 t123 t139 _ A33.out).mono ?_); rintro e w' ⟨rfl, ⟨nd, rfl⟩⟩) | (go_at_call 32; (with_reducible refine (impl_FieldExp.calls kj9 t136 t140 _ A37.out).mono ?_); rintro e w' ⟨rfl, ⟨nd, rfl⟩⟩) | (go_at_call 38; (with_reducible refine (impl_FieldPow.calls kj9 t123 255 t141 _ A39.out).mono ?_); rintro e w' ⟨rfl, ⟨nd, rfl⟩⟩))
                            go_ret
                            exact ⟨by first | rfl | (simp; done) | (simp [*]; done), by repeat (first | exact Drawn0.refl _ | apply Drawn0.step)⟩
                        · rw [if_neg c38] at H
                          have c38b0 : (t140 == t123) = false := beq_eq_false_iff_ne.mpr c38
                          have c38b1 : (t140 != t123) = true := bne_iff_ne.mpr c38
                          obtain rfl := Option.some.inj H
                          go_wp2_with (first | ((with_reducible refine gate_callee (f := 34) rfl ?_); refine goesL_ (some 84) rfl rfl Try.func34 (by kernel_rfl) rfl #[.int .i64 t123] rfl (by (try simp only [List.map_toArray, List.map_cons, List.map_nil]); first | done | rfl | (simp only [List.length_drop, List.length_take]; rfl)) ?_; (with_reducible refine (impl_FieldLog.calls kj9 t123 t136 _ A29.out).mono ?_); rintro e w' ⟨rfl, ⟨nd, rfl⟩⟩; refine ⟨_, rfl, ?_⟩) | ((with_reducible refine gate_callee (f := 36) rfl ?_); refine goesL_ (some 87) rfl rfl Try.func36 (by kernel_rfl) rfl #[.int .i64 t123] rfl (by (try simp only [List.map_toArray, List.map_cons, List.map_nil]); first | done | rfl | (simp only [List.length_drop, List.length_take]; rfl)) ?_; (with_reducible refine (impl_FieldInv.calls kj9 t123 t137 _ A30.out).mono ?_); rintro e w' ⟨rfl, ⟨nd, rfl⟩⟩; refine ⟨_, rfl, ?_⟩) | ((with_reducible refine gate_callee (f := 30) rfl ?_); refine goesL_ (some 88) rfl rfl Try.func30 (by kernel_rfl) rfl #[.int .i64 t123, .int .i64 t137] rfl (by (try simp only [List.map_toArray, List.map_cons, List.map_nil]); first | done | rfl | (simp only [List.length_drop, List.length_take]; rfl)) ?_; (with_reducible refine (impl_FieldMul.calls kj9 t123 t137 t138 _ A31.out).mono ?_); rintro e w' ⟨rfl, ⟨nd, rfl⟩⟩; refine ⟨_, rfl, ?_⟩) | (go_at_call 40; (with_reducible refine (impl_FieldDiv.calls kj9 t125 t123 t139 _ A33.out).mono ?_); rintro e w' ⟨rfl, ⟨nd, rfl⟩⟩) | (go_at_call 32; (with_reducible refine (impl_FieldExp.calls kj9 t136 t140 _ A37.out).mono ?_); rintro e w' ⟨rfl, ⟨nd, rfl⟩⟩))
                          go_ret
                          exact ⟨by first | rfl | (simp; done) | (simp [*]; done), by repeat (first | exact Drawn0.refl _ | apply Drawn0.step)⟩
                      · rw [if_neg c36] at H
                        have c36b0 : decide (t136 < 255) = false := decide_eq_false c36
                        clear c36
                        obtain rfl := Option.some.inj H
                        go_wp2_with (first | ((with_reducible refine gate_callee (f := 34) rfl ?_); refine goesL_ (some 84) rfl rfl Try.func34 (by kernel_rfl) rfl #[.int .i64 t123] rfl (by (try simp only [List.map_toArray, List.map_cons, List.map_nil]); first | done | rfl | (simp only [List.length_drop, List.length_take]; rfl)) ?_; (with_reducible refine (impl_FieldLog.calls kj9 t123 t136 _ A29.out).mono ?_); rintro e w' ⟨rfl, ⟨nd, rfl⟩⟩; refine ⟨_, rfl, ?_⟩) | ((with_reducible refine gate_callee (f := 36) rfl ?_); refine goesL_ (some 87) rfl rfl Try.func36 (by kernel_rfl) rfl #[.int .i64 t123] rfl (by (try simp only [List.map_toArray, List.map_cons, List.map_nil]); first | done | rfl | (simp only [List.length_drop, List.length_take]; rfl)) ?_; (with_reducible refine (impl_FieldInv.calls kj9 t123 t137 _ A30.out).mono ?_); rintro e w' ⟨rfl, ⟨nd, rfl⟩⟩; refine ⟨_, rfl, ?_⟩) | ((with_reducible refine gate_callee (f := 30) rfl ?_); refine goesL_ (some 88) rfl rfl Try.func30 (by kernel_rfl) rfl #[.int .i64 t123, .int .i64 t137] rfl (by (try simp only [List.map_toArray, List.map_cons, List.map_nil]); first | done | rfl | (simp only [List.length_drop, List.length_take]; rfl)) ?_; (with_reducible refine (impl_FieldMul.calls kj9 t123 t137 t138 _ A31.out).mono ?_); rintro e w' ⟨rfl, ⟨nd, rfl⟩⟩; refine ⟨_, rfl, ?_⟩) | (go_at_call 40; (with_reducible refine (impl_FieldDiv.calls kj9 t125 t123 t139 _ A33.out).mono ?_); rintro e w' ⟨rfl, ⟨nd, rfl⟩⟩))
                        go_ret
                        exact ⟨by first | rfl | (simp; done) | (simp [*]; done), by repeat (first | exact Drawn0.refl _ | apply Drawn0.step)⟩
                    · rw [if_neg c35] at H
                      have c35b0 : decide (0 ≤ t136) = false := decide_eq_false c35
                      clear c35
                      obtain rfl := Option.some.inj H
                      go_wp2_with (first | ((with_reducible refine gate_callee (f := 34) rfl ?_); refine goesL_ (some 84) rfl rfl Try.func34 (by kernel_rfl) rfl #[.int .i64 t123] rfl (by (try simp only [List.map_toArray, List.map_cons, List.map_nil]); first | done | rfl | (simp only [List.length_drop, List.length_take]; rfl)) ?_; (with_reducible refine (impl_FieldLog.calls kj9 t123 t136 _ A29.out).mono ?_); rintro e w' ⟨rfl, ⟨nd, rfl⟩⟩; refine ⟨_, rfl, ?_⟩) | ((with_reducible refine gate_callee (f := 36) rfl ?_); refine goesL_ (some 87) rfl rfl Try.func36 (by kernel_rfl) rfl #[.int .i64 t123] rfl (by (try simp only [List.map_toArray, List.map_cons, List.map_nil]); first | done | rfl | (simp only [List.length_drop, List.length_take]; rfl)) ?_; (with_reducible refine (impl_FieldInv.calls kj9 t123 t137 _ A30.out).mono ?_); rintro e w' ⟨rfl, ⟨nd, rfl⟩⟩; refine ⟨_, rfl, ?_⟩) | ((with_reducible refine gate_callee (f := 30) rfl ?_); refine goesL_ (some 88) rfl rfl Try.func30 (by kernel_rfl) rfl #[.int .i64 t123, .int .i64 t137] rfl (by (try simp only [List.map_toArray, List.map_cons, List.map_nil]); first | done | rfl | (simp only [List.length_drop, List.length_take]; rfl)) ?_; (with_reducible refine (impl_FieldMul.calls kj9 t123 t137 t138 _ A31.out).mono ?_); rintro e w' ⟨rfl, ⟨nd, rfl⟩⟩; refine ⟨_, rfl, ?_⟩) | (go_at_call 40; (with_reducible refine (impl_FieldDiv.calls kj9 t125 t123 t139 _ A33.out).mono ?_); rintro e w' ⟨rfl, ⟨nd, rfl⟩⟩))
                      go_ret
                      exact ⟨by first | rfl | (simp; done) | (simp [*]; done), by repeat (first | exact Drawn0.refl _ | apply Drawn0.step)⟩
                  · rw [if_neg c34] at H
                    have c34b0 : (t139 == t122) = false := beq_eq_false_iff_ne.mpr c34
                    have c34b1 : (t139 != t122) = true := bne_iff_ne.mpr c34
                    obtain rfl := Option.some.inj H
                    go_wp2_with (first | ((with_reducible refine gate_callee (f := 34) rfl ?_); refine goesL_ (some 84) rfl rfl Try.func34 (by kernel_rfl) rfl #[.int .i64 t123] rfl (by (try simp only [List.map_toArray, List.map_cons, List.map_nil]); first | done | rfl | (simp only [List.length_drop, List.length_take]; rfl)) ?_; (with_reducible refine (impl_FieldLog.calls kj9 t123 t136 _ A29.out).mono ?_); rintro e w' ⟨rfl, ⟨nd, rfl⟩⟩; refine ⟨_, rfl, ?_⟩) | ((with_reducible refine gate_callee (f := 36) rfl ?_); refine goesL_ (some 87) rfl rfl Try.func36 (by kernel_rfl) rfl #[.int .i64 t123] rfl (by (try simp only [List.map_toArray, List.map_cons, List.map_nil]); first | done | rfl | (simp only [List.length_drop, List.length_take]; rfl)) ?_; (with_reducible refine (impl_FieldInv.calls kj9 t123 t137 _ A30.out).mono ?_); rintro e w' ⟨rfl, ⟨nd, rfl⟩⟩; refine ⟨_, rfl, ?_⟩) | ((with_reducible refine gate_callee (f := 30) rfl ?_); refine goesL_ (some 88) rfl rfl Try.func30 (by kernel_rfl) rfl #[.int .i64 t123, .int .i64 t137] rfl (by (try simp only [List.map_toArray, List.map_cons, List.map_nil]); first | done | rfl | (simp only [List.length_drop, List.length_take]; rfl)) ?_; (with_reducible refine (impl_FieldMul.calls kj9 t123 t137 t138 _ A31.out).mono ?_); rintro e w' ⟨rfl, ⟨nd, rfl⟩⟩; refine ⟨_, rfl, ?_⟩) | (go_at_call 40; (with_reducible refine (impl_FieldDiv.calls kj9 t125 t123 t139 _ A33.out).mono ?_); rintro e w' ⟨rfl, ⟨nd, rfl⟩⟩))
                    go_ret
                    exact ⟨by first | rfl | (simp; done) | (simp [*]; done), by repeat (first | exact Drawn0.refl _ | apply Drawn0.step)⟩
                · rw [if_neg c32] at H
                  have c32b0 : (t138 == 1) = false := beq_eq_false_iff_ne.mpr c32
                  have c32b1 : (t138 != 1) = true := bne_iff_ne.mpr c32
                  obtain rfl := Option.some.inj H
                  go_wp2_with (first | ((with_reducible refine gate_callee (f := 34) rfl ?_); refine goesL_ (some 84) rfl rfl Try.func34 (by kernel_rfl) rfl #[.int .i64 t123] rfl (by (try simp only [List.map_toArray, List.map_cons, List.map_nil]); first | done | rfl | (simp only [List.length_drop, List.length_take]; rfl)) ?_; (with_reducible refine (impl_FieldLog.calls kj9 t123 t136 _ A29.out).mono ?_); rintro e w' ⟨rfl, ⟨nd, rfl⟩⟩; refine ⟨_, rfl, ?_⟩) | ((with_reducible refine gate_callee (f := 36) rfl ?_); refine goesL_ (some 87) rfl rfl Try.func36 (by kernel_rfl) rfl #[.int .i64 t123] rfl (by (try simp only [List.map_toArray, List.map_cons, List.map_nil]); first | done | rfl | (simp only [List.length_drop, List.length_take]; rfl)) ?_; (with_reducible refine (impl_FieldInv.calls kj9 t123 t137 _ A30.out).mono ?_); rintro e w' ⟨rfl, ⟨nd, rfl⟩⟩; refine ⟨_, rfl, ?_⟩) | ((with_reducible refine gate_callee (f := 30) rfl ?_); refine goesL_ (some 88) rfl rfl Try.func30 (by kernel_rfl) rfl #[.int .i64 t123, .int .i64 t137] rfl (by (try simp only [List.map_toArray, List.map_cons, List.map_nil]); first | done | rfl | (simp only [List.length_drop, List.length_take]; rfl)) ?_; (with_reducible refine (impl_FieldMul.calls kj9 t123 t137 t138 _ A31.out).mono ?_); rintro e w' ⟨rfl, ⟨nd, rfl⟩⟩; refine ⟨_, rfl, ?_⟩))
                  go_ret
                  exact ⟨by first | rfl | (simp; done) | (simp [*]; done), by repeat (first | exact Drawn0.refl _ | apply Drawn0.step)⟩

/-- THE ONE PURE STATEMENT of laws_FnField: yours. -/
def laws_FnField.Pure : Prop := ∀ (l0 : List Int) (l1 : List Int), l0.length ≤ maxLen → l0.length * 1 ≤ 140737488351232 → (∀ x ∈ l0, (Lit.int .u8 x).wf = true) → l1.length ≤ maxLen → l1.length * 1 ≤ 140737488351232 → (∀ x ∈ l1, (Lit.int .u8 x).wf = true) → ∃ k, laws_FnField.f k l0 l1 = some true
theorem laws_FnField.walk (P : laws_FnField.Pure) (a0 : Option Addr) (len0 cap0 : Nat) (z0 : List Int) (a1 : Option Addr) (len1 cap1 : Nat) (z1 : List Int) (w : World) (w0 : (a0 = none ∧ len0 = 0 ∧ cap0 = 0 ∧ z0 = []) ∨ ∃ x, a0 = some x ∧ len0 ≤ cap0 ∧ cap0 ≤ maxLen ∧ z0.length = cap0 ∧ (∀ i, i < z0.length → w.cell? (x.add i) = some (.int .u8 (z0.getD i 0))) ∧ ∀ n ∈ z0, (Lit.int .u8 n).wf = true) (y0 : len0 * 1 ≤ 140737488351232) (w1 : (a1 = none ∧ len1 = 0 ∧ cap1 = 0 ∧ z1 = []) ∨ ∃ x, a1 = some x ∧ len1 ≤ cap1 ∧ cap1 ≤ maxLen ∧ z1.length = cap1 ∧ (∀ i, i < z1.length → w.cell? (x.add i) = some (.int .u8 (z1.getD i 0))) ∧ ∀ n ∈ z1, (Lit.int .u8 n).wf = true) (y1 : len1 * 1 ≤ 140737488351232) :
    Calls Try.prog 14 #[.slice a0 len0 cap0, .slice a1 len1 cap1] w fun e w' => e = .returned (.bool true) ∧ Below w.heap.size w w' := by
  obtain ⟨l0, rfl, hr0, hm0, hw0, hc0⟩ := ReadsInt.ofRowC w0
  obtain ⟨l1, rfl, hr1, hm1, hw1, hc1⟩ := ReadsInt.ofRowC w1
  obtain ⟨k, h⟩ := P l0 l1 hm0 y0 hw0 hm1 y1 hw1
  refine (laws_FnField.calls k _ _ l0 _ _ l1 true w (Kd.C_of_reads (d := (0 : Int)) (h1 := fun _ => rfl) hr0) hc0 (Kd.C_of_reads (d := (0 : Int)) (h1 := fun _ => rfl) hr1) hc1 h).mono ?_
  rintro e w' ⟨rfl, hd⟩
  exact ⟨rfl, hd.below⟩

end Go.Proofs.Yteidgaeonffilaa.PFnField

/-
  The row of FnExactMatrixPick: for every input the law returns true, and its arguments read as they did. No conditions.
-/
import Derived.Test.YtlololbhlnapkaaKpExtLaws
import Derived.Test.YtlololbhlnapkaaRows
import Derived.Test.YtlololbhlnapkaaKpXFnExactMatrixPickx5
import Derived.Test.YtlololbhlnapkaaKpPureFnExactMatrixPick
import Derived.WalkKit
import Derived.ProofKit
import Derived.OpenShut
import Derived.ShutString
import Derived.ChangeOld
import Derived.Below
import Derived.SizedLaws
import Derived.Carry
import Derived.Lib.SmallJoins
namespace Go.Proofs.Ytlololbhlnapkaa.fnExactMatrixPick
open Go.ChangeShapes Go.WideShapes Go.ChangeAt Go.RowKit Go.Joins
open Go.ChangeMaps (open_string shut_string)
set_option linter.unusedVariables false
set_option linter.unusedSimpArgs false
theorem own : ownKnob Try.prog.godebug = none := by kernel_rfl
theorem laidOut : laidOutB Try.prog = true := by kernel_rfl
set_option maxRecDepth 100000 in
theorem lifted (os : Os) (started : os.Started) (H : Type) (enc : TypeId × Value → H) :
    ReturnsInHanded {} Try.checked os 6 .any (Rows.fnExactMatrixPickSpec.pre6 enc Try.prog Try.f6 Rows.fnExactMatrixPickRow.domain false) (Rows.fnExactMatrixPickSpec.post enc Try.prog Try.f6 false true false false) := by
  refine returnsInHanded_of_change_sized (C := Try.checked) own started (by kernel_rfl) Try.func6
    (ChangeSpec.witness6 (enc := enc) (C := Try.checked) false ⟨#[], #[.agg #[.int .i64 0, .int .i64 0, .slice none 0 0], .slice none 0 0], []⟩ 8 (by kernel_rfl) (by kernel_rfl) (by kernel_rfl) (by kernel_rfl)) ?_
  intro W base args ds gs before hval0 hW hcnd hsz0 _
  have hsz : (DataW.weightsEach Try.prog (Try.f6.params.toList ++ Rows.fnExactMatrixPickSpec.plain.varTypes Try.prog) (ds ++ gs)).all (· ≤ reachBytes) = true := hsz0
  have hval : ∀ (j : Nat) t v, Try.f6.params[j]? = some t → args[j]? = some v → Value.okWide Try.prog W .any base t v := hval0
  have hW' := hW
  obtain ⟨p, q, hA0, hV, rfl, hfz, hnd⟩ := hW
  have hA : DataW.TrodAll enc Try.prog W 0 (fun _ => true) true Try.f6.params.toList args.toList ds p := hA0
  rw [Try.params6] at hA hval hsz
  obtain ⟨v0, vs0, d0, ds0, p0, q0, hargs, rfl, rfl, h0, r0⟩ := trodAll_cons hA
  obtain ⟨v1, vs1, d1, ds1, p1, q1, rfl, rfl, rfl, h1, r1⟩ := trodAll_cons r0
  obtain ⟨rfl, rfl, rfl⟩ := trodAll_nil r1
  obtain rfl : args = #[v0, v1] := by cases args; simp_all
  obtain ⟨rfl, rfl⟩ := trodVars_none hV
  have k0 := h0
  have lt0 : ∀ x ∈ p0, x.block < W.heap.size := by obtain ⟨m, hm⟩ := k0; exact DataW.trod_lt m _ _ _ hm
  have k1 := h1
  have lt1 : ∀ x ∈ p1, x.block < W.heap.size := by obtain ⟨m, hm⟩ := k1; exact DataW.trod_lt m _ _ _ hm
  obtain ⟨c0_0, c0_1, c0_2, y0_0, y0_1, y0_2, m0, rfl, rfl, rfl, hy0_0, hy0_1, hy0_2⟩ := open_agg3 Try.underlying24 (by kernel_rfl) (by kernel_rfl) (hval 0 24 v0 rfl rfl) h0
  obtain ⟨a0_0, e0_0, rfl, w0_0⟩ := DataW.trod_int Try.underlying2 hy0_0
  obtain ⟨a0_1, e0_1, rfl, w0_1⟩ := DataW.trod_int Try.underlying2 hy0_1
  obtain ⟨A0_2, cap0_2, l0_2, rfl, hC0_2, hL0_2, m0_2, w0_2⟩ := Ext.open_ints_C Try.underlying22 Try.underlying2 (by kernel_rfl) hy0_2
  simp at e0_0 e0_1
  subst e0_0 e0_1
  obtain ⟨A1, cap1, l1, rfl, hC1, hL1, m1, w1⟩ : ∃ (A : Option Addr) (c : Nat) (l : List Int), v1 = .slice A l.length c ∧ Go.Proofs.YtlololbhlnapkaaW.PrintWords.Kd.C (Go.Proofs.YtlololbhlnapkaaW.PrintWords.Kd.int .i64) W A l.length l ∧ l.length ≤ c ∧ l.length ≤ maxLen ∧ ∀ n ∈ l, (Lit.int .i64 n).wf = true := by
    obtain ⟨a_, n_, c_, rfl⟩ := okWide_slice Try.underlying22 (hval 1 22 v1 rfl rfl)
    obtain ⟨fuel, hf⟩ := h1
    exact Ext.open_ints_C (v := .slice a_ n_ c_) Try.underlying22 Try.underlying2 (by kernel_rfl) (by simpa [Value.cells] using hf)
  clear hA0 hval0 hsz0 hsz
  obtain ⟨k, hk⟩ := Pure.FnExactMatrixPick a0_0 a0_1 l0_2 l1 w0_0 w0_1 m0_2 w0_2 m1 w1
  refine (XFnExactMatrixPick.laws_FnExactMatrixPick.calls k a0_0 a0_1 A0_2 cap0_2 l0_2 A1 cap1 l1 true W hC0_2 hL0_2 hC1 hL1 hk).mono fun e W' ⟨he, bel⟩ => ?_
  subst he
  exact ⟨_, rfl, _, _, _, [], _, [], hW', trodAll_mk1 (shut_bool Try.underlying4 _), (trodAll_cons_mk (Below.trod laidOut (by kernel_rfl) (of_decide_eq_true (by kernel_rfl)) k0 bel lt0) (trodAll_cons_mk (Below.trod laidOut (by kernel_rfl) (of_decide_eq_true (by kernel_rfl)) k1 bel lt1) trodAll_mk0)), rfl, bel.frame _, fun h => by cases h⟩
theorem proved : Rows.FnExactMatrixPickSaid :=
  OpenClaim.holds_of_wide 6 Try.f6 rfl rfl rfl rfl rfl rfl rfl ⟨rfl, rfl, rfl, rfl, rfl⟩ rfl rfl rfl rfl rfl (by kernel_rfl) Try.func6 (by kernel_rfl)
    (of_decide_eq_true (by kernel_rfl)) (by unfold Func.isWrapper; first | (rw [if_pos (by decide +kernel)]; kernel_rfl) | (rw [if_neg (by decide +kernel)]; exact ⟨rfl, rfl⟩))
    (fun os started H enc _ => lifted os started H enc)
#print axioms proved
end Go.Proofs.Ytlololbhlnapkaa.fnExactMatrixPick
namespace Go.Proofs.Ytlololbhlnapkaa
/-- The row, under a short name, for the claim. -/
theorem fnExactMatrixPick_holds : Rows.FnExactMatrixPickSaid := fnExactMatrixPick.proved
end Go.Proofs.Ytlololbhlnapkaa

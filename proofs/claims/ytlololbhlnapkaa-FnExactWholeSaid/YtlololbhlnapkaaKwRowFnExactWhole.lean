/-
  The row of FnExactWhole: for every input the law returns true, and its arguments read as they did. No conditions.
-/
import Derived.Test.YtlololbhlnapkaaKwOpenRows
import Derived.Test.YtlololbhlnapkaaRows
import Derived.Test.YtlololbhlnapkaaKwXFnExactWholex8
import Derived.Test.YtlololbhlnapkaaKwPureFnExactWhole
import Derived.WalkKit
import Derived.ProofKit
import Derived.OpenShut
import Derived.ShutString
import Derived.ChangeOld
import Derived.Below
import Derived.SizedLaws
import Derived.Carry
import Derived.Lib.SmallJoins
namespace Go.Proofs.Ytlololbhlnapkaa.fnExactWhole
open Go.ChangeShapes Go.WideShapes Go.ChangeAt Go.RowKit Go.Joins
open Go.ChangeMaps (open_string shut_string)
set_option linter.unusedVariables false
set_option linter.unusedSimpArgs false
theorem own : ownKnob Try.prog.godebug = none := by kernel_rfl
theorem laidOut : laidOutB Try.prog = true := by kernel_rfl
set_option maxRecDepth 100000 in
theorem lifted (os : Os) (started : os.Started) (H : Type) (enc : TypeId × Value → H) :
    ReturnsInHanded {} Try.checked os 8 .any (Rows.fnExactWholeSpec.pre6 enc Try.prog Try.f8 Rows.fnExactWholeRow.domain false) (Rows.fnExactWholeSpec.post enc Try.prog Try.f8 false true false false) := by
  refine returnsInHanded_of_change_sized (C := Try.checked) own started (by kernel_rfl) Try.func8
    (ChangeSpec.witness6 (enc := enc) (C := Try.checked) false ⟨#[], #[.int .i64 0, .int .i64 0, .slice none 0 0], []⟩ 8 (by kernel_rfl) (by kernel_rfl) (by kernel_rfl) (by kernel_rfl)) ?_
  intro W base args ds gs before hval0 hW hcnd hsz0 _
  have hsz : (DataW.weightsEach Try.prog (Try.f8.params.toList ++ Rows.fnExactWholeSpec.plain.varTypes Try.prog) (ds ++ gs)).all (· ≤ reachBytes) = true := hsz0
  have hval : ∀ (j : Nat) t v, Try.f8.params[j]? = some t → args[j]? = some v → Value.okWide Try.prog W .any base t v := hval0
  have hW' := hW
  obtain ⟨p, q, hA0, hV, rfl, hfz, hnd⟩ := hW
  have hA : DataW.TrodAll enc Try.prog W 0 (fun _ => true) true Try.f8.params.toList args.toList ds p := hA0
  rw [Try.params8] at hA hval hsz
  obtain ⟨v0, vs0, d0, ds0, p0, q0, hargs, rfl, rfl, h0, r0⟩ := trodAll_cons hA
  obtain ⟨v1, vs1, d1, ds1, p1, q1, rfl, rfl, rfl, h1, r1⟩ := trodAll_cons r0
  obtain ⟨v2, vs2, d2, ds2, p2, q2, rfl, rfl, rfl, h2, r2⟩ := trodAll_cons r1
  obtain ⟨rfl, rfl, rfl⟩ := trodAll_nil r2
  obtain rfl : args = #[v0, v1, v2] := by cases args; simp_all
  obtain ⟨rfl, rfl⟩ := trodVars_none hV
  have k0 := h0
  have lt0 : ∀ x ∈ p0, x.block < W.heap.size := by obtain ⟨m, hm⟩ := k0; exact DataW.trod_lt m _ _ _ hm
  have k1 := h1
  have lt1 : ∀ x ∈ p1, x.block < W.heap.size := by obtain ⟨m, hm⟩ := k1; exact DataW.trod_lt m _ _ _ hm
  have k2 := h2
  have lt2 : ∀ x ∈ p2, x.block < W.heap.size := by obtain ⟨m, hm⟩ := k2; exact DataW.trod_lt m _ _ _ hm
  obtain ⟨a0, rfl, rfl, rfl, w0⟩ := open_int Try.underlying2 (hval 0 2 v0 rfl rfl) h0
  obtain ⟨a1, rfl, rfl, rfl, w1⟩ := open_int Try.underlying2 (hval 1 2 v1 rfl rfl) h1
  have elem2 : ∀ (n : Nat) (cs : List Value) (y : DataW H × List MemPlace), DataW.trod enc Try.prog W 0 (fun _ => true) true n 9 cs = some y → ∃ a, Go.Proofs.YtlololbhlnapkaaW.PrintWords.Kd.string.K W a cs ∧ (fun _ : ByteArray => True) a := by
    intro n cs y h
    obtain ⟨b, eb, _, wb⟩ := DataW.trod_string Try.underlying9 h
    subst eb
    exact ⟨b, rfl, trivial⟩
  obtain ⟨A2, cap2, l2, rfl, hC2, hL2, m2, _⟩ : ∃ (A : Option Addr) (c : Nat) (l : List ByteArray), v2 = .slice A l.length c ∧ Go.Proofs.YtlololbhlnapkaaW.PrintWords.Kd.C Go.Proofs.YtlololbhlnapkaaW.PrintWords.Kd.string W A l.length l ∧ l.length ≤ c ∧ l.length ≤ maxLen ∧ (∀ a ∈ l, (fun _ : ByteArray => True) a) := by
    obtain ⟨a_, n_, c_, rfl⟩ := okWide_slice Try.underlying52 (hval 2 52 v2 rfl rfl)
    obtain ⟨fuel, hf⟩ := h2
    haveI : Inhabited ByteArray := ⟨ByteArray.empty⟩
    exact Ext.open_rows_C Go.Proofs.YtlololbhlnapkaaW.PrintWords.Kd.string (fun _ => True) (v := .slice a_ n_ c_) Try.underlying52 (by kernel_rfl) elem2 (by simpa [Value.cells] using hf)
  clear hA0 hval0 hsz0 hsz
  obtain ⟨k, hk⟩ := Pure.FnExactWhole a0 a1 l2 w0 w1 m2
  refine (XFnExactWhole.laws_FnExactWhole.calls k a0 a1 A2 cap2 l2 true W hC2 hL2 hk).mono fun e W' ⟨he, bel⟩ => ?_
  subst he
  exact ⟨_, rfl, _, _, _, [], _, [], hW', trodAll_mk1 (shut_bool Try.underlying4 _), (trodAll_cons_mk (Below.trod laidOut (by kernel_rfl) (of_decide_eq_true (by kernel_rfl)) k0 bel lt0) (trodAll_cons_mk (Below.trod laidOut (by kernel_rfl) (of_decide_eq_true (by kernel_rfl)) k1 bel lt1) (trodAll_cons_mk (Below.trod laidOut (by kernel_rfl) (of_decide_eq_true (by kernel_rfl)) k2 bel lt2) trodAll_mk0))), rfl, bel.frame _, fun h => by cases h⟩
theorem proved : Rows.FnExactWholeSaid :=
  OpenClaim.holds_of_wide 8 Try.f8 rfl rfl rfl rfl rfl rfl rfl ⟨rfl, rfl, rfl, rfl, rfl⟩ rfl rfl rfl rfl rfl (by kernel_rfl) Try.func8 (by kernel_rfl)
    (of_decide_eq_true (by kernel_rfl)) (by unfold Func.isWrapper; first | (rw [if_pos (by decide +kernel)]; kernel_rfl) | (rw [if_neg (by decide +kernel)]; exact ⟨rfl, rfl⟩))
    (fun os started H enc _ => lifted os started H enc)
#print axioms proved
end Go.Proofs.Ytlololbhlnapkaa.fnExactWhole
namespace Go.Proofs.Ytlololbhlnapkaa
/-- The row, under a short name, for the claim. -/
theorem fnExactWhole_holds : Rows.FnExactWholeSaid := fnExactWhole.proved
end Go.Proofs.Ytlololbhlnapkaa

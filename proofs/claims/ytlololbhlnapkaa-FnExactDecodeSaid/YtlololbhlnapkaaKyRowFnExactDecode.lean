/-
  The row of FnExactDecode: for every input the law returns true, and its arguments read as they did. No conditions.
-/
import Derived.Test.YtlololbhlnapkaaKyOpenRows
import Derived.Test.YtlololbhlnapkaaRows
import Derived.Test.YtlololbhlnapkaaKyXFnExactDecodex16
import Derived.Test.YtlololbhlnapkaaKyPureFnExactDecode
import Derived.WalkKit
import Derived.ProofKit
import Derived.OpenShut
import Derived.ShutString
import Derived.ChangeOld
import Derived.Below
import Derived.SizedLaws
import Derived.Carry
import Derived.Lib.SmallJoins
namespace Go.Proofs.Ytlololbhlnapkaa.fnExactDecode
open Go.ChangeShapes Go.WideShapes Go.ChangeAt Go.RowKit Go.Joins
open Go.ChangeMaps (open_string shut_string)
set_option linter.unusedVariables false
set_option linter.unusedSimpArgs false
theorem own : ownKnob Try.prog.godebug = none := by kernel_rfl
theorem laidOut : laidOutB Try.prog = true := by kernel_rfl
set_option maxRecDepth 100000 in
theorem lifted (os : Os) (started : os.Started) (H : Type) (enc : TypeId × Value → H) :
    ReturnsInHanded {} Try.checked os 14 .any (Rows.fnExactDecodeSpec.pre6 enc Try.prog Try.f14 Rows.fnExactDecodeRow.domain false) (Rows.fnExactDecodeSpec.post enc Try.prog Try.f14 false true false false) := by
  refine returnsInHanded_of_change_sized (C := Try.checked) own started (by kernel_rfl) Try.func14
    (ChangeSpec.witness6 (enc := enc) (C := Try.checked) false ⟨#[], #[.int .i64 0, .int .i64 0, .int .i64 0, .slice none 0 0], []⟩ 8 (by kernel_rfl) (by kernel_rfl) (by kernel_rfl) (by kernel_rfl)) ?_
  intro W base args ds gs before hval0 hW hcnd hsz0 _
  have hsz : (DataW.weightsEach Try.prog (Try.f14.params.toList ++ Rows.fnExactDecodeSpec.plain.varTypes Try.prog) (ds ++ gs)).all (· ≤ reachBytes) = true := hsz0
  have hval : ∀ (j : Nat) t v, Try.f14.params[j]? = some t → args[j]? = some v → Value.okWide Try.prog W .any base t v := hval0
  have hW' := hW
  obtain ⟨p, q, hA0, hV, rfl, hfz, hnd⟩ := hW
  have hA : DataW.TrodAll enc Try.prog W 0 (fun _ => true) true Try.f14.params.toList args.toList ds p := hA0
  rw [Try.params14] at hA hval hsz
  obtain ⟨v0, vs0, d0, ds0, p0, q0, hargs, rfl, rfl, h0, r0⟩ := trodAll_cons hA
  obtain ⟨v1, vs1, d1, ds1, p1, q1, rfl, rfl, rfl, h1, r1⟩ := trodAll_cons r0
  obtain ⟨v2, vs2, d2, ds2, p2, q2, rfl, rfl, rfl, h2, r2⟩ := trodAll_cons r1
  obtain ⟨v3, vs3, d3, ds3, p3, q3, rfl, rfl, rfl, h3, r3⟩ := trodAll_cons r2
  obtain ⟨rfl, rfl, rfl⟩ := trodAll_nil r3
  obtain rfl : args = #[v0, v1, v2, v3] := by cases args; simp_all
  obtain ⟨rfl, rfl⟩ := trodVars_none hV
  have k0 := h0
  have lt0 : ∀ x ∈ p0, x.block < W.heap.size := by obtain ⟨m, hm⟩ := k0; exact DataW.trod_lt m _ _ _ hm
  have k1 := h1
  have lt1 : ∀ x ∈ p1, x.block < W.heap.size := by obtain ⟨m, hm⟩ := k1; exact DataW.trod_lt m _ _ _ hm
  have k2 := h2
  have lt2 : ∀ x ∈ p2, x.block < W.heap.size := by obtain ⟨m, hm⟩ := k2; exact DataW.trod_lt m _ _ _ hm
  have k3 := h3
  have lt3 : ∀ x ∈ p3, x.block < W.heap.size := by obtain ⟨m, hm⟩ := k3; exact DataW.trod_lt m _ _ _ hm
  obtain ⟨a0, rfl, rfl, rfl, w0⟩ := open_int Try.underlying2 (hval 0 2 v0 rfl rfl) h0
  obtain ⟨a1, rfl, rfl, rfl, w1⟩ := open_int Try.underlying2 (hval 1 2 v1 rfl rfl) h1
  obtain ⟨a2, rfl, rfl, rfl, w2⟩ := open_int Try.underlying2 (hval 2 2 v2 rfl rfl) h2
  have elem3 : ∀ (n : Nat) (cs : List Value) (y : DataW H × List MemPlace), DataW.trod enc Try.prog W 0 (fun _ => true) true n 111 cs = some y → ∃ a, XFnExactDecode.k111.K W a cs ∧ (a.f1.size ≤ maxLen) := by
    intro n cs y h
    obtain ⟨xs, n2, _, _, hlen, hxs, hf⟩ := DataW.trod_struct Try.underlying111 h
    rw [show Try.prog.cellsOf 111 = 2 by kernel_rfl] at hlen
    match cs, hlen with
    | [q0, q1], _ =>
      have h10 : DataW.trod enc Try.prog W 0 (fun _ => true) true n2 4 (([q0, q1].drop 0).take (Try.prog.cellsOf 4)) = xs[0]? := hf 0 _ rfl
      rw [show xs[0]? = some (xs[0]'(by rw [hxs]; decide)) from List.getElem?_eq_getElem _] at h10
      try dsimp only at h10
      rw [show Try.prog.cellsOf 4 = 1 by kernel_rfl] at h10
      have h11 : DataW.trod enc Try.prog W 0 (fun _ => true) true n2 9 (([q0, q1].drop 1).take (Try.prog.cellsOf 9)) = xs[1]? := hf 1 _ rfl
      rw [show xs[1]? = some (xs[1]'(by rw [hxs]; decide)) from List.getElem?_eq_getElem _] at h11
      try dsimp only at h11
      rw [show Try.prog.cellsOf 9 = 1 by kernel_rfl] at h11
      obtain ⟨b0, eb0, wb0⟩ := DataW.trod_bool Try.underlying4 h10
      simp at eb0
      subst eb0
      obtain ⟨b1, eb1, _, wb1⟩ := DataW.trod_string Try.underlying9 h11
      simp at eb1
      subst eb1
      exact ⟨⟨b0, b1⟩, XFnExactDecode.k111_mk _ _, wb1⟩
  obtain ⟨A3, cap3, l3, rfl, hC3, hL3, m3, w3⟩ : ∃ (A : Option Addr) (c : Nat) (l : List XFnExactDecode.S111), v3 = .slice A l.length c ∧ XFnExactDecode.k111.C W A l.length l ∧ l.length ≤ c ∧ l.length ≤ maxLen ∧ (∀ a ∈ l, (fun (a : XFnExactDecode.S111) => a.f1.size ≤ maxLen) a) := by
    obtain ⟨a_, n_, c_, rfl⟩ := okWide_slice Try.underlying66 (hval 3 66 v3 rfl rfl)
    obtain ⟨fuel, hf⟩ := h3
    haveI : Inhabited XFnExactDecode.S111 := ⟨XFnExactDecode.z111⟩
    exact Ext.open_rows_C XFnExactDecode.k111 (fun a => a.f1.size ≤ maxLen) (v := .slice a_ n_ c_) Try.underlying66 (by kernel_rfl) elem3 (by simpa [Value.cells] using hf)
  clear hA0 hval0 hsz0 hsz
  obtain ⟨k, hk⟩ := Pure.FnExactDecode a0 a1 a2 l3 w0 w1 w2 m3 w3
  refine (XFnExactDecode.laws_FnExactDecode.calls k a0 a1 a2 A3 cap3 l3 true W hC3 hL3 hk).mono fun e W' ⟨he, bel⟩ => ?_
  subst he
  exact ⟨_, rfl, _, _, _, [], _, [], hW', trodAll_mk1 (shut_bool Try.underlying4 _), (trodAll_cons_mk (Below.trod laidOut (by kernel_rfl) (of_decide_eq_true (by kernel_rfl)) k0 bel lt0) (trodAll_cons_mk (Below.trod laidOut (by kernel_rfl) (of_decide_eq_true (by kernel_rfl)) k1 bel lt1) (trodAll_cons_mk (Below.trod laidOut (by kernel_rfl) (of_decide_eq_true (by kernel_rfl)) k2 bel lt2) (trodAll_cons_mk (Below.trod laidOut (by kernel_rfl) (of_decide_eq_true (by kernel_rfl)) k3 bel lt3) trodAll_mk0)))), rfl, bel.frame _, fun h => by cases h⟩
theorem proved : Rows.FnExactDecodeSaid :=
  OpenClaim.holds_of_wide 14 Try.f14 rfl rfl rfl rfl rfl rfl rfl ⟨rfl, rfl, rfl, rfl, rfl⟩ rfl rfl rfl rfl rfl (by kernel_rfl) Try.func14 (by kernel_rfl)
    (of_decide_eq_true (by kernel_rfl)) (by unfold Func.isWrapper; first | (rw [if_pos (by decide +kernel)]; kernel_rfl) | (rw [if_neg (by decide +kernel)]; exact ⟨rfl, rfl⟩))
    (fun os started H enc _ => lifted os started H enc)
#print axioms proved
end Go.Proofs.Ytlololbhlnapkaa.fnExactDecode
namespace Go.Proofs.Ytlololbhlnapkaa
/-- The row, under a short name, for the claim. -/
theorem fnExactDecode_holds : Rows.FnExactDecodeSaid := fnExactDecode.proved
end Go.Proofs.Ytlololbhlnapkaa

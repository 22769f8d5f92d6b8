/- The row of FnExactHashMore and its card: what the walk shows, for every input, the tables as the text lays them. Conditions: none beyond the row's own. -/
import Derived.Test.YtbbgahoeokffbaaDoorKhExtLaws
import Derived.Test.YtbbgahoeokffbaaDoorRows
import Derived.Test.YtbbgahoeokffbaaDoorKhXFnExactHashMorex4
import Derived.Test.YtbbgahoeokffbaaDoorKhPureFnExactHashMore
import Derived.Test.YtbbgahoeokffbaaDoorCards
import Derived.Test.YtbbgahoeokffbaaDoorTie
import Derived.Test.YtbbgahoeokffbaaDoorKhSha3
import Derived.OpenVars
import Derived.Deep.DeepHandedRow
import Derived.Lib.LaidTab
import Derived.Stop.LaidErr
import Derived.WalkKit
import Derived.ProofKit
import Derived.OpenShut
import Derived.ShutString
import Derived.ChangeOld
import Derived.Below
import Derived.SizedLaws
import Derived.Carry
import Derived.Lib.SmallJoins
namespace Go.Proofs.YtbbgahoeokffbaaDoor.fnExactHashMore
open Go.ChangeShapes Go.WideShapes Go.ChangeAt Go.RowKit Go.Joins
open Go.ChangeMaps (open_string shut_string)
set_option linter.unusedVariables false
set_option linter.unusedSimpArgs false
theorem own : ownKnob Tryd.prog.godebug = none := by kernel_rfl
theorem laidOut : laidOutB Tryd.prog = true := by kernel_rfl
theorem gR : Tryd.prog.globalNamed "loop.example/g00259/impl.roots" = some 1 := by kernel_rfl
theorem tR : (Tryd.prog.globals[1]?).map (·.type) = some 86 := by kernel_rfl
theorem c86 : Tryd.prog.cellsOf 86 = 64 := by kernel_rfl
theorem c65 : Tryd.prog.cellsOf 65 = 1 := by kernel_rfl
theorem heap_of_var {W : World} {n : String} {g : Nat} {l : List Int} (hg : Tryd.prog.globalNamed n = some g) (h : Lib.TabIs Tryd.prog W n .u32 l) : ∃ t fr, W.heap[g]? = some (.cells (Sha.u32s l) t fr) := by
  unfold Lib.TabIs World.var? at h
  rw [hg] at h
  simp only [Option.bind_some] at h
  cases hh : W.heap[g]? with
  | none => rw [hh] at h; cases h
  | some o =>
    rw [hh] at h
    cases o with
    | cells cs t fr => exact ⟨t, fr, by rw [Option.some.inj h]; rfl⟩
    | _ => cases h
theorem roots_of {W : World} (h : ∃ t fr, W.heap[1]? = some (.cells (Sha.u32s Sha.roots) t fr)) : Sha.Roots W := by
  obtain ⟨t, fr, h⟩ := h
  intro j hj
  have := cell_of_row W 1 j _ t fr h
  rw [this]
  simp [Sha.u32s, List.getElem?_eq_getElem (show j < Sha.roots.length from hj), List.getD_eq_getElem?_getD]
theorem glob_of {W : World} (h : laidMetH Tryd.prog Rows.fnExactHashMoreRow.laid W) : Sha.Roots W :=
  roots_of (heap_of_var gR (Lib.tabIs_of_head (rest := []) gR tR Tryd.underlying86 Tryd.underlying65 c65 c86 h))
/-- A world for the witness: the settled one, the tables holding what their initialisers lay. -/
noncomputable def laidWorld (os : Os) : World :=
  { World.holding Tryd.prog os ⟨#[], #[], []⟩ with heap := ((World.holding Tryd.prog os ⟨#[], #[], []⟩).heap.modify 1 (fun | .cells _ t frozen => .cells (Sha.u32s Sha.roots) t frozen | o => o)) }
theorem laid_met (os : Os) : laidMet Tryd.prog Rows.fnExactHashMoreRow.laid ((laidWorld os).forCall (fun _ _ => 0) ⟨#[], #[.agg #[.slice none 0 0, .string ByteArray.empty, .int .i64 0], .string ByteArray.empty], []⟩).memory :=
  laidMet_of_run' 8 (by kernel_rfl) (by kernel_rfl)
theorem reads0 (os : Os) {H : Type} (enc : TypeId × Value → H) : (DataW.whole enc Tryd.prog ((laidWorld os).forCall (fun _ _ => 0) ⟨#[], #[.agg #[.slice none 0 0, .string ByteArray.empty, .int .i64 0], .string ByteArray.empty], []⟩).memory Tryd.f4.params.toList Rows.fnExactHashMoreSpec.vars false (#[.agg #[.slice none 0 0, .string ByteArray.empty, .int .i64 0], .string ByteArray.empty] : Array Value).toList 8).map (fun x => (x.1, x.2.1)) = some ([.agg [.nil, .lit (.string []), .lit (.int .i64 0)], .lit (.string [])], [Rows.laid_loop_example_g00259_impl_roots]) := by kernel_rfl
theorem reads (os : Os) {H : Type} (enc : TypeId × Value → H) : ∃ places, DataW.whole enc Tryd.prog ((laidWorld os).forCall (fun _ _ => 0) ⟨#[], #[.agg #[.slice none 0 0, .string ByteArray.empty, .int .i64 0], .string ByteArray.empty], []⟩).memory Tryd.f4.params.toList Rows.fnExactHashMoreSpec.vars false (#[.agg #[.slice none 0 0, .string ByteArray.empty, .int .i64 0], .string ByteArray.empty] : Array Value).toList 8 = some ([.agg [.nil, .lit (.string []), .lit (.int .i64 0)], .lit (.string [])], [Rows.laid_loop_example_g00259_impl_roots], places) := by
  obtain ⟨⟨x, y, places⟩, hx, he⟩ := Option.map_eq_some_iff.1 (reads0 os enc)
  obtain ⟨rfl, rfl⟩ := Prod.mk.inj he
  exact ⟨places, hx⟩
theorem one_var {H : Type} {enc : TypeId × Value → H} {P : Program} {w : World} {sp : Nat → Bool} {n : String} {gs : List (DataW H)} {ps : List MemPlace} (h : DataW.TrodVars enc P w sp [n] gs ps) : ∃ g1, gs = [g1] := by
  match gs, h with
  | [], h => exact h.elim
  | [d], _ => exact ⟨d, rfl⟩
  | d :: d2 :: ds, h =>
    obtain ⟨_, _, _, _, _, _, _, _, _, _, hs, _⟩ := h
    exact hs.elim
set_option maxRecDepth 100000 in
theorem lifted (os : Os) (started : os.Started) (H : Type) (enc : TypeId × Value → H) (F : Stop.Interp) :
    ReturnsInHanded {} Tryd.checked os 4 .any ((OpenSpec.ofChange Rows.fnExactHashMoreSpec).preRow enc Tryd.prog Tryd.f4 Rows.fnExactHashMoreRow.domain false Rows.fnExactHashMoreRow.laid) (((OpenSpec.ofChange Rows.fnExactHashMoreSpec).at F).post enc Tryd.prog Tryd.f4 false true false false) := by
  obtain ⟨places, hx⟩ := reads os enc
  refine returnsInHanded_of_row (C := Tryd.checked) (s := OpenSpec.ofChange Rows.fnExactHashMoreSpec) own started (by kernel_rfl) Tryd.func4
    (witness_row_at (enc := enc) (C := Tryd.checked) false (laidWorld os) #[.agg #[.slice none 0 0, .string ByteArray.empty, .int .i64 0], .string ByteArray.empty] rfl (by kernel_rfl) (by kernel_rfl) (by kernel_rfl)
      (OpenSpec.preRow_of_cond 8 hx (by kernel_rfl) (fun k hk => by cases hk) (by kernel_rfl) (laid_met os))) ?_
  intro W base args ds gs before hval0 hW hcnd _ hsz0 hLd _ _
  have hsz : (DataW.weightsEach Tryd.prog (Tryd.f4.params.toList ++ Rows.fnExactHashMoreSpec.plain.varTypes Tryd.prog) (ds ++ gs)).all (· ≤ reachBytes) = true := hsz0
  have hval : ∀ (j : Nat) t v, Tryd.f4.params[j]? = some t → args[j]? = some v → Value.okWide Tryd.prog W .any base t v := hval0
  have hW' := hW
  obtain ⟨p, q, hA0, hV, rfl, hfz, hnd⟩ := hW
  have hA : DataW.TrodAll enc Tryd.prog W 0 (fun _ => true) true Tryd.f4.params.toList args.toList ds p := hA0
  rw [Tryd.params4] at hA hval hsz
  obtain ⟨v0, vs0, d0, ds0, p0, q0, hargs, rfl, rfl, h0, r0⟩ := trodAll_cons hA
  obtain ⟨v1, vs1, d1, ds1, p1, q1, rfl, rfl, rfl, h1, r1⟩ := trodAll_cons r0
  obtain ⟨rfl, rfl, rfl⟩ := trodAll_nil r1
  obtain rfl : args = #[v0, v1] := by cases args; simp_all
  obtain ⟨g1, rfl⟩ := one_var hV
  have k0 := h0
  have lt0 : ∀ x ∈ p0, x.block < W.heap.size := by obtain ⟨m, hm⟩ := k0; exact DataW.trod_lt m _ _ _ hm
  have k1 := h1
  have lt1 : ∀ x ∈ p1, x.block < W.heap.size := by obtain ⟨m, hm⟩ := k1; exact DataW.trod_lt m _ _ _ hm
  obtain ⟨c0_0, c0_1, c0_2, y0_0, y0_1, y0_2, m0, rfl, rfl, rfl, hy0_0, hy0_1, hy0_2⟩ := open_agg3 Tryd.underlying29 (by kernel_rfl) (by kernel_rfl) (hval 0 29 v0 rfl rfl) h0
  obtain ⟨A0_0, cap0_0, l0_0, rfl, hC0_0, hL0_0, m0_0, w0_0⟩ := Ext.open_ints_C Tryd.underlying22 Tryd.underlying2 (by kernel_rfl) hy0_0
  obtain ⟨a0_1, e0_1, rfl, w0_1⟩ := DataW.trod_string Tryd.underlying9 hy0_1
  obtain ⟨a0_2, e0_2, rfl, w0_2⟩ := DataW.trod_int Tryd.underlying2 hy0_2
  simp at e0_1 e0_2
  subst e0_1 e0_2
  obtain ⟨a1, rfl, rfl, rfl, y1⟩ := open_string Tryd.underlying9 (hval 1 9 v1 rfl rfl) h1
  have w1 : a1.size ≤ 140737488351232 := by
    have z := sized_string hsz (j := 1) (t := 9) rfl rfl
    rw [Array.length_toList] at z
    exact z
  clear hA0 hval0 hsz0 hsz
  obtain ⟨k, hk⟩ := Pure.FnExactHashMore l0_0 a0_1 a0_2 a1 m0_0 w0_0 w0_1 w0_2 w1
  refine (XFnExactHashMore.laws_FnExactHashMore.calls k A0_0 cap0_0 l0_0 a0_1 a0_2 a1 true W hC0_0 hL0_0 hk (glob_of hLd)).mono fun e W' ⟨he, bel⟩ => ?_
  subst he
  exact ⟨_, rfl, _, _, _, [], _, _, hW', trodAll_mk1 (shut_bool Tryd.underlying4 _), (trodAll_cons_mk (Below.trod laidOut (by kernel_rfl) (of_decide_eq_true (by kernel_rfl)) k0 bel lt0) (trodAll_cons_mk (Below.trod laidOut (by kernel_rfl) (of_decide_eq_true (by kernel_rfl)) k1 bel lt1) trodAll_mk0)), bel.trodVars (by kernel_rfl) (by kernel_rfl) hV, bel.frame _, fun h => by cases h⟩
theorem over : Rows.FnExactHashMoreSaid :=
  OpenClaim.holds_of_cond 4 Tryd.f4 rfl rfl rfl rfl rfl rfl rfl ⟨rfl, rfl, rfl, rfl, rfl⟩ rfl rfl rfl rfl rfl (by kernel_rfl) Tryd.func4 (by kernel_rfl)
    (of_decide_eq_true (by kernel_rfl)) (by unfold Func.isWrapper; first | (rw [if_pos (by decide +kernel)]; kernel_rfl) | (rw [if_neg (by decide +kernel)]; exact ⟨rfl, rfl⟩))
    (fun os started H enc _ F => by rw [OpenClaim.pre_eq_preRow]; exact lifted os started H enc F)
theorem plain (f : FuncId) (fn : Func) (hf : Tryd.pinned.checked.prog.funcNamed "loop.example/g00259/laws.FnExactHashMore" = some f) (hfn : Tryd.pinned.checked.prog.funcs[f]? = some fn) :
    false = Tryd.pinned.checked.prog.looks [] ∧ ∀ (j : Nat) t, fn.params[j]? = some t → Tryd.pinned.checked.prog.wantsStandIn t = false := by
  obtain rfl : f = 4 := Option.some.inj ((show Tryd.prog.funcNamed "loop.example/g00259/laws.FnExactHashMore" = some 4 by kernel_rfl).symm.trans hf) |>.symm
  obtain rfl : fn = Tryd.f4 := (Option.some.inj (Tryd.func4.symm.trans hfn)).symm
  refine ⟨by kernel_rfl, fun j t ht => ?_⟩
  have hall : Tryd.f4.params.all (fun t => !Tryd.prog.wantsStandIn t) = true := by kernel_rfl
  have := Array.all_eq_true_iff_forall_mem.1 hall t (Array.mem_of_getElem? ht)
  have h2 : Tryd.prog.wantsStandIn t = false := by
    cases hq : Tryd.prog.wantsStandIn t with
    | false => rfl
    | true => rw [hq] at this; cases this
  exact h2
theorem proved : Rows.FnExactHashMoreCardSaid :=
  Claim7.holds_tied_plain_at .later [] _ _ _ _ over (fun _ h => by cases h) (by kernel_rfl) (fun _ h => by cases h) fnExactHashMore_row_tie rfl ⟨rfl, rfl⟩ (by kernel_rfl) rfl plain (by kernel_rfl)
#print axioms proved
end Go.Proofs.YtbbgahoeokffbaaDoor.fnExactHashMore
namespace Go.Proofs.YtbbgahoeokffbaaDoor
/-- The row, under a short name, for the claim. -/
theorem fnExactHashMore_holds : Rows.FnExactHashMoreCardSaid := fnExactHashMore.proved
end Go.Proofs.YtbbgahoeokffbaaDoor

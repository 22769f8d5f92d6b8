/- The row of FnExactPackBytes and its card: what the walk shows, for every input, the tables as the text lays them. Conditions: none beyond the row's own. -/
import Derived.Test.YtbbgahoeokffbaaDoorKpOpenRows
import Derived.Test.YtbbgahoeokffbaaDoorRows
import Derived.Test.YtbbgahoeokffbaaDoorKpZFnExactPackBytesx2
import Derived.Test.YtbbgahoeokffbaaDoorKpPureFnExactPackBytes
import Derived.Test.YtbbgahoeokffbaaDoorCards
import Derived.Test.YtbbgahoeokffbaaDoorTie
import Derived.Test.YtbbgahoeokffbaaDoorKpSha3
import Derived.OpenVars
import Derived.Deep.DeepHandedRow
import Derived.Lib.LaidTab
import Derived.Stop.LaidErr
import Derived.WalkKit
import Derived.ProofKit
import Derived.OpenShut
import Derived.ShutString
import Derived.ChangeOld
import Derived.Below
import Derived.SizedLaws
import Derived.Carry
import Derived.Lib.SmallJoins
namespace Go.Proofs.YtbbgahoeokffbaaDoor.fnExactPackBytes
open Go.ChangeShapes Go.WideShapes Go.ChangeAt Go.RowKit Go.Joins
open Go.ChangeMaps (open_string shut_string)
set_option linter.unusedVariables false
set_option linter.unusedSimpArgs false
theorem own : ownKnob Tryd.prog.godebug = none := by kernel_rfl
theorem laidOut : laidOutB Tryd.prog = true := by kernel_rfl
theorem gS : Tryd.prog.globalNamed "loop.example/g00259/impl.firstState" = some 0 := by kernel_rfl
theorem gR : Tryd.prog.globalNamed "loop.example/g00259/impl.roots" = some 1 := by kernel_rfl
theorem tS : (Tryd.prog.globals[0]?).map (·.type) = some 66 := by kernel_rfl
theorem tR : (Tryd.prog.globals[1]?).map (·.type) = some 86 := by kernel_rfl
theorem c66 : Tryd.prog.cellsOf 66 = 8 := by kernel_rfl
theorem c86 : Tryd.prog.cellsOf 86 = 64 := by kernel_rfl
theorem c65 : Tryd.prog.cellsOf 65 = 1 := by kernel_rfl
theorem heap_of_var {W : World} {n : String} {g : Nat} {l : List Int} (hg : Tryd.prog.globalNamed n = some g) (h : Lib.TabIs Tryd.prog W n .u32 l) : ∃ t fr, W.heap[g]? = some (.cells (Sha.u32s l) t fr) := by
  unfold Lib.TabIs World.var? at h
  rw [hg] at h
  simp only [Option.bind_some] at h
  cases hh : W.heap[g]? with
  | none => rw [hh] at h; cases h
  | some o =>
    rw [hh] at h
    cases o with
    | cells cs t fr => exact ⟨t, fr, by rw [Option.some.inj h]; rfl⟩
    | _ => cases h
theorem roots_of {W : World} (h : ∃ t fr, W.heap[1]? = some (.cells (Sha.u32s Sha.roots) t fr)) : Sha.Roots W := by
  obtain ⟨t, fr, h⟩ := h
  intro j hj
  have := cell_of_row W 1 j _ t fr h
  rw [this]
  simp [Sha.u32s, List.getElem?_eq_getElem (show j < Sha.roots.length from hj), List.getD_eq_getElem?_getD]
theorem glob_of {W : World} (h : laidMetH Tryd.prog Rows.fnExactPackBytesRow.laid W) : Sha.Glob W :=
  have h' : laidMet Tryd.prog Rows.fnExactPackBytesRow.laid W := h
  ⟨heap_of_var gS (Lib.tabIs_of_head gS tS Tryd.underlying66 Tryd.underlying65 c65 c66 h'), roots_of (heap_of_var gR (Lib.tabIs_of_head (rest := []) gR tR Tryd.underlying86 Tryd.underlying65 c65 c86 h'.tail))⟩
/-- A world for the witness: the settled one, the tables holding what their initialisers lay. -/
noncomputable def laidWorld (os : Os) : World :=
  { World.holding Tryd.prog os ⟨#[], #[], []⟩ with heap := (((World.holding Tryd.prog os ⟨#[], #[], []⟩).heap.modify 0 (fun | .cells _ t frozen => .cells (Sha.u32s Sha.starts) t frozen | o => o)).modify 1 (fun | .cells _ t frozen => .cells (Sha.u32s Sha.roots) t frozen | o => o)) }
theorem laid_met (os : Os) : laidMet Tryd.prog Rows.fnExactPackBytesRow.laid ((laidWorld os).forCall (fun _ _ => 0) ⟨#[], #[.slice none 0 0], []⟩).memory :=
  laidMet_of_run' 8 (by kernel_rfl) (by kernel_rfl)
theorem reads0 (os : Os) {H : Type} (enc : TypeId × Value → H) : (DataW.whole enc Tryd.prog ((laidWorld os).forCall (fun _ _ => 0) ⟨#[], #[.slice none 0 0], []⟩).memory Tryd.f11.params.toList Rows.fnExactPackBytesSpec.vars false (#[.slice none 0 0] : Array Value).toList 8).map (fun x => (x.1, x.2.1)) = some ([.nil], [Rows.laid_loop_example_g00259_impl_firstState, Rows.laid_loop_example_g00259_impl_roots]) := by kernel_rfl
theorem reads (os : Os) {H : Type} (enc : TypeId × Value → H) : ∃ places, DataW.whole enc Tryd.prog ((laidWorld os).forCall (fun _ _ => 0) ⟨#[], #[.slice none 0 0], []⟩).memory Tryd.f11.params.toList Rows.fnExactPackBytesSpec.vars false (#[.slice none 0 0] : Array Value).toList 8 = some ([.nil], [Rows.laid_loop_example_g00259_impl_firstState, Rows.laid_loop_example_g00259_impl_roots], places) := by
  obtain ⟨⟨x, y, places⟩, hx, he⟩ := Option.map_eq_some_iff.1 (reads0 os enc)
  obtain ⟨rfl, rfl⟩ := Prod.mk.inj he
  exact ⟨places, hx⟩
theorem one_var {H : Type} {enc : TypeId × Value → H} {P : Program} {w : World} {sp : Nat → Bool} {n : String} {gs : List (DataW H)} {ps : List MemPlace} (h : DataW.TrodVars enc P w sp [n] gs ps) : ∃ g1, gs = [g1] := by
  match gs, h with
  | [], h => exact h.elim
  | [d], _ => exact ⟨d, rfl⟩
  | d :: d2 :: ds, h =>
    obtain ⟨_, _, _, _, _, _, _, _, _, _, hs, _⟩ := h
    exact hs.elim
theorem two_vars {H : Type} {enc : TypeId × Value → H} {P : Program} {w : World} {sp : Nat → Bool} {n m : String} {gs : List (DataW H)} {ps : List MemPlace} (h : DataW.TrodVars enc P w sp [n, m] gs ps) : ∃ g1 g2, gs = [g1, g2] := by
  match gs, h with
  | [], h => exact h.elim
  | d :: ds, h =>
    obtain ⟨_, _, _, _, _, _, _, _, _, _, hs, _⟩ := h
    obtain ⟨g, rfl⟩ := one_var hs
    exact ⟨d, g, rfl⟩
set_option maxRecDepth 100000 in
theorem lifted (os : Os) (started : os.Started) (H : Type) (enc : TypeId × Value → H) (F : Stop.Interp) :
    ReturnsInHanded {} Tryd.checked os 11 .any ((OpenSpec.ofChange Rows.fnExactPackBytesSpec).preRow enc Tryd.prog Tryd.f11 Rows.fnExactPackBytesRow.domain false Rows.fnExactPackBytesRow.laid) (((OpenSpec.ofChange Rows.fnExactPackBytesSpec).at F).post enc Tryd.prog Tryd.f11 false true false false) := by
  obtain ⟨places, hx⟩ := reads os enc
  refine returnsInHanded_of_row (C := Tryd.checked) (s := OpenSpec.ofChange Rows.fnExactPackBytesSpec) own started (by kernel_rfl) Tryd.func11
    (witness_row_at (enc := enc) (C := Tryd.checked) false (laidWorld os) #[.slice none 0 0] rfl (by kernel_rfl) (by kernel_rfl) (by kernel_rfl)
      (OpenSpec.preRow_of_cond 8 hx (by kernel_rfl) (fun k hk => by cases hk) (by kernel_rfl) (laid_met os))) ?_
  intro W base args ds gs before hval0 hW hcnd _ hsz0 hLd _ _
  have hsz : (DataW.weightsEach Tryd.prog (Tryd.f11.params.toList ++ Rows.fnExactPackBytesSpec.plain.varTypes Tryd.prog) (ds ++ gs)).all (· ≤ reachBytes) = true := hsz0
  have hval : ∀ (j : Nat) t v, Tryd.f11.params[j]? = some t → args[j]? = some v → Value.okWide Tryd.prog W .any base t v := hval0
  have hW' := hW
  obtain ⟨p, q, hA0, hV, rfl, hfz, hnd⟩ := hW
  have hA : DataW.TrodAll enc Tryd.prog W 0 (fun _ => true) true Tryd.f11.params.toList args.toList ds p := hA0
  rw [Tryd.params11] at hA hval hsz
  obtain ⟨v0, vs0, d0, ds0, p0, q0, hargs, rfl, rfl, h0, r0⟩ := trodAll_cons hA
  obtain ⟨rfl, rfl, rfl⟩ := trodAll_nil r0
  obtain rfl : args = #[v0] := by cases args; simp_all
  obtain ⟨g1, g2, rfl⟩ := two_vars hV
  have k0 := h0
  have lt0 : ∀ x ∈ p0, x.block < W.heap.size := by obtain ⟨m, hm⟩ := k0; exact DataW.trod_lt m _ _ _ hm
  have elem0 : ∀ (n : Nat) (cs : List Value) (y : DataW H × List MemPlace), DataW.trod enc Tryd.prog W 0 (fun _ => true) true n 37 cs = some y → ∃ a, ZFnExactPackBytes.k37.K W a cs ∧ (a.f1.size ≤ maxLen) := by
    intro n cs y h
    obtain ⟨xs, n2, _, _, hlen, hxs, hf⟩ := DataW.trod_struct Tryd.underlying37 h
    rw [show Tryd.prog.cellsOf 37 = 2 by kernel_rfl] at hlen
    match cs, hlen with
    | [q0, q1], _ =>
      have h10 : DataW.trod enc Tryd.prog W 0 (fun _ => true) true n2 2 (([q0, q1].drop 0).take (Tryd.prog.cellsOf 2)) = xs[0]? := hf 0 _ rfl
      rw [show xs[0]? = some (xs[0]'(by rw [hxs]; decide)) from List.getElem?_eq_getElem _] at h10
      try dsimp only at h10
      rw [show Tryd.prog.cellsOf 2 = 1 by kernel_rfl] at h10
      have h11 : DataW.trod enc Tryd.prog W 0 (fun _ => true) true n2 9 (([q0, q1].drop 1).take (Tryd.prog.cellsOf 9)) = xs[1]? := hf 1 _ rfl
      rw [show xs[1]? = some (xs[1]'(by rw [hxs]; decide)) from List.getElem?_eq_getElem _] at h11
      try dsimp only at h11
      rw [show Tryd.prog.cellsOf 9 = 1 by kernel_rfl] at h11
      obtain ⟨b0, eb0, _, wb0⟩ := DataW.trod_int Tryd.underlying2 h10
      simp at eb0
      subst eb0
      obtain ⟨b1, eb1, _, wb1⟩ := DataW.trod_string Tryd.underlying9 h11
      simp at eb1
      subst eb1
      exact ⟨⟨b0, b1⟩, ZFnExactPackBytes.k37_mk _ _, wb1⟩
  obtain ⟨A0, cap0, l0, rfl, hC0, hL0, m0, w0⟩ : ∃ (A : Option Addr) (c : Nat) (l : List ZFnExactPackBytes.S37), v0 = .slice A l.length c ∧ ZFnExactPackBytes.k37.C W A l.length l ∧ l.length ≤ c ∧ l.length ≤ maxLen ∧ (∀ a ∈ l, (fun (a : ZFnExactPackBytes.S37) => a.f1.size ≤ maxLen) a) := by
    obtain ⟨a_, n_, c_, rfl⟩ := okWide_slice Tryd.underlying55 (hval 0 55 v0 rfl rfl)
    obtain ⟨fuel, hf⟩ := h0
    haveI : Inhabited ZFnExactPackBytes.S37 := ⟨ZFnExactPackBytes.z37⟩
    exact Ext.open_rows_C ZFnExactPackBytes.k37 (fun a => a.f1.size ≤ maxLen) (v := .slice a_ n_ c_) Tryd.underlying55 (by kernel_rfl) elem0 (by simpa [Value.cells] using hf)
  clear hA0 hval0 hsz0 hsz
  obtain ⟨k, hk⟩ := Pure.FnExactPackBytes l0 m0 w0
  refine (ZFnExactPackBytes.laws_FnExactPackBytes.calls k A0 cap0 l0 true W hC0 hL0 hk (glob_of hLd)).mono fun e W' ⟨he, bel⟩ => ?_
  subst he
  exact ⟨_, rfl, _, _, _, [], _, _, hW', trodAll_mk1 (shut_bool Tryd.underlying4 _), (trodAll_cons_mk (Below.trod laidOut (by kernel_rfl) (of_decide_eq_true (by kernel_rfl)) k0 bel lt0) trodAll_mk0), bel.trodVars (by kernel_rfl) (by kernel_rfl) hV, bel.frame _, fun h => by cases h⟩
theorem over : Rows.FnExactPackBytesSaid :=
  OpenClaim.holds_of_cond 11 Tryd.f11 rfl rfl rfl rfl rfl rfl rfl ⟨rfl, rfl, rfl, rfl, rfl⟩ rfl rfl rfl rfl rfl (by kernel_rfl) Tryd.func11 (by kernel_rfl)
    (of_decide_eq_true (by kernel_rfl)) (by unfold Func.isWrapper; first | (rw [if_pos (by decide +kernel)]; kernel_rfl) | (rw [if_neg (by decide +kernel)]; exact ⟨rfl, rfl⟩))
    (fun os started H enc _ F => by rw [OpenClaim.pre_eq_preRow]; exact lifted os started H enc F)
theorem plain (f : FuncId) (fn : Func) (hf : Tryd.pinned.checked.prog.funcNamed "loop.example/g00259/laws.FnExactPackBytes" = some f) (hfn : Tryd.pinned.checked.prog.funcs[f]? = some fn) :
    false = Tryd.pinned.checked.prog.looks [] ∧ ∀ (j : Nat) t, fn.params[j]? = some t → Tryd.pinned.checked.prog.wantsStandIn t = false := by
  obtain rfl : f = 11 := Option.some.inj ((show Tryd.prog.funcNamed "loop.example/g00259/laws.FnExactPackBytes" = some 11 by kernel_rfl).symm.trans hf) |>.symm
  obtain rfl : fn = Tryd.f11 := (Option.some.inj (Tryd.func11.symm.trans hfn)).symm
  refine ⟨by kernel_rfl, fun j t ht => ?_⟩
  have hall : Tryd.f11.params.all (fun t => !Tryd.prog.wantsStandIn t) = true := by kernel_rfl
  have := Array.all_eq_true_iff_forall_mem.1 hall t (Array.mem_of_getElem? ht)
  have h2 : Tryd.prog.wantsStandIn t = false := by
    cases hq : Tryd.prog.wantsStandIn t with
    | false => rfl
    | true => rw [hq] at this; cases this
  exact h2
theorem proved : Rows.FnExactPackBytesCardSaid :=
  Claim7.holds_tied_plain_at .later [] _ _ _ _ over (fun _ h => by cases h) (by kernel_rfl) (fun _ h => by cases h) fnExactPackBytes_row_tie rfl ⟨rfl, rfl⟩ (by kernel_rfl) rfl plain (by kernel_rfl)
#print axioms proved
end Go.Proofs.YtbbgahoeokffbaaDoor.fnExactPackBytes
namespace Go.Proofs.YtbbgahoeokffbaaDoor
/-- The row, under a short name, for the claim. -/
theorem fnExactPackBytes_holds : Rows.FnExactPackBytesCardSaid := fnExactPackBytes.proved
end Go.Proofs.YtbbgahoeokffbaaDoor

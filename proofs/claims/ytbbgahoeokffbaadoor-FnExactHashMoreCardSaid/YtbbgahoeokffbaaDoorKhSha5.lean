/-
  What slices.Clone and the third way of impl.HashMore (a right hash, a text that fits) answer: the walks of their code. Conditions: those of each lemma.
-/
import Derived.Test.YtbbgahoeokffbaaDoorKhShaEnd
import Derived.Lib.SliceRun
namespace Go.Proofs.YtbbgahoeokffbaaDoor.Sha
open Go Go.RowKit Go.Proofs.YtbbgahoeokffbaaDoorW.PrintWords Go.Proofs.YtbbgahoeokffbaaDoorW.PrintLast Go.Proofs.YtbbgahoeokffbaaDoorW.PrintMore Go.Proofs.YtbbgahoeokffbaaDoor.Xright
set_option linter.unusedVariables false
set_option linter.unusedSimpArgs false
/-- What the third way of HashMore answers: the state behind the text. -/
def moreI (l : List Int) (rest : ByteArray) (size : Int) (text : ByteArray) : Option (List Int × ByteArray × Int) := if okH l rest size = true then some (moreF l rest text size) else none
theorem info2' : (Tryd.prog.info? 2).map (fun i => (i.zero, i.size, i.bytes)) = some (some (.int .i64 0), 1, 8) := by kernel_rfl
set_option maxHeartbeats 4000000 in
set_option maxRecDepth 100000 in
theorem clone_calls (A0 : Option Addr) (c0 : Nat) (l : List Int) (hl : l.length ≤ 1000000000) (w : World) (hr0 : Kd.C (Kd.int .i64) w A0 l.length l) :
    Calls Tryd.prog 55 #[.slice A0 l.length c0] w fun e w' => ∃ v0_ : Value, e = .returned (v0_) ∧ Kd.R (Kd.int .i64) 2 w' w.heap.size (fun _ => True) v0_ l ∧ Below w.heap.size w w' := by
  have hnil := fun (W : World) (A : Option Addr) (n c : Nat) => Lib.run_eql_slice_nil (P := Tryd.prog) W 22 2 A n c 0 0 Tryd.underlying22
  have HR0 := Aside0.mk hr0
  have HL := Aside0.mk hl
  clear hr0 hl
  have HB := Aside0.mk (Below.refl w.heap.size w)
  cases A0 with
  | none =>
    have e : l = [] := by
      rcases Nat.eq_zero_or_pos l.length with h0 | h0
      · exact List.eq_nil_of_length_eq_zero h0
      · obtain ⟨ad, h, _⟩ := HR0.out.2.2 h0
        cases h
    subst e
    go_enter Tryd.func55, Tryd.ntmps55
    go_wp2
    go_ret
    exact ⟨_, rfl, Kd.R_nil _ _ _ _ _, HB.out⟩
  | some ad =>
    go_enter Tryd.func55, Tryd.ntmps55
    go_wp2_with (first | ((with_reducible refine gate_dst (N := 5) rfl ?_); refine Kd.R_lit (Kd.int .i64) _ 2 ?hg (N := 5) ?hd (xs := ([] : List Int)) (inner := []) (ok := fun _ => True) (okp := fun _ => True) ?hr ?hp (fun _ hk => hk) trivial (Below.refl _ _) (Nat.le_refl _) (by simp) ?_; (case hd => rfl); (case hg => rfl); (case hr => first | (go_simp; done) | (go_simp; rfl)); (case hp => exact (Reps.none _ _)); intro v5 w5 ho5 hb hg_ hnew_; clear hg_ hnew_; have HO5 := Aside0.mk ho5; have HB5 := Aside0.mk hb; clear ho5 hb) | (at_builtin; refine Kd.R_append_rows (Kd.int .i64) (w0 := w) w.heap.size rfl (.tmp 5) (.tmp 6) 22 2 (.int .i64 0) 8 rfl Tryd.underlying22 info2' rfl (by decide) (by omega) v5 [] l (some ad) l.length c0 (fun _ => True) (fun _ => False) rfl rfl HO5.out (show ReadsRow ((Kd.int .i64).K _) (Kd.int .i64).sz _ _ _ _ from Kd.C_below HR0.out HB5.out) ?hKM (fun _ h => h.elim) (fun _ _ => trivial) HB5.out HB5.out.size (by have := HL.out; show (0 + l.length) * 8 ≤ _; omega) ?_; (case hKM => exact fun x cs hk => hk); intro v7 w7 ho7 hb7 hg7 _; clear hg7; have HO7 := Aside0.mk ho7; have HB7 := Aside0.mk hb7; clear ho7 hb7))
    go_ret
    exact ⟨_, rfl, HO7.out, HB7.out⟩
theorem run_load_row {P : Program} {o : Oper} {a : Act} {w : World} {ty t g : Nat} {x : Operand} {cs : Array Value} {fr : Nat × Nat} {d : TypeDesc} (ho : o.op = .load ty x) (hx : a.eval x = .pointer (some ⟨g, 0, none⟩)) (hg : w.heap[g]? = some (.cells cs t fr))
    (hu : P.underlying ty = some d) (hd : (match d with | .struct _ | .array _ _ => true | _ => false) = true) (hi : (P.info? ty).map (·.size) = some cs.size) : (execOp a.eval o).run P w = .ok (.value (.agg cs)) w := by
  unfold execOp
  simp only [ho, hx, Instr.loadAt, Instr.sureAddr, Sem.run_bind, Sem.run_pure, Result.andThen_ok, run_loadVar_row w g t ty cs fr d hg hu hd hi]
theorem long_drawn (s : ByteArray) (w : World) : Calls Tryd.prog 54 #[.string s] w fun e w' => e = .returned (.int .i64 (s.size : Int)) ∧ Drawn0 w w' :=
  (long_still s w).mono fun e w' ⟨he, hw⟩ => ⟨he, by rw [hw]; exact Drawn0.refl _⟩
set_option maxHeartbeats 4000000 in
set_option maxRecDepth 100000 in
theorem isLong_drawn (s : ByteArray) (hs : s.size ≤ 20000) (w : World) : Calls Tryd.prog 52 #[.string s] w fun e w' => e = .returned (.bool false) ∧ Drawn0 w w' := by
  have h : decide ((20000 : Int) < (s.size : Int)) = false := decide_eq_false (by omega)
  go_enter Tryd.func52, Tryd.ntmps52
  go_wp2
  go_ret
  exact ⟨rfl, Drawn0.refl _⟩
def hm.T3 : Bool × List (List Nat × List Nat) := (true, [([], []), ([0], [0]), ([1], [1]), ([2, 1], [2]), ([3], [3]), ([4, 3], [3, 4]), ([3], [3]), ([6, 3, 3], [3, 6]), ([5, 7, 3], [3, 5, 7]), ([8, 3], [3, 8]), ([3, 9], [3, 9])])
def hm.B3 : List Nat := [0, 1, 3, 7, 15, 31, 15, 79, 255, 511, 1023]
theorem hm.tab3 : rtab .any (opsOf Tryd.f20 3) = hm.T3 := by kernel_rfl
theorem hm.bits3 : waitsOk hm.T3.2 hm.B3 = true := by kernel_rfl
def hm.T4 : Bool × List (List Nat × List Nat) := (true, [([], []), ([0], [0]), ([1], [1]), ([], []), ([3], [3]), ([], []), ([5], [5]), ([2, 4, 6], [2, 4, 6]), ([7, 2, 0, 1, 2, 3, 4, 5, 6, 7], [7])])
def hm.B4 : List Nat := [0, 1, 3, 0, 8, 0, 32, 127, 255]
def hm.T5 : Bool × List (List Nat × List Nat) := (true, [([], []), ([0], [0]), ([], []), ([2], [2]), ([], []), ([3, 4], [3, 4]), ([], []), ([6, 1, 1, 0, 1, 6], [1, 6]), ([5, 7, 0, 1, 2, 3, 4, 5, 6, 7], [5])])
def hm.B5 : List Nat := [0, 1, 0, 4, 0, 28, 0, 67, 255]
theorem hm.tab5 : rtab .any (opsOf Tryd.f20 5) = hm.T5 := by kernel_rfl
theorem hm.bits5 : waitsOk hm.T5.2 hm.B5 = true := by kernel_rfl
def hm.T9 : Bool × List (List Nat × List Nat) := (true, [([], []), ([0], [0]), ([], []), ([], []), ([3], [3]), ([], []), ([5, 1], [5]), ([4, 6], [4, 6]), ([1, 2, 7], [1, 2, 7]), ([8, 6, 0, 1, 2, 3, 4, 5, 6, 7, 8], [8])])
def hm.B9 : List Nat := [0, 1, 0, 0, 8, 0, 35, 123, 255, 511]
theorem hm.tab9 : rtab .any (opsOf Tryd.f20 9) = hm.T9 := by kernel_rfl
theorem hm.bits9 : waitsOk hm.T9.2 hm.B9 = true := by kernel_rfl
set_option maxHeartbeats 16000000 in
set_option maxRecDepth 100000 in
theorem more_walk (A0_0 : Option Addr) (c0_0 : Nat) (l0_0 : List Int) (a0_1 : ByteArray) (a0_2 : Int) (a1 : ByteArray) (hok : okH l0_0 a0_1 a0_2 = true) (htx : a1.size ≤ 20000) (hsz : a0_2 + (a1.size : Int) ≤ 1099511627776) (w : World) (hr0_0 : Kd.C (Kd.int .i64) w A0_0 l0_0.length l0_0) (hc0_0 : l0_0.length ≤ c0_0) (hGl : Roots w)
    (hHR : ∀ W : World, Kd.C (Kd.int .i64) W A0_0 l0_0.length l0_0 → Calls Tryd.prog 53 #[.agg #[.slice A0_0 l0_0.length c0_0, .string a0_1, .int .i64 a0_2]] W fun e w' => e = .returned (.bool true) ∧ Below W.heap.size W w') :
    Calls Tryd.prog 20 #[.agg #[.slice A0_0 l0_0.length c0_0, .string a0_1, .int .i64 a0_2], .string a1] w fun e w' => ∃ v0_ : Value, e = .returned (.agg #[v0_, .string (moreF l0_0 a0_1 a1 a0_2).2.1, .int .i64 (moreF l0_0 a0_1 a1 a0_2).2.2]) ∧ Kd.R (Kd.int .i64) 2 w' w.heap.size (fun _ => True) v0_ (moreF l0_0 a0_1 a1 a0_2).1 ∧ Below w.heap.size w w' := by
  have hu24 := Tryd.underlying24
  have HR0_0 := Aside0.mk hr0_0
  have HC0_0 := Aside0.mk hc0_0
  have HHR := Aside0.mk hHR
  have HTX := Aside0.mk htx
  have HG := Aside0.mk hGl
  have HOK := Aside0.mk (okH_out hok)
  clear hr0_0 hc0_0 hHR hGl hok
  have hsw : wrap64 (a0_2 + (a1.size : Int)) = a0_2 + (a1.size : Int) := by
    have := HOK.out.2.2.1
    unfold wrap64
    omega
  have c12b0 : decide (1099511627776 < (wrap64 (a0_2 + (a1.size : Int)))) = false := decide_eq_false (by rw [hsw]; omega)
  have HSW := Aside0.mk hsw
  have HSZ := Aside0.mk hsz
  clear hsw hsz htx
  have HB := Aside0.mk (Below.refl w.heap.size w)
  go_enter Tryd.func20, Tryd.ntmps20
  try go_wp2_with (first | ((with_reducible refine gate_dst (N := 2) rfl ?_); refine box_event ?hg (N := 2) ?hd (cs := #[.slice A0_0 l0_0.length c0_0, .string a0_1, .int .i64 a0_2]) (t := 24) ?hr ?_; (case hd => rfl); (case hg => rfl); (case hr => first | (go_simp; done) | (go_simp; rfl)); intro gh hg w24 hbox hb; have n0_ := Aside0.mk (below_step (by repeat (first | (with_reducible first | exact HB.out | apply below_alloc | apply pw_below_drewN | apply below_drew1) | exact HB.out)) hb); have n1_ := Aside0.mk (hbox); have n2_ := Aside0.mk ((by rw [hg]; exact (below_size (by repeat (first | (with_reducible first | exact HB.out | apply below_alloc | apply pw_below_drewN | apply below_drew1) | exact HB.out))) : w.heap.size ≤ gh)); have n3_ := Aside0.mk ((by rw [hg]; exact (below_size (by repeat (first | (with_reducible first | exact HB.out | apply below_alloc | apply pw_below_drewN | apply below_drew1) | exact HB.out))) : w.heap.size ≤ gh)); clear HB; have HB := n0_; have BH := n1_; have GWH := n2_; have GH := n3_; clear n0_ n1_ n2_ n3_; clear hb hbox hg) | ((with_reducible refine gate_dst (N := 4) rfl ?_); refine box_event ?hg (N := 4) ?hd (cs := #[.slice none 0 0, .string (⟨#[]⟩ : ByteArray), .int .i64 0]) (t := 24) ?hr ?_; (case hd => rfl); (case hg => rfl); (case hr => first | (go_simp; done) | (go_simp; rfl)); intro go hg w25 hbox hb; have n0_ := Aside0.mk (blk_below (g := gh) (o := .cells #[.slice A0_0 l0_0.length c0_0, .string a0_1, .int .i64 a0_2] 24 (0, 0)) (by (with_reducible repeat (first | refine blk_drewN ?_ _ | refine blk_drew ?_ | refine blk_alloc ?_ _)); exact BH.out) hb); have n1_ := Aside0.mk (below_step (by repeat (first | (with_reducible first | exact HB.out | apply below_alloc | apply pw_below_drewN | apply below_drew1 | refine below_set ?_ GH.out) | exact HB.out)) hb); have n2_ := Aside0.mk (hbox); have n3_ := Aside0.mk ((by rw [hg]; exact (below_size (by repeat (first | (with_reducible first | exact HB.out | apply below_alloc | apply pw_below_drewN | apply below_drew1 | refine below_set ?_ GH.out) | exact HB.out))) : w.heap.size ≤ go)); have n4_ := Aside0.mk ((by rw [hg]; exact (below_size (by repeat (first | (with_reducible first | exact HB.out | apply below_alloc | apply pw_below_drewN | apply below_drew1 | refine below_set ?_ GH.out) | exact HB.out))) : w.heap.size ≤ go)); have n5_ := Aside0.mk ((by rw [hg]; exact Nat.ne_of_lt (blk_lt (g := gh) (o := .cells #[.slice A0_0 l0_0.length c0_0, .string a0_1, .int .i64 a0_2] 24 (0, 0)) (by (with_reducible repeat (first | refine blk_drewN ?_ _ | refine blk_drew ?_ | refine blk_alloc ?_ _)); exact BH.out)) : gh ≠ go)); have n6_ := Aside0.mk ((by rw [hg]; exact Nat.ne_of_gt (blk_lt (g := gh) (o := .cells #[.slice A0_0 l0_0.length c0_0, .string a0_1, .int .i64 a0_2] 24 (0, 0)) (by (with_reducible repeat (first | refine blk_drewN ?_ _ | refine blk_drew ?_ | refine blk_alloc ?_ _)); exact BH.out)) : go ≠ gh)); clear BH; clear HB; have BH := n0_; have HB := n1_; have BO := n2_; have GWO := n3_; have GO := n4_; have NHO := n5_; have NOH := n6_; clear n0_ n1_ n2_ n3_ n4_ n5_ n6_; clear hb hbox hg) | ((with_reducible refine gate_callee (f := 52) rfl ?_); refine goesL_ (some 8) rfl rfl Tryd.func52 (by kernel_rfl) rfl #[.string a1] rfl (by (try simp only [List.map_toArray, List.map_cons, List.map_nil]); first | done | rfl | (simp only [List.length_drop, List.length_take]; rfl)) ?_; (with_reducible refine (isLong_drawn a1 HTX.out _).mono ?_); rintro e w' ⟨rfl, ⟨nd, rfl⟩⟩; refine ⟨_, rfl, ?_⟩; (try (rw [drewN_self w25]; generalize hq_ : World.drewN w25 _ = w25; have n0_ : Aside0 (w25.heap[gh]? = some (.cells #[.slice A0_0 l0_0.length c0_0, .string a0_1, .int .i64 a0_2] 24 (0, 0))) := ⟨by rw [← hq_]; exact (by (with_reducible repeat (first | refine blk_drewN ?_ _ | refine blk_drew ?_ | refine blk_alloc ?_ _)); exact BH.out)⟩; have n1_ : Aside0 (w25.heap[go]? = some (.cells #[.slice none 0 0, .string (⟨#[]⟩ : ByteArray), .int .i64 0] 24 (0, 0))) := ⟨by rw [← hq_]; exact (by (with_reducible repeat (first | refine blk_drewN ?_ _ | refine blk_drew ?_ | refine blk_alloc ?_ _)); exact BO.out)⟩; have n2_ : Aside0 (Below w.heap.size w w25) := ⟨by rw [← hq_]; exact (by repeat (first | (with_reducible first | exact HB.out | apply below_alloc | apply pw_below_drewN | apply below_drew1 | refine below_set ?_ GH.out | refine below_set ?_ GO.out) | exact HB.out))⟩; clear BH BO HB hq_; have BH := n0_; have BO := n1_; have HB := n2_; clear n0_ n1_ n2_))))
  have n0_ := Aside0.mk (blk_drew BH.out)
  have n1_ := Aside0.mk (blk_drew BO.out)
  have n2_ := Aside0.mk (below_drew1 HB.out)
  clear BH
  clear BO
  clear HB
  have BH := n0_
  have BO := n1_
  have HB := n2_
  clear n0_ n1_ n2_
  refine start_ (n := 11) (S := fun w' => w'.cell? ⟨gh, 0, none⟩ = some (.slice A0_0 l0_0.length c0_0) ∧ w'.cell? ⟨gh, 1, none⟩ = some (.string a0_1) ∧ w'.cell? ⟨gh, 2, none⟩ = some (.int .i64 a0_2)) (ds := []) #[false, false, false, false, false, false, false, false, false, false, false] (by kernel_rfl) rfl rfl ⟨(blk_cell BH.out 0).trans rfl, (blk_cell BH.out 1).trans rfl, (blk_cell BH.out 2).trans rfl⟩ (fun hHeld => ?_); refine with_tabW hm.tab3 hm.bits3 (fun HT_ HW_ => ?_)
  generalize w25.drew = w26 at BH BO HB hHeld ⊢
  refine take_ (i := 0) (N := some 10) (v := ?_) (a' := ?_) #[true, false, false, false, false, false, false, false, false, false, false] rfl rfl (take_ofW HT_.out HW_.out (by kernel_rfl)) (fun _ _ _ h => h) (Or.inl ⟨by rfl, ?_⟩) hHeld ?_ ?_
  rotate_left
  · rintro w' ⟨s0, s1, s2⟩
    go_simp
    with_reducible rfl
  rotate_left
  · simp only [Act.put, List.setIfInBounds_toArray, List.set_cons_zero, List.set_cons_succ, i64_w, i32_w]
    rfl
  refine one_ (i := 1) (N := some 11) #[true, true, false, false, false, false, false, false, false, false, false] rfl rfl (one_of HT_.out (by kernel_rfl)) (by decide) (fun K hK => ?_)
  refine goes_ Tryd.func53 (by kernel_rfl) rfl #[.agg #[.slice A0_0 l0_0.length c0_0, .string a0_1, .int .i64 a0_2]] (by rfl) rfl rfl (by (try simp only [List.map_toArray, List.map_cons, List.map_nil]); first | done | rfl | (simp only [List.length_drop, List.length_take]; rfl)) ?_
  with_reducible refine (HHR.out _ ?side1).mono ?_
  (case side1 => repeat (first | exact (Kd.C_below HR0_0.out HB.out) | (with_reducible refine Kd.C_alloc ?_ _) | (with_reducible refine Kd.C_drewN ?_ _) | (with_reducible refine Kd.C_drew ?_)))
  rintro e w27 ⟨rfl, hb⟩
  refine ⟨_, rfl, ?_⟩
  have n0_ := Aside0.mk (blk_below (g := gh) (o := .cells #[.slice A0_0 l0_0.length c0_0, .string a0_1, .int .i64 a0_2] 24 (0, 0)) (by (with_reducible repeat (first | refine blk_drewN ?_ _ | refine blk_drew ?_ | refine blk_alloc ?_ _)); exact BH.out) hb)
  have n1_ := Aside0.mk (blk_below (g := go) (o := .cells #[.slice none 0 0, .string (⟨#[]⟩ : ByteArray), .int .i64 0] 24 (0, 0)) (by (with_reducible repeat (first | refine blk_drewN ?_ _ | refine blk_drew ?_ | refine blk_alloc ?_ _)); exact BO.out) hb)
  have n2_ := Aside0.mk (below_step (by repeat (first | (with_reducible first | exact HB.out | apply below_alloc | apply pw_below_drewN | apply below_drew1 | refine below_set ?_ GH.out | refine below_set ?_ GO.out) | exact HB.out)) hb)
  clear BH
  clear BO
  clear HB
  have BH := n0_
  have BO := n1_
  have HB := n2_
  clear n0_ n1_ n2_
  (try clear hb)
  (try clear hb2)
  (try clear hk)
  (try clear hi)
  refine hK.out _ _ ⟨(blk_cell BH.out 0).trans rfl, (blk_cell BH.out 1).trans rfl, (blk_cell BH.out 2).trans rfl⟩ (fun hHeld => ?_)
  clear hK K
  refine norm_ (a' := ?_) ?_ ?_
  rotate_left
  · show Act.put _ (some 11) _ = _
    simp only [Act.put, List.setIfInBounds_toArray, List.set_cons_zero, List.set_cons_succ, i64_w, i32_w]
    rfl
  refine pure_ (i := 2) (N := some 12) (v := ?_) (a' := ?_) #[true, true, true, false, false, false, false, false, false, false, false] rfl rfl (any_of HT_.out (by kernel_rfl)) (fun _ _ _ h => h) (Or.inl ⟨by rfl, ?_⟩) ?_ ?_
  rotate_left
  · intro w'
    go_simp
    with_reducible rfl
  rotate_left
  · simp only [Act.put, List.setIfInBounds_toArray, List.set_cons_zero, List.set_cons_succ, i64_w, i32_w]
    rfl
  refine pure_ (i := 3) (N := some 13) (v := ?_) (a' := ?_) #[true, true, true, true, false, false, false, false, false, false, false] rfl rfl (any_of HT_.out (by kernel_rfl)) (fun _ _ _ h => h) (Or.inl ⟨by rfl, ?_⟩) ?_ ?_
  rotate_left
  · intro w'
    go_simp
    with_reducible rfl
  rotate_left
  · simp only [Act.put, List.setIfInBounds_toArray, List.set_cons_zero, List.set_cons_succ, i64_w, i32_w]
    rfl
  refine pure_ (i := 4) (N := some 14) (v := ?_) (a' := ?_) #[true, true, true, true, true, false, false, false, false, false, false] rfl rfl (any_of HT_.out (by kernel_rfl)) (fun _ _ _ h => h) (Or.inl ⟨by rfl, ?_⟩) ?_ ?_
  rotate_left
  · intro w'
    go_simp
    with_reducible rfl
  rotate_left
  · simp only [Act.put, List.setIfInBounds_toArray, List.set_cons_zero, List.set_cons_succ, i64_w, i32_w]
    rfl
  refine pure_ (i := 6) (N := some 16) (v := ?_) (a' := ?_) #[true, true, true, true, true, false, true, false, false, false, false] rfl rfl (any_of HT_.out (by kernel_rfl)) (fun _ _ _ h => h) (Or.inl ⟨by rfl, ?_⟩) ?_ ?_
  rotate_left
  · intro w'
    go_simp
    with_reducible rfl
  rotate_left
  · simp only [Act.put, List.setIfInBounds_toArray, List.set_cons_zero, List.set_cons_succ, i64_w, i32_w]
    rfl
  refine take_ (i := 5) (N := some 15) (v := ?_) (a' := ?_) #[true, true, true, true, true, true, true, false, false, false, false] rfl rfl (take_ofW HT_.out HW_.out (by kernel_rfl)) (fun _ _ _ h => h) (Or.inl ⟨by rfl, ?_⟩) hHeld ?_ ?_
  rotate_left
  · rintro w' ⟨s0, s1, s2⟩
    go_simp
    with_reducible rfl
  rotate_left
  · simp only [Act.put, List.setIfInBounds_toArray, List.set_cons_zero, List.set_cons_succ, i64_w, i32_w]
    rfl
  refine one_ (i := 7) (N := some 17) #[true, true, true, true, true, true, true, true, false, false, false] rfl rfl (one_of HT_.out (by kernel_rfl)) (by decide) (fun K hK => ?_)
  refine goes_ Tryd.func54 (by kernel_rfl) rfl #[.string a1] (by rfl) rfl rfl (by (try simp only [List.map_toArray, List.map_cons, List.map_nil]); first | done | rfl | (simp only [List.length_drop, List.length_take]; rfl)) ?_
  with_reducible refine (long_drawn a1 _).mono ?_
  rintro e w' ⟨rfl, ⟨nd, rfl⟩⟩
  refine ⟨_, rfl, ?_⟩
  refine hK.out _ _ ⟨(blk_cell BH.out 0).trans rfl, (blk_cell BH.out 1).trans rfl, (blk_cell BH.out 2).trans rfl⟩ (fun hHeld => ?_)
  clear hK K
  refine norm_ (a' := ?_) ?_ ?_
  rotate_left
  · show Act.put _ (some 17) _ = _
    simp only [Act.put, List.setIfInBounds_toArray, List.set_cons_zero, List.set_cons_succ, i64_w, i32_w]
    rfl
  refine pure_ (i := 8) (N := some 18) (v := ?_) (a' := ?_) #[true, true, true, true, true, true, true, true, true, false, false] rfl rfl (any_of HT_.out (by kernel_rfl)) (fun _ _ _ h => h) (Or.inl ⟨by rfl, ?_⟩) ?_ ?_
  rotate_left
  · intro w'
    go_simp
    with_reducible rfl
  rotate_left
  · simp only [Act.put, List.setIfInBounds_toArray, List.set_cons_zero, List.set_cons_succ, i64_w, i32_w]
    rfl
  refine pure_ (i := 9) (N := some 19) (v := ?_) (a' := ?_) #[true, true, true, true, true, true, true, true, true, true, false] rfl rfl (any_of HT_.out (by kernel_rfl)) (fun _ _ _ h => h) (Or.inl ⟨by rfl, ?_⟩) ?_ ?_
  rotate_left
  · intro w'
    go_simp
    with_reducible rfl
  rotate_left
  · simp only [Act.put, List.setIfInBounds_toArray, List.set_cons_zero, List.set_cons_succ, i64_w, i32_w]
    rfl
  refine pure_ (i := 10) (N := some 20) (v := ?_) (a' := ?_) #[true, true, true, true, true, true, true, true, true, true, true] rfl rfl (any_of HT_.out (by kernel_rfl)) (fun _ _ _ h => h) (Or.inl ⟨by rfl, ?_⟩) ?_ ?_
  rotate_left
  · intro w'
    go_simp
    with_reducible rfl
  rotate_left
  · simp only [Act.put, List.setIfInBounds_toArray, List.set_cons_zero, List.set_cons_succ, i64_w, i32_w]
    rfl
  refine done_ (done_of HT_.out (by kernel_rfl)) ?_
  go_wp2
  generalize hwx : World.drewN _ nd = wx
  have n0_ := Aside0.mk (blk_at hwx BH.out)
  have n1_ := Aside0.mk (blk_at hwx BO.out)
  have n2_ := Aside0.mk (below_at hwx HB.out)
  clear BH BO HB
  have BH := n0_
  have BO := n1_
  have HB := n2_
  clear n0_ n1_ n2_
  clear hwx hHeld HT_ HW_
  have n0_ := Aside0.mk (blk_drew BH.out)
  have n1_ := Aside0.mk (blk_drew BO.out)
  have n2_ := Aside0.mk (below_drew1 HB.out)
  clear BH BO HB
  have BH := n0_
  have BO := n1_
  have HB := n2_
  clear n0_ n1_ n2_
  have hsum : (9223372036854775807 < a0_1.size + a1.size) = False := eq_false (by have := HOK.out.2.2.2.2; have := HTX.out; omega)
  refine start_ (n := 9) (S := fun w' => w'.cell? ⟨gh, 0, none⟩ = some (.slice A0_0 l0_0.length c0_0) ∧ w'.cell? ⟨gh, 1, none⟩ = some (.string a0_1) ∧ w'.cell? ⟨gh, 2, none⟩ = some (.int .i64 a0_2)) (ds := []) #[false, false, false, false, false, false, false, false, false] (by kernel_rfl) rfl rfl ⟨(blk_cell BH.out 0).trans rfl, (blk_cell BH.out 1).trans rfl, (blk_cell BH.out 2).trans rfl⟩ (fun hHeld => ?_); refine with_tabW hm.tab5 hm.bits5 (fun HT_ HW_ => ?_)
  generalize World.drew wx = wy at BH BO HB hHeld ⊢
  refine take_ (i := 0) (N := some 29) (v := ?_) (a' := ?_) #[true, false, false, false, false, false, false, false, false] rfl rfl (take_ofW HT_.out HW_.out (by kernel_rfl)) (fun _ _ _ h => h) (Or.inl ⟨by rfl, ?_⟩) hHeld ?_ ?_
  rotate_left
  · rintro w' ⟨s0, s1, s2⟩
    go_simp
    with_reducible rfl
  rotate_left
  · simp only [Act.put, List.setIfInBounds_toArray, List.set_cons_zero, List.set_cons_succ, i64_w, i32_w]
    rfl
  refine pure_ (i := 2) (N := some 31) (v := ?_) (a' := ?_) #[true, false, true, false, false, false, false, false, false] rfl rfl (any_of HT_.out (by kernel_rfl)) (fun _ _ _ h => h) (Or.inl ⟨by rfl, ?_⟩) ?_ ?_
  rotate_left
  · intro w'
    go_simp
    with_reducible rfl
  rotate_left
  · simp only [Act.put, List.setIfInBounds_toArray, List.set_cons_zero, List.set_cons_succ, i64_w, i32_w]
    rfl
  refine take_ (i := 3) (N := some 32) (v := ?_) (a' := ?_) #[true, false, true, true, false, false, false, false, false] rfl rfl (take_ofW HT_.out HW_.out (by kernel_rfl)) (fun _ _ _ h => h) (Or.inl ⟨by rfl, ?_⟩) hHeld ?_ ?_
  rotate_left
  · rintro w' ⟨s0, s1, s2⟩
    go_simp
    with_reducible rfl
  rotate_left
  · simp only [Act.put, List.setIfInBounds_toArray, List.set_cons_zero, List.set_cons_succ, i64_w, i32_w]
    rfl
  refine pure_ (i := 4) (N := some 33) (v := ?_) (a' := ?_) #[true, false, true, true, true, false, false, false, false] rfl rfl (any_of HT_.out (by kernel_rfl)) (fun _ _ _ h => h) (Or.inl ⟨by rfl, ?_⟩) ?_ ?_
  rotate_left
  · intro w'
    go_simp
    with_reducible rfl
  rotate_left
  · simp only [Act.put, List.setIfInBounds_toArray, List.set_cons_zero, List.set_cons_succ, i64_w, i32_w]
    rfl
  refine pure_ (i := 5) (N := some 34) (v := ?_) (a' := ?_) #[true, false, true, true, true, true, false, false, false] rfl rfl (any_of HT_.out (by kernel_rfl)) (fun _ _ _ h => h) (Or.inl ⟨by rfl, ?_⟩) ?_ ?_
  rotate_left
  · intro w'
    go_simp
    with_reducible rfl
  rotate_left
  · simp only [Act.put, List.setIfInBounds_toArray, List.set_cons_zero, List.set_cons_succ, i64_w, i32_w]
    rfl
  clear hsum
  refine join_ (σ := Nat) 2 #[true, true, true, true, true, true, true, false, false] (fun g5 => [(30, .agg (u32s l0_0)), (5, .pointer (some ⟨g5, 0, none⟩))]) (fun (g5 : Nat) (w' : World) => w'.heap[gh]? = some (.cells #[.slice A0_0 l0_0.length c0_0, .string a0_1, .int .i64 a0_2] 24 (0, 0)) ∧ w'.heap[go]? = some (.cells #[.slice none 0 0, .string (⟨#[]⟩ : ByteArray), .int .i64 0] 24 (0, 0)) ∧ w'.heap[g5]? = some (.cells (u32s zeros8) 66 (0, 0)) ∧ go < g5 ∧ gh < g5 ∧ Below w.heap.size w w') ?cont (fun hjoin => ?_)
  rotate_left
  · refine two_ (i := 1) (j := 6) (Ni := some 30) (Nj := some 5) #[true, true, true, true, true, true, false, false, false] #[true, false, true, true, true, true, true, false, false] rfl rfl rfl rfl (two_of HT_.out (by kernel_rfl)) (by decide) (by decide) (fun K hK => ?_) (fun K hK => ?_)
    · refine goes_ Tryd.func56 (by kernel_rfl) rfl #[.agg #[.slice A0_0 l0_0.length c0_0, .string a0_1, .int .i64 a0_2]] (by rfl) rfl rfl (by (try simp only [List.map_toArray, List.map_cons, List.map_nil]); first | done | rfl) ?_
      with_reducible refine (impl_state.calls A0_0 c0_0 l0_0 a0_1 a0_2 HOK.out.1 HOK.out.2.1 _ (Kd.C_below HR0_0.out HB.out)).mono ?_
      rintro e w8 ⟨rfl, hb⟩
      refine ⟨_, rfl, ?_⟩
      have n0_ := Aside0.mk (blk_below BH.out hb)
      have n1_ := Aside0.mk (blk_below BO.out hb)
      have n2_ := Aside0.mk (below_step HB.out hb)
      clear BH BO HB
      have BH := n0_
      have BO := n1_
      have HB := n2_
      clear n0_ n1_ n2_
      refine hK.out _ _ ⟨(blk_cell BH.out 0).trans rfl, (blk_cell BH.out 1).trans rfl, (blk_cell BH.out 2).trans rfl⟩ (fun hHeld => ?_)
      clear hK K
      refine norm_ (a' := ?_) ?_ ?_
      rotate_left
      · show Act.put _ (some 30) _ = _
        simp only [Act.put, List.setIfInBounds_toArray, List.set_cons_zero, List.set_cons_succ, i64_w, i32_w]
        rfl
      refine one_ (i := 6) (N := some 5) #[true, true, true, true, true, true, true, false, false] rfl rfl (one_of HT_.out (by kernel_rfl)) (by decide) (fun K hK => ?_)
      refine event_step (w1 := World.alloc w8 (.cells (u32s zeros8) 66 (0, 0))) (v := .pointer (some ⟨w8.heap.size, 0, none⟩)) (by rfl) ?hrun ?_
      case hrun => first | (go_simp; done) | (go_simp; rfl)
      have hBH := blk_below BH.out (below_alloc (Below.refl _ _) (.cells (u32s zeros8) 66 (0, 0)))
      have hBO := blk_below BO.out (below_alloc (Below.refl _ _) (.cells (u32s zeros8) 66 (0, 0)))
      refine hK.out _ _ ⟨(blk_cell hBH 0).trans rfl, (blk_cell hBH 1).trans rfl, (blk_cell hBH 2).trans rfl⟩ (fun hHeld => ?_)
      exact hjoin _ _ ⟨hBH, hBO, blk_new _ _, blk_lt BO.out, blk_lt BH.out, below_alloc HB.out _⟩
    · refine event_step (w1 := World.alloc wy (.cells (u32s zeros8) 66 (0, 0))) (v := .pointer (some ⟨wy.heap.size, 0, none⟩)) (by rfl) ?hrun ?_
      case hrun => first | (go_simp; done) | (go_simp; rfl)
      generalize hg5 : wy.heap.size = g5
      have B5 := Aside0.mk (show (World.alloc wy (.cells (u32s zeros8) 66 (0, 0))).heap[g5]? = some (.cells (u32s zeros8) 66 (0, 0)) by rw [← hg5]; exact blk_new _ _)
      have N5 := Aside0.mk (show go < g5 by rw [← hg5]; exact blk_lt BO.out)
      have M5 := Aside0.mk (show gh < g5 by rw [← hg5]; exact blk_lt BH.out)
      clear hg5
      have n0_ := Aside0.mk (blk_below BH.out (below_alloc (Below.refl _ _) (.cells (u32s zeros8) 66 (0, 0))))
      have n1_ := Aside0.mk (blk_below BO.out (below_alloc (Below.refl _ _) (.cells (u32s zeros8) 66 (0, 0))))
      have n2_ := Aside0.mk (below_alloc HB.out (.cells (u32s zeros8) 66 (0, 0)))
      clear BH BO HB
      have BH := n0_
      have BO := n1_
      have HB := n2_
      clear n0_ n1_ n2_
      refine hK.out _ _ ⟨(blk_cell BH.out 0).trans rfl, (blk_cell BH.out 1).trans rfl, (blk_cell BH.out 2).trans rfl⟩ (fun hHeld => ?_)
      clear hK K
      generalize World.alloc wy _ = wz at BH BO HB B5 hHeld ⊢
      refine norm_ (a' := ?_) ?_ ?_
      rotate_left
      · show Act.put _ (some 5) _ = _
        simp only [Act.put, List.setIfInBounds_toArray, List.set_cons_zero, List.set_cons_succ, i64_w, i32_w]
        rfl
      refine one_ (i := 1) (N := some 30) #[true, true, true, true, true, true, true, false, false] rfl rfl (one_of HT_.out (by kernel_rfl)) (by decide) (fun K hK => ?_)
      refine goes_ Tryd.func56 (by kernel_rfl) rfl #[.agg #[.slice A0_0 l0_0.length c0_0, .string a0_1, .int .i64 a0_2]] (by rfl) rfl rfl (by (try simp only [List.map_toArray, List.map_cons, List.map_nil]); first | done | rfl) ?_
      with_reducible refine (impl_state.calls A0_0 c0_0 l0_0 a0_1 a0_2 HOK.out.1 HOK.out.2.1 _ (Kd.C_below HR0_0.out HB.out)).mono ?_
      rintro e w8 ⟨rfl, hb⟩
      refine ⟨_, rfl, ?_⟩
      have n0_ := Aside0.mk (blk_below BH.out hb)
      have n1_ := Aside0.mk (blk_below BO.out hb)
      have n2_ := Aside0.mk (below_step HB.out hb)
      have n3_ := Aside0.mk (blk_below B5.out hb)
      clear BH BO HB B5
      have BH := n0_
      have BO := n1_
      have HB := n2_
      have B5 := n3_
      clear n0_ n1_ n2_ n3_
      refine hK.out _ _ ⟨(blk_cell BH.out 0).trans rfl, (blk_cell BH.out 1).trans rfl, (blk_cell BH.out 2).trans rfl⟩ (fun hHeld => ?_)
      exact hjoin g5 _ ⟨BH.out, BO.out, B5.out, N5.out, M5.out, HB.out⟩
  case cont =>
    clear BH BO HB hHeld
    rintro g5 wz ⟨hbh, hbo, hb5, hn5, hm5, hhb⟩
    have BH := Aside0.mk hbh
    have BO := Aside0.mk hbo
    have B5 := Aside0.mk hb5
    have N5 := Aside0.mk hn5
    have M5 := Aside0.mk hm5
    have HB := Aside0.mk hhb
    clear hbh hbo hb5 hn5 hm5 hhb
    refine norm_ (a' := ?_) ?_ ?_
    rotate_left
    · show putAll _ _ = _
      simp only [putAll, Act.put, List.setIfInBounds_toArray, List.set_cons_zero, List.set_cons_succ, i64_w, i32_w]
      rfl
    have HHO := Aside0.mk (show gh ≠ g5 from Nat.ne_of_lt M5.out)
    refine one_ (i := 7) (N := none) #[true, true, true, true, true, true, true, true, false] rfl rfl (one_of HT_.out (by kernel_rfl)) (by decide) (fun K hK => ?_)
    rw [if_pos (by rfl)]
    refine wp_store_row 66 _ _ rfl g5 (u32s l0_0) rfl rfl 66 (u32s zeros8) B5.out (by rw [size32, HOK.out.1]; exact info66) (by rw [size32, size32, HOK.out.1]; rfl) (ones32 _) ?_
    have n0_ := Aside0.mk (row_far BH.out HHO.out (u32s l0_0))
    have n1_ := Aside0.mk (row_far BO.out (Nat.ne_of_lt N5.out) (u32s l0_0))
    have n2_ := Aside0.mk (row_below HB.out (Nat.le_trans GO.out (Nat.le_of_lt N5.out)) (u32s l0_0))
    have n3_ := Aside0.mk (row_same B5.out (u32s l0_0))
    clear BH BO HB B5
    have BH := n0_
    have BO := n1_
    have HB := n2_
    have B5 := n3_
    clear n0_ n1_ n2_ n3_
    refine hK.out _ _ ⟨(blk_cell BH.out 0).trans rfl, (blk_cell BH.out 1).trans rfl, (blk_cell BH.out 2).trans rfl⟩ (fun hHeld => ?_)
    clear hK K
    refine pure_ (i := 8) (N := some 6) (v := ?_) (a' := ?_) #[true, true, true, true, true, true, true, true, true] rfl rfl (any_of HT_.out (by kernel_rfl)) (fun _ _ _ h => h) (Or.inl ⟨by rfl, ?_⟩) ?_ ?_
    rotate_left
    · intro w'
      go_simp
      with_reducible rfl
    rotate_left
    · simp only [Act.put, List.setIfInBounds_toArray, List.set_cons_zero, List.set_cons_succ, i64_w, i32_w]
      rfl
    refine done_ (done_of HT_.out (by kernel_rfl)) ?_
    go_wp2
    clear hHeld HT_ HW_
    generalize htb : a0_1 ++ a1 = tb
    have HTB := Aside0.mk htb
    have HTS := Aside0.mk (show tb.size ≤ 30000 by rw [← htb, ByteArray.size_append]; have := HOK.out.2.2.2.2; have := HTX.out; omega)
    clear htb
    go_loopg [6] (tb.size / 64 + 1) (fun kq v6 w' => ∃ (m : Nat) (s : ByteArray), v6 = .string s ∧ Aside0 (s = tb.extract (64 * m) tb.size) ∧ Aside0 (m + kq = tb.size / 64 + 1) ∧ Aside0 (m ≤ tb.size / 64) ∧ Aside0 (w'.heap[gh]? = some (.cells #[.slice A0_0 l0_0.length c0_0, .string a0_1, .int .i64 a0_2] 24 (0, 0))) ∧ Aside0 (w'.heap[go]? = some (.cells #[.slice none 0 0, .string (⟨#[]⟩ : ByteArray), .int .i64 0] 24 (0, 0))) ∧ Aside0 (w'.heap[g5]? = some (.cells (u32s (blks tb l0_0 m)) 66 (0, 0))) ∧ Aside0 (Below w.heap.size w w'))
    case atStart => exact ⟨0, tb, rfl, ⟨by simp⟩, ⟨by omega⟩, ⟨by omega⟩, BH, BO, B5, HB⟩
    case round =>
      clear HB BH BO B5
      obtain ⟨m, s, rfl, HSX, HM, HM2, BH, BO, B5, HB⟩ := hrel
      cases gk with
      | zero => exact absurd HM2.out (by have := HM.out; omega)
      | succ k2 =>
        have hss : s.size = tb.size - 64 * m := by
          rw [HSX.out, ByteArray.size_extract]
          omega
        by_cases hm : m < tb.size / 64
        · have h64 : (64 : Int) ≤ (s.size : Int) := by omega
          have h64n : 64 ≤ s.size := by omega
          have HSS := Aside0.mk hss
          clear hss
          go_wp2
          go_still_tail 3, (by kernel_rfl)
          refine wpStill_load_row rfl 66 _ rfl g5 ?hx 66 (u32s (blks tb l0_0 m)) (0, 0) _ B5.out Tryd.underlying66 rfl ?hi ?_
          case hx => rfl
          case hi => rw [size32, blks_len, HOK.out.1]; exact info66
          repeat still_step
          refine wpStill_nil ?_
          change wpList _ _ _ _ _ wr.drew
          generalize hwy : wr.drew = wv
          have n0_ := Aside0.mk (blk_at (m := 1) hwy BH.out)
          have n1_ := Aside0.mk (blk_at (m := 1) hwy BO.out)
          have n2_ := Aside0.mk (blk_at (m := 1) hwy B5.out)
          have n3_ := Aside0.mk (below_at (m := 1) hwy HB.out)
          clear BH BO B5 HB
          have BH := n0_
          have BO := n1_
          have B5 := n2_
          have HB := n3_
          clear n0_ n1_ n2_ n3_
          clear hwy
          go_wp2_with (fail)
          go_at_call 57
          refine (impl_taken.calls (blks tb l0_0 m) (by rw [blks_len, HOK.out.1]) (s.extract 0 64) (by rw [ByteArray.size_extract]; omega) wv (roots_below HG.out HB.out)).mono ?_
          rintro e w9 ⟨rfl, hb⟩
          have n0_ := Aside0.mk (blk_below BH.out hb)
          have n1_ := Aside0.mk (blk_below BO.out hb)
          have n2_ := Aside0.mk (blk_below B5.out hb)
          have n3_ := Aside0.mk (below_step HB.out hb)
          clear BH BO B5 HB
          have BH := n0_
          have BO := n1_
          have B5 := n2_
          have HB := n3_
          clear n0_ n1_ n2_ n3_
          clear hb
          go_wp2_with ((with_reducible refine gate_store (t := 66) (p := 5) (v := .tmp 43) rfl ?_); refine wpList_store_row rfl 66 _ _ rfl g5 (u32s (takenF (blks tb l0_0 m) (s.extract 0 64))) ?hx ?hy 66 (u32s (blks tb l0_0 m)) B5.out ?hi ?ho (ones32 _) ?_; (case hx => rfl); (case hy => rfl); (case hi => rw [size32, takenF_len, blks_len, HOK.out.1]; exact info66); (case ho => rw [size32, size32, takenF_len]))
          go_roundg k2
          case measure => omega
          case rel =>
            have hsx := HSX.out
            have hm64 : 64 * m + 64 ≤ tb.size := by omega
            have hx1 : s.extract 64 s.size = tb.extract (64 * (m + 1)) tb.size := by rw [hsx]; exact extract_on tb m hm64
            have hx2 : s.extract 0 64 = tb.extract (64 * m) (64 * m + 64) := by rw [hsx]; exact extract_head tb m hm64
            have hg5 : w.heap.size ≤ g5 := Nat.le_trans GO.out (Nat.le_of_lt N5.out)
            refine ⟨m + 1, s.extract 64 s.size, rfl, ⟨hx1⟩, ⟨by have := HM.out; omega⟩, ⟨by omega⟩, ⟨row_far BH.out HHO.out _⟩, ⟨row_far BO.out (Nat.ne_of_lt N5.out) _⟩, ⟨?_⟩, ⟨row_below HB.out hg5 _⟩⟩
            rw [blks, ← hx2]
            exact row_same B5.out _
        · have hm8 : m = tb.size / 64 := by have := HM2.out; omega
          subst hm8
          have h64 : ¬ ((64 : Int) ≤ (s.size : Int)) := by omega
          clear hss
          generalize hL : blks tb l0_0 (tb.size / 64) = L at B5
          have HLL := Aside0.mk (show L.length = 8 by rw [← hL, blks_len, HOK.out.1])
          have HLW := Aside0.mk (show Words L by rw [← hL]; exact blks_words _ _ _ HOK.out.2.1)
          have HLE := Aside0.mk hL
          clear hL
          go_wp2
          clear h64 hm
          have n0_ := Aside0.mk (blk_drew BH.out)
          have n1_ := Aside0.mk (blk_drew BO.out)
          have n2_ := Aside0.mk (blk_drew B5.out)
          have n3_ := Aside0.mk (below_drew1 HB.out)
          clear BH BO B5 HB
          have BH := n0_
          have BO := n1_
          have B5 := n2_
          have HB := n3_
          clear n0_ n1_ n2_ n3_
          refine start_ (n := 10) (S := fun w' => w'.heap[g5]? = some (.cells (u32s L) 66 (0, 0)) ∧ w'.cell? ⟨gh, 2, none⟩ = some (.int .i64 a0_2)) (ds := []) #[false, false, false, false, false, false, false, false, false, false] (by kernel_rfl) rfl rfl ⟨B5.out, (blk_cell BH.out 2).trans rfl⟩ (fun hHeld => ?_); refine with_tabW hm.tab9 hm.bits9 (fun HT_ HW_ => ?_)
          generalize World.drew wr = wv at BH BO B5 HB hHeld ⊢
          refine take_ (i := 0) (N := some 44) (v := .agg (u32s L)) (a' := ?_) #[true, false, false, false, false, false, false, false, false, false] rfl rfl (take_ofW HT_.out HW_.out (by kernel_rfl)) (fun _ _ _ h => h) (Or.inl ⟨by rfl, ?_⟩) hHeld ?_ ?_
          · rintro w' ⟨s0, s1⟩
            exact run_load_row rfl rfl s0 Tryd.underlying66 rfl (by rw [size32, HLL.out]; exact info66)
          rotate_left
          · simp only [Act.put, List.setIfInBounds_toArray, List.set_cons_zero, List.set_cons_succ, i64_w, i32_w]
            rfl
          refine pure_ (i := 2) (N := some 46) (v := ?_) (a' := ?_) #[true, false, true, false, false, false, false, false, false, false] rfl rfl (any_of HT_.out (by kernel_rfl)) (fun _ _ _ h => h) (Or.inl ⟨by rfl, ?_⟩) ?_ ?_
          rotate_left
          · intro w'
            go_simp
            with_reducible rfl
          rotate_left
          · simp only [Act.put, List.setIfInBounds_toArray, List.set_cons_zero, List.set_cons_succ, i64_w, i32_w]
            rfl
          refine pure_ (i := 3) (N := some 47) (v := ?_) (a' := ?_) #[true, false, true, true, false, false, false, false, false, false] rfl rfl (any_of HT_.out (by kernel_rfl)) (fun _ _ _ h => h) (Or.inl ⟨by rfl, ?_⟩) ?_ ?_
          rotate_left
          · intro w'
            go_simp
            with_reducible rfl
          rotate_left
          · simp only [Act.put, List.setIfInBounds_toArray, List.set_cons_zero, List.set_cons_succ, i64_w, i32_w]
            rfl
          refine take_ (i := 4) (N := some 48) (v := ?_) (a' := ?_) #[true, false, true, true, true, false, false, false, false, false] rfl rfl (take_ofW HT_.out HW_.out (by kernel_rfl)) (fun _ _ _ h => h) (Or.inl ⟨by rfl, ?_⟩) hHeld ?_ ?_
          rotate_left
          · rintro w' ⟨s0, s1⟩
            go_simp
            with_reducible rfl
          rotate_left
          · simp only [Act.put, List.setIfInBounds_toArray, List.set_cons_zero, List.set_cons_succ, i64_w, i32_w]
            rfl
          refine pure_ (i := 5) (N := some 49) (v := ?_) (a' := ?_) #[true, false, true, true, true, true, false, false, false, false] rfl rfl (any_of HT_.out (by kernel_rfl)) (fun _ _ _ h => h) (Or.inl ⟨by rfl, ?_⟩) ?_ ?_
          rotate_left
          · intro w'
            go_simp
            with_reducible rfl
          rotate_left
          · simp only [Act.put, List.setIfInBounds_toArray, List.set_cons_zero, List.set_cons_succ, i64_w, i32_w]
            rfl
          refine one_ (i := 1) (N := some 45) #[true, true, true, true, true, true, false, false, false, false] rfl rfl (one_of HT_.out (by kernel_rfl)) (by decide) (fun K hK => ?_)
          refine goes_ Tryd.func44 (by kernel_rfl) rfl #[.agg (u32s L)] (by rfl) rfl rfl (by (try simp only [List.map_toArray, List.map_cons, List.map_nil]); first | done | rfl) ?_
          with_reducible refine (impl_numbers.calls L HLL.out HLW.out _).mono ?_
          rintro e w9 ⟨v45, rfl, ho, hb⟩
          obtain ⟨A45, c45, ev⟩ := Kd.R_slice ho
          subst ev
          refine ⟨_, rfl, ?_⟩
          have HO := Aside0.mk (Kd.R_lower ho (below_size HB.out))
          clear ho
          have n0_ := Aside0.mk (blk_below BH.out hb)
          have n1_ := Aside0.mk (blk_below BO.out hb)
          have n2_ := Aside0.mk (blk_below B5.out hb)
          have n3_ := Aside0.mk (below_step HB.out hb)
          clear BH BO B5 HB
          have BH := n0_
          have BO := n1_
          have B5 := n2_
          have HB := n3_
          clear n0_ n1_ n2_ n3_
          clear hb
          refine hK.out _ _ ⟨B5.out, (blk_cell BH.out 2).trans rfl⟩ (fun hHeld => ?_)
          clear hK K
          refine norm_ (a' := ?_) ?_ ?_
          rotate_left
          · show Act.put _ (some 45) _ = _
            simp only [Act.put, List.setIfInBounds_toArray, List.set_cons_zero, List.set_cons_succ, i64_w, i32_w]
            rfl
          refine one_ (i := 6) (N := some 50) #[true, true, true, true, true, true, true, false, false, false] rfl rfl (one_of HT_.out (by kernel_rfl)) (by decide) (fun K hK => ?_)
          refine goes_ Tryd.func54 (by kernel_rfl) rfl #[.string a1] (by rfl) rfl rfl (by (try simp only [List.map_toArray, List.map_cons, List.map_nil]); first | done | rfl) ?_
          with_reducible refine (long_drawn a1 _).mono ?_
          rintro e w' ⟨rfl, ⟨nd9, rfl⟩⟩
          refine ⟨_, rfl, ?_⟩
          generalize hwq : World.drewN _ nd9 = wq
          have n0_ := Aside0.mk (blk_at hwq BH.out)
          have n1_ := Aside0.mk (blk_at hwq BO.out)
          have n2_ := Aside0.mk (blk_at hwq B5.out)
          have n3_ := Aside0.mk (below_at hwq HB.out)
          have n4_ := Aside0.mk (show Kd.R (Kd.int .i64) 2 wq w.heap.size (fun _ => True) (.slice A45 L.length c45) L by rw [← hwq]; exact Kd.R_drewN HO.out _)
          clear BH BO B5 HB HO
          have BH := n0_
          have BO := n1_
          have B5 := n2_
          have HB := n3_
          have HO := n4_
          clear n0_ n1_ n2_ n3_ n4_
          clear hwq
          refine hK.out _ _ ⟨B5.out, (blk_cell BH.out 2).trans rfl⟩ (fun hHeld => ?_)
          clear hK K
          refine norm_ (a' := ?_) ?_ ?_
          rotate_left
          · show Act.put _ (some 50) _ = _
            simp only [Act.put, List.setIfInBounds_toArray, List.set_cons_zero, List.set_cons_succ, i64_w, i32_w]
            rfl
          refine pure_ (i := 7) (N := some 51) (v := ?_) (a' := ?_) #[true, true, true, true, true, true, true, true, false, false] rfl rfl (any_of HT_.out (by kernel_rfl)) (fun _ _ _ h => h) (Or.inl ⟨by rfl, ?_⟩) ?_ ?_
          rotate_left
          · intro w'
            go_simp
            with_reducible rfl
          rotate_left
          · simp only [Act.put, List.setIfInBounds_toArray, List.set_cons_zero, List.set_cons_succ, i64_w, i32_w]
            rfl
          refine pure_ (i := 8) (N := some 52) (v := ?_) (a' := ?_) #[true, true, true, true, true, true, true, true, true, false] rfl rfl (any_of HT_.out (by kernel_rfl)) (fun _ _ _ h => h) (Or.inl ⟨by rfl, ?_⟩) ?_ ?_
          rotate_left
          · intro w'
            go_simp
            with_reducible rfl
          rotate_left
          · simp only [Act.put, List.setIfInBounds_toArray, List.set_cons_zero, List.set_cons_succ, i64_w, i32_w]
            rfl
          refine one_ (i := 9) (N := none) #[true, true, true, true, true, true, true, true, true, true] rfl rfl (one_of HT_.out (by kernel_rfl)) (by decide) (fun K hK => ?_)
          rw [if_pos (by rfl)]
          refine wp_store_row 24 _ _ rfl go #[.slice A45 L.length c45, .string s, .int .i64 (wrap64 (a0_2 + (a1.size : Int)))] rfl rfl 24 #[.slice none 0 0, .string (⟨#[]⟩ : ByteArray), .int .i64 0] BO.out (by kernel_rfl) rfl (by simp [Value.oneCell']) ?_
          have HO2 := Aside0.mk (Kd.R_mono (R_row (Kd.R_types HO.out BO.out (by decide)) (fun _ hk => hk.2) #[.slice A45 L.length c45, .string s, .int .i64 (wrap64 (a0_2 + (a1.size : Int)))]) (fun _ _ => trivial) : Kd.R (Kd.int .i64) 2 _ w.heap.size (fun _ => True) (.slice A45 L.length c45) L)
          clear HO
          have n0_ := Aside0.mk (row_far BH.out NHO.out #[.slice A45 L.length c45, .string s, .int .i64 (wrap64 (a0_2 + (a1.size : Int)))])
          have n1_ := Aside0.mk (row_far B5.out (Nat.ne_of_gt N5.out) #[.slice A45 L.length c45, .string s, .int .i64 (wrap64 (a0_2 + (a1.size : Int)))])
          have n2_ := Aside0.mk (row_below HB.out GO.out #[.slice A45 L.length c45, .string s, .int .i64 (wrap64 (a0_2 + (a1.size : Int)))])
          have n3_ := Aside0.mk (row_same BO.out #[.slice A45 L.length c45, .string s, .int .i64 (wrap64 (a0_2 + (a1.size : Int)))])
          clear BH B5 HB BO
          have BH := n0_
          have B5 := n1_
          have HB := n2_
          have BO := n3_
          clear n0_ n1_ n2_ n3_
          refine hK.out _ _ ⟨B5.out, (blk_cell BH.out 2).trans rfl⟩ (fun hHeld => ?_)
          clear hK K
          refine done_ (done_of HT_.out (by kernel_rfl)) ?_
          go_wp2
          refine bodyPost_ret (results_cell_row rfl _ _ go 24 #[.slice A45 L.length c45, .string s, .int .i64 (wrap64 (a0_2 + (a1.size : Int)))] (0, 0) _ rfl BO.out Tryd.underlying24 rfl (by kernel_rfl)) rfl ?_
          have e1 : (moreF l0_0 a0_1 a1 a0_2).1 = L := by
            unfold moreF
            rw [HTB.out]
            exact HLE.out
          have e2 : (moreF l0_0 a0_1 a1 a0_2).2.1 = s := by
            unfold moreF
            rw [HTB.out]
            exact HSX.out.symm
          have e3 : (moreF l0_0 a0_1 a1 a0_2).2.2 = wrap64 (a0_2 + (a1.size : Int)) := HSW.out.symm
          rw [e1, e2, e3]
          exact ⟨_, rfl, HO2.out, HB.out⟩
end Go.Proofs.YtbbgahoeokffbaaDoor.Sha

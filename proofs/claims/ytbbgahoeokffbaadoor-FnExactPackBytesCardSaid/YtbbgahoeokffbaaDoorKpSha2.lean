/-
  What impl.numbers, Hash.state, oneByte and summed of the program answer: the walks of their code. Conditions: a state of eight numbers below 2^32; summed: a rest of less than 64 bytes, a size from 0 to 2^40, the table of the rounds, strings.Repeat's contract.
-/
import Derived.Test.YtbbgahoeokffbaaDoorKpSha
import Derived.Test.YtbbgahoeokffbaaDoorKpXrightx0
namespace Go.Proofs.YtbbgahoeokffbaaDoor.Sha
open Go Go.RowKit Go.Proofs.YtbbgahoeokffbaaDoorW.PrintWords Go.Proofs.YtbbgahoeokffbaaDoorW.PrintLast Go.Proofs.YtbbgahoeokffbaaDoorW.PrintMore Go.Proofs.YtbbgahoeokffbaaDoor.Xright
set_option linter.unusedVariables false
set_option linter.unusedSimpArgs false
theorem info2 : (Tryd.prog.info? 2).map (fun i => (i.zero, i.size, i.bytes)) = some (some (.int .i64 0), 1, 8) := by kernel_rfl
def Words (l : List Int) : Prop := ∀ x ∈ l, 0 ≤ x ∧ x < 4294967296
theorem words_at {l : List Int} (h : Words l) (i : Nat) : 0 ≤ l[i]?.getD 0 ∧ l[i]?.getD 0 < 4294967296 := by
  by_cases hi : i < l.length
  · rw [List.getElem?_eq_getElem hi]
    exact h _ (List.getElem_mem hi)
  · rw [List.getElem?_eq_none (by omega)]
    simp
theorem agg_at (l : List Int) (i : Nat) (hi : i < l.length) : (u32s l)[i]? = some (.int .u32 (l[i]?.getD 0)) := by
  simp [u32s, List.getElem?_eq_getElem hi]
theorem info65 : (Tryd.prog.info? 65).map (·.size) = some 1 := by kernel_rfl
theorem run_index66 (l : List Int) (i : Nat) (hl : l.length = 8) (hi : i < 8) (W : World) : (Instr.index 66 (.agg (u32s l)) (.int .i64 (i : Int))).run Tryd.prog W = .ok (.int .u32 (l[i]?.getD 0)) W := by
  have hx := agg_at l i (by omega)
  obtain ⟨i0, hi0, hs0⟩ := Option.map_eq_some_iff.1 info65
  have hagg : (isAgg 65).run Tryd.prog W = .ok false W := by
    unfold isAgg
    rw [Sem.run_bind, run_underlying Tryd.underlying65 W]
    rfl
  simp [Instr.index, asIntOf, run_underlying Tryd.underlying66, Sem.run_bind, sizeOf, typeInfo, hi0, hs0, part, hagg, hx, hi]
set_option maxHeartbeats 16000000 in
set_option maxRecDepth 100000 in
theorem impl_numbers.calls (l : List Int) (hl : l.length = 8) (hl2 : Words l) (w : World) : Calls Tryd.prog 44 #[.agg (u32s l)] w fun e w' => ∃ v0_ : Value, e = .returned (v0_) ∧ Kd.R (Kd.int .i64) 2 w' w.heap.size (fun _ => True) v0_ l ∧ Below w.heap.size w w' := by
  have HL := Aside0.mk hl
  have HW := Aside0.mk hl2
  clear hl hl2
  have HB := Aside0.mk (Below.refl w.heap.size w)
  go_enter Tryd.func44, Tryd.ntmps44
  go_wp2_with (first | ((with_reducible refine gate_dst (N := 1) rfl ?_); refine box_event ?hg (N := 1) ?hd (cs := u32s l) (t := 66) ?hr ?_; (case hd => rfl); (case hg => rfl); (case hr => first | (go_simp; done) | (go_simp; rfl)); intro g1 hg w1 hbox hb; have N1 := Aside0.mk (show w.heap.size ≤ g1 by rw [hg]; exact Nat.le_refl _); have n0_ := Aside0.mk (below_step HB.out hb); have B1 := Aside0.mk hbox; clear HB; have HB := n0_; clear n0_ hb hbox hg) | ((with_reducible refine gate_dst (N := 6) rfl ?_); refine wpList_load_row rfl 66 _ rfl g1 ?hx 66 (u32s l) (0, 0) _ B1.out Tryd.underlying66 rfl ?hi ?_; (case hx => rfl); (case hi => rw [size32, HL.out]; exact info66)))
  go_loopg [7, 3] 9 (fun kq v7 v3 w' => ∃ i : Nat, v7 = .int .i64 (i : Int) ∧ Aside0 (i + kq = 9) ∧ Aside0 (i ≤ 8) ∧ Aside0 (Kd.R (Kd.int .i64) 2 w' w.heap.size (fun _ => True) v3 (l.take i)) ∧ Aside0 (Below w.heap.size w w'))
  case atStart => exact ⟨0, rfl, ⟨rfl⟩, ⟨by omega⟩, ⟨Kd.R_nil _ _ _ _ _⟩, HB⟩
  case round =>
    clear HB
    obtain ⟨i, rfl, HI, HI8, HO3, HB⟩ := hrel
    cases gk with
    | zero => exact absurd HI8.out (by have := HI.out; omega)
    | succ k1 =>
      by_cases hi : (i : Int) < 8
      · have hx := run_index66 l i HL.out (by omega)
        have hw := words_at HW.out i
        obtain ⟨hw0, hw1⟩ := hw
        go_wp2_with (first | ((with_reducible refine gate_builtin (b := .append) (xs := #[.tmp 10, .tmp 13]) rfl ?_); at_builtin; refine Kd.R_append (Kd.int .i64) (w0 := w) w.heap.size rfl (.tmp 10) (.tmp 13) 22 2 (.int .i64 0) 8 rfl Tryd.underlying22 info2 rfl (by decide) (by omega) u3 (l.take i) (l[i]?.getD 0) [.int .i64 (l[i]?.getD 0)] (fun _ => True) (fun _ => False) rfl rfl ?aP (fun _ hk => hk.elim) ?aF ?aO ?aB ?aS ?aL ?_; (case aP => exact rfl); (case aB => exact (by repeat (first | (with_reducible first | exact HB.out | apply below_alloc | apply pw_below_drewN | apply below_drew1) | exact HB.out))); (case aF => exact (fun _ _ => trivial)); (case aO => exact (by (with_reducible repeat (first | apply Kd.R_alloc | apply Kd.R_drewN | apply Kd.R_drew)); exact HO3.out)); (case aS => exact (below_size (by repeat (first | (with_reducible first | exact HB.out | apply below_alloc | apply pw_below_drewN | apply below_drew1) | exact HB.out)))); (case aL => rw [List.length_take, HL.out]; omega); intro vN wN ho hb hg hat; have n0_ := Aside0.mk (hb); have n1_ := Aside0.mk (ho); clear HB; clear HO3; have HB := n0_; have HO3 := n1_; clear n0_ n1_; clear ho hb hg hat))
        go_roundg k1
        case measure => omega
        case rel =>
          refine ⟨i + 1, rfl, ⟨by have := HI.out; omega⟩, ⟨by omega⟩, ⟨?_⟩, HB⟩
          rw [List.take_add_one, List.getElem?_eq_getElem (show i < l.length by rw [HL.out]; omega)]
          have := HO3.out
          rw [List.getElem?_eq_getElem (show i < l.length by rw [HL.out]; omega)] at this
          exact this
      · have e8 : i = 8 := by have := HI8.out; omega
        subst e8
        go_wp2
        go_ret
        refine ⟨_, rfl, ?_, HB.out⟩
        have := HO3.out
        rwa [List.take_of_length_le (by rw [HL.out]; omega)] at this
def zs (l : List Int) : Nat → List Int
  | 0 => zeros8
  | i + 1 => (zs l i).set i (l[i]?.getD 0)
theorem wpStill_load_row {P : Program} {ops : Array Oper} {rest : List Oper} {o : Oper} {a : Act} {w : World} {Q : Act → Prop} (hgd : o.guard = none) (ty : TypeId) (x : Operand) (ho : o.op = .load ty x)
    (g : Nat) (hx : a.eval x = .pointer (some ⟨g, 0, none⟩)) (t : TypeId) (cs : Array Value) (fr : Nat × Nat) (d : TypeDesc) (hg : w.heap[g]? = some (.cells cs t fr))
    (hu : P.underlying ty = some d) (hd : (match d with | .struct _ | .array _ _ => true | _ => false) = true) (hi : (P.info? ty).map (·.size) = some cs.size)
    (h : wpStill P ops w Q rest (a.put o.dst (.agg cs))) : wpStill P ops w Q (o :: rest) a := by
  unfold wpStill
  rw [if_pos (by simp [Region.wanted, hgd])]
  unfold Oper.still execOp
  simp only [ho, hx, Instr.loadAt, Instr.sureAddr, Sem.run_bind, Sem.run_pure, Result.andThen_ok, run_loadVar_row w g t ty cs fr d hg hu hd hi, Oper.stillUpon_value]
  exact h
theorem info5 : (Tryd.prog.info? 5).map (fun i => (i.zero, i.size, i.bytes)) = some (some (.int .u8 0), 1, 1) := by kernel_rfl
def impl_oneByte.f (a0 : Int) : Option (ByteArray) := some (strOfNums (([a0] : List Int)))
section
attribute [local go_sem] max2_int min2_int max_two min_two max_three min_three max_four min_four
set_option maxHeartbeats 8000000 in
set_option maxRecDepth 100000 in
theorem impl_oneByte.calls (a0 : Int) (r : ByteArray) (w : World) (h : impl_oneByte.f a0 = some r) :
    Calls Tryd.prog 81 #[.int .u8 a0] w fun e w' => e = .returned (.string r) ∧ Below w.heap.size w w' := by
  have HB := Aside0.mk (Below.refl w.heap.size w)
  have H : (some (strOfNums (([a0] : List Int)))) = some r := h
  clear h
  obtain ⟨y207, hy207⟩ : ∃ y_ : List Int, y_ = (([a0] : List Int)) := ⟨_, rfl⟩
  replace H : (some (strOfNums y207)) = some r := by first | (rw [hy207]; with_reducible exact H) | (have H2_ := (Option.bind_some _ _).symm.trans H; rw [hy207]; with_reducible exact H2_) | (have H2_ := (Option.bind_some _ _).symm.trans H; with_reducible exact H2_) | with_reducible exact H | (rw [hy207]; exact H) | exact H
  have Ny207 := Aside0.mk hy207
  clear hy207
  obtain rfl := Option.some.inj H
  go_enter Tryd.func81, Tryd.ntmps81
  go_wp2_with (first | ((with_reducible refine gate_dst (N := 4) rfl ?_); refine Kd.R_lit (Kd.int .u8) _ 5 ?hg (N := 4) ?hd (xs := ([a0] : List Int)) (inner := [.int .u8 a0]) (ok := fun _ => True) (okp := fun _ => True) ?hr ?hp (fun _ hk => hk) trivial (Below.refl _ _) (Nat.le_refl _) (by simp) ?_; (case hd => rfl); (case hg => rfl); (case hr => first | (go_simp; done) | (go_simp; rfl)); (case hp => exact (Reps.one (show Kd.M (Kd.int .u8) _ _ _ a0 [.int .u8 a0] from rfl) (Reps.none _ _))); intro v208 w2 ho3 hb hg_ hnew_; clear hg_ hnew_; (first | rw [← Ny207.out] at ho3 | (simp only [Int.reduceToNat] at ho3; rw [← Ny207.out] at ho3)); have n0_ := Aside0.mk (Kd.R_lower ho3 (below_size (by repeat (first | (with_reducible first | exact HB.out | apply below_alloc | apply pw_below_drewN | apply below_drew1) | exact HB.out)))); have n1_ := Aside0.mk (below_step (by repeat (first | (with_reducible first | exact HB.out | apply below_alloc | apply pw_below_drewN | apply below_drew1) | exact HB.out)) hb); clear HB; have HO209 := n0_; have HB := n1_; clear n0_ n1_; clear hb ho3; have hcv4 := own_string (P := Tryd.prog) Tryd.underlying89 Tryd.underlying5 Tryd.underlying9 (Kd.own_of_R HO209.out)))
  go_ret
  exact ⟨by first | rfl | (simp [errW_none, errW_some] <;> rfl) | (simp [*, errW_none, errW_some] <;> rfl), by repeat (first | (with_reducible first | exact HB.out | apply below_alloc | apply pw_below_drewN | apply below_drew1) | exact HB.out)⟩
end
def padZ (n : Nat) : Nat := (119 - n) % 64
def lenB (p : ByteArray) (size : Int) : Nat → ByteArray
  | 0 => p
  | j + 1 => lenB p size j ++ strOfNums [size * 8 / 2 ^ (8 * (7 - j)) % 256]
theorem strOf_size (l : List Int) : (strOfNums l).size = l.length := by simp [strOfNums, ByteArray.size]
theorem lenB_size (p : ByteArray) (size : Int) (j : Nat) : (lenB p size j).size = p.size + j := by
  induction j with
  | zero => rfl
  | succ j ih => rw [lenB, ByteArray.size_append, ih, strOf_size]; rfl
def nB (n : Nat) : Nat := if n ≤ 55 then 1 else 2
def blks (pb : ByteArray) (l : List Int) : Nat → List Int
  | 0 => l
  | m + 1 => takenF (blks pb l m) (pb.extract (64 * m) (64 * m + 64))
theorem blks_len (pb : ByteArray) (l : List Int) (m : Nat) : (blks pb l m).length = l.length := by
  induction m with
  | zero => rfl
  | succ m ih => rw [blks, takenF_len, ih]
theorem emp_false (s : ByteArray) (h : 0 < s.size) : s.toList.isEmpty = false := by
  rw [ByteArray.toList_eq]
  cases hs : s.data.toList with
  | nil =>
    have : s.data.toList.length = s.size := Array.length_toList
    rw [hs] at this
    simp at this
    omega
  | cons a b => rfl
theorem emp_true (s : ByteArray) (h : s.size = 0) : s.toList.isEmpty = true := by
  rw [ByteArray.toList_eq]
  have : s.data.toList.length = s.size := Array.length_toList
  rw [h] at this
  rw [List.length_eq_zero_iff.1 this]
  rfl
def q4 (x : Int) : List Int := [x / 16777216, x / 65536 % 256, x / 256 % 256, x % 256]
def outB (L : List Int) : Nat → List Int
  | 0 => []
  | i + 1 => outB L i ++ q4 (L[i]?.getD 0)
theorem outB_len (L : List Int) (i : Nat) : (outB L i).length = 4 * i := by
  induction i with
  | zero => rfl
  | succ i ih => rw [outB, List.length_append, ih]; simp [q4]; omega
theorem extract_on (pb : ByteArray) (m : Nat) (h : 64 * m + 64 ≤ pb.size) : (pb.extract (64 * m) pb.size).extract 64 (pb.extract (64 * m) pb.size).size = pb.extract (64 * (m + 1)) pb.size := by
  rw [ByteArray.extract_extract, ByteArray.size_extract]
  congr 1
  omega
theorem extract_head (pb : ByteArray) (m : Nat) (h : 64 * m + 64 ≤ pb.size) : (pb.extract (64 * m) pb.size).extract 0 64 = pb.extract (64 * m) (64 * m + 64) := by
  rw [ByteArray.extract_extract]
  congr 1
  omega
theorem fs_words (S l : List Int) (i : Nat) (h : Words l) : Words (fs S l i) := by
  induction i with
  | zero => exact h
  | succ i ih =>
    intro x hx
    rw [fs] at hx
    rcases List.mem_or_eq_of_mem_set hx with hx | hx
    · exact ih x hx
    · subst hx
      omega
theorem takenF_words (l : List Int) (s : ByteArray) (h : Words l) : Words (takenF l s) := fs_words _ _ _ h
theorem blks_words (pb : ByteArray) (l : List Int) (m : Nat) (h : Words l) : Words (blks pb l m) := by
  induction m with
  | zero => exact h
  | succ m ih => exact takenF_words _ _ ih
/-- The padded text. -/
def padded (rest : ByteArray) (size : Int) : ByteArray := lenB (rest ++ ⟨#[128]⟩ ++ ⟨(List.replicate (padZ rest.size) 0).toArray⟩) size 8
/-- What 'summed' answers. -/
def summedF (l : List Int) (rest : ByteArray) (size : Int) : ByteArray := strOfNums (outB (blks (padded rest size) l (nB rest.size)) 8)
def Rep0 : Prop := ∀ (c : Nat) (w : World), c ≤ 64 → Calls Tryd.prog 80 #[.string ⟨#[0]⟩, .int .i64 c] w fun e w' => e = .returned (.string ⟨(List.replicate c 0).toArray⟩) ∧ Below w.heap.size w w'
set_option maxHeartbeats 16000000 in
set_option maxRecDepth 100000 in
theorem impl_summed.calls (hrep : Rep0) (l : List Int) (hl : l.length = 8) (hl2 : Words l) (rest : ByteArray) (hrest : rest.size < 64) (size : Int) (hs0 : 0 ≤ size) (hs1 : size ≤ 1099511627776) (w : World) (hG : Roots w) : Calls Tryd.prog 66 #[.agg (u32s l), .string rest, .int .i64 size] w fun e w' => e = .returned (.string (summedF l rest size)) ∧ Below w.heap.size w w' := by
  have HL := Aside0.mk hl
  have HW := Aside0.mk hl2
  have HG := Aside0.mk hG
  have HREP := Aside0.mk hrep
  clear hl hl2 hG hrep
  have HB := Aside0.mk (Below.refl w.heap.size w)
  have e2 : (120 - ((rest.size : Int) + 1)) % 64 = (padZ rest.size : Int) := by
    unfold padZ
    omega
  go_enter Tryd.func66, Tryd.ntmps66
  go_wp2_with (((with_reducible refine gate_dst (N := 3) rfl ?_); refine box_event ?hg (N := 3) ?hd (cs := u32s l) (t := 66) ?hr ?_; (case hd => rfl); (case hg => rfl); (case hr => first | (go_simp; done) | (go_simp; rfl)); intro g3 hg w3 hbox hb; have N3 := Aside0.mk (show w.heap.size ≤ g3 by rw [hg]; exact Nat.le_refl _); have n0_ := Aside0.mk (below_step HB.out hb); have B3 := Aside0.mk hbox; clear HB; have HB := n0_; clear n0_ hb hbox hg))
  go_at_call 80
  rw [e2]
  refine (HREP.out (padZ rest.size) _ (by unfold padZ; omega)).mono ?_
  rintro e w4 ⟨rfl, hb⟩
  have n0_ := Aside0.mk (below_step HB.out hb)
  have n1_ := Aside0.mk (blk_below B3.out hb)
  clear HB B3
  have HB := n0_
  have B3 := n1_
  clear n0_ n1_ hb e2
  generalize hzp : (⟨(List.replicate (padZ rest.size) 0).toArray⟩ : ByteArray) = zp
  generalize hr1 : rest ++ (⟨#[128]⟩ : ByteArray) = r1
  have hz1 : zp.size = padZ rest.size := by rw [← hzp]; show (List.replicate (padZ rest.size) (0 : UInt8)).toArray.size = _; rw [List.size_toArray, List.length_replicate]
  have hr2 : r1.size = rest.size + 1 := by rw [← hr1, ByteArray.size_append]; rfl
  have hsum : r1.size + zp.size ≤ 9223372036854775807 := by rw [hz1, hr2]; unfold padZ; omega
  have HZP := Aside0.mk hzp
  have HR1 := Aside0.mk hr1
  have HZ1 := Aside0.mk hz1
  have HR2 := Aside0.mk hr2
  clear hzp hr1 hz1 hr2
  go_wp2
  clear hsum
  generalize hp0 : r1 ++ zp = p0
  have HP0 := Aside0.mk hp0
  have HP1 := Aside0.mk (show p0.size = rest.size + 1 + padZ rest.size by rw [← hp0, ByteArray.size_append, HZ1.out, HR2.out])
  clear hp0
  go_loopg [7, 1] 9 (fun kq v7 v1 w' => ∃ j : Nat, v7 = .int .i64 (7 - (j : Int)) ∧ v1 = .string (lenB p0 size j) ∧ Aside0 (j + kq = 9) ∧ Aside0 (j ≤ 8) ∧ Aside0 (w'.heap[g3]? = some (.cells (u32s l) 66 (0, 0))) ∧ Aside0 (Below w.heap.size w w'))
  case atStart => exact ⟨0, rfl, rfl, ⟨rfl⟩, ⟨by omega⟩, B3, HB⟩
  case round =>
    clear HB B3
    obtain ⟨j, rfl, rfl, HJ, HJ8, B3, HB⟩ := hrel
    cases gk with
    | zero => exact absurd HJ8.out (by have := HJ.out; omega)
    | succ k1 =>
      by_cases hj : (j : Int) < 8
      · have h7 : (0 : Int) ≤ 7 - (j : Int) := by omega
        have hlb : (lenB p0 size j).size + (strOfNums [size * 8 / 2 ^ (8 * (7 - j)) % 256]).size ≤ 9223372036854775807 := by
          rw [lenB_size, strOf_size]
          have := HP1.out
          have hpz : padZ rest.size ≤ 63 := by unfold padZ; omega
          simp only [List.length_cons, List.length_nil]
          omega
        go_wp2_with (fail)
        go_at_call 81
        refine (impl_oneByte.calls (size * 8 / 2 ^ (8 * (7 - j)) % 256) _ _ rfl).mono ?_
        rintro e w4 ⟨rfl, hb⟩
        have n0_ := Aside0.mk (below_step HB.out hb)
        have n1_ := Aside0.mk (blk_below B3.out hb)
        clear HB B3
        have HB := n0_
        have B3 := n1_
        clear n0_ n1_ hb
        go_wp2
        go_roundg k1
        case measure => omega
        case rel =>
          refine ⟨j + 1, ?_, rfl, ⟨by have := HJ.out; omega⟩, ⟨by omega⟩, B3, HB⟩
          rw [show (7 : Int) - (j : Int) - 1 = 7 - ((j + 1 : Nat) : Int) by omega]
      · have e8 : j = 8 := by have := HJ8.out; omega
        subst e8
        go_wp2
        generalize hpb : lenB p0 size 8 = pb
        have HPB := Aside0.mk hpb
        clear hpb
        have HPS : Aside0 (pb.size = 64 * nB rest.size) := ⟨by rw [← HPB.out, lenB_size, HP1.out]; unfold padZ nB; split <;> omega⟩
        clear hj HJ HJ8
        go_loopg [1] (nB rest.size + 1) (fun kq v1 w' => ∃ (m : Nat) (s : ByteArray), v1 = .string s ∧ Aside0 (s = pb.extract (64 * m) pb.size) ∧ Aside0 (m + kq = nB rest.size + 1) ∧ Aside0 (m ≤ nB rest.size) ∧ Aside0 (w'.heap[g3]? = some (.cells (u32s (blks pb l m)) 66 (0, 0))) ∧ Aside0 (Below w.heap.size w w'))
        case atStart => exact ⟨0, pb, rfl, ⟨by simp⟩, ⟨by omega⟩, ⟨by omega⟩, B3, HB⟩
        case round =>
          clear HB B3
          obtain ⟨m, s, rfl, HSX, HM, HM2, B3, HB⟩ := hrel
          cases gk with
          | zero => exact absurd HM2.out (by have := HM.out; omega)
          | succ k2 =>
            by_cases hm : m < nB rest.size
            · have hss : s.size = 64 * (nB rest.size - m) := by
                rw [HSX.out, ByteArray.size_extract, HPS.out]
                omega
              have h64 : (64 : Int) ≤ (s.size : Int) := by omega
              have h64n : 64 ≤ s.size := by omega
              have hemp : s.toList.isEmpty = false := emp_false s (by omega)
              have HSS := Aside0.mk hss
              clear hss
              go_wp2
              go_still_tail 3, (by kernel_rfl)
              refine wpStill_load_row rfl 66 _ rfl g3 ?hx 66 (u32s (blks pb l m)) (0, 0) _ B3.out Tryd.underlying66 rfl ?hi ?_
              case hx => rfl
              case hi => rw [size32, blks_len, HL.out]; exact info66
              repeat still_step
              refine wpStill_nil ?_
              change wpList _ _ _ _ _ wr.drew
              generalize hwy : wr.drew = wy
              have B3y := Aside0.mk (blk_at (m := 1) hwy B3.out)
              have HBy := Aside0.mk (below_at (m := 1) hwy HB.out)
              clear hwy HB B3
              go_wp2_with (fail)
              go_at_call 57
              refine (impl_taken.calls (blks pb l m) (by rw [blks_len, HL.out]) (s.extract 0 64) (by rw [ByteArray.size_extract]; omega) wy (roots_below HG.out HBy.out)).mono ?_
              rintro e w5 ⟨rfl, hb⟩
              have n0_ := Aside0.mk (below_step HBy.out hb)
              have n1_ := Aside0.mk (blk_below B3y.out hb)
              clear HBy B3y
              have HBy := n0_
              have B3y := n1_
              clear n0_ n1_ hb
              go_wp2_with ((with_reducible refine gate_store (t := 66) (p := 3) (v := .tmp 40) rfl ?_); refine wpList_store_row rfl 66 _ _ rfl g3 (u32s (takenF (blks pb l m) (s.extract 0 64))) ?hx ?hy 66 (u32s (blks pb l m)) B3y.out ?hi ?ho (ones32 _) ?_; (case hx => rfl); (case hy => rfl); (case hi => rw [size32, takenF_len, blks_len, HL.out]; exact info66); (case ho => rw [size32, size32, takenF_len]))
              go_roundg k2
              case measure => omega
              case rel =>
                have hsx := HSX.out
                have hps := HPS.out
                have hm64 : 64 * m + 64 ≤ pb.size := by omega
                have hx1 : s.extract 64 s.size = pb.extract (64 * (m + 1)) pb.size := by rw [hsx]; exact extract_on pb m hm64
                have hx2 : s.extract 0 64 = pb.extract (64 * m) (64 * m + 64) := by rw [hsx]; exact extract_head pb m hm64
                have hg3 : w.heap.size ≤ g3 := N3.out
                refine ⟨m + 1, s.extract 64 s.size, rfl, ⟨hx1⟩, ⟨by have := HM.out; omega⟩, ⟨by omega⟩, ⟨?_⟩, ⟨row_below HBy.out hg3 _⟩⟩
                rw [blks, ← hx2]
                exact row_same B3y.out _
            · have hm8 : m = nB rest.size := by have := HM2.out; omega
              subst hm8
              have hemp : s.toList.isEmpty = true := emp_true s (by rw [HSX.out, ByteArray.size_extract, HPS.out]; omega)
              generalize hL : blks pb l (nB rest.size) = L at B3
              have HLL : Aside0 (L.length = 8) := ⟨by rw [← hL, blks_len, HL.out]⟩
              have HLW : Aside0 (Words L) := ⟨by rw [← hL]; exact blks_words pb l _ HW.out⟩
              have HLE := Aside0.mk hL
              clear hL
              go_wp2_with ((with_reducible refine gate_dst (N := 41) rfl ?_); refine wpList_load_row rfl 66 _ rfl g3 ?hx 66 (u32s L) (0, 0) _ B3.out Tryd.underlying66 rfl ?hi ?_; (case hx => rfl); (case hi => rw [size32, HLL.out]; exact info66))
              clear hemp
              go_loopg [42, 8] 9 (fun kq v42 v8 w' => ∃ i : Nat, v42 = .int .i64 (i : Int) ∧ Aside0 (i + kq = 9) ∧ Aside0 (i ≤ 8) ∧ Aside0 (Kd.R (Kd.int .u8) 5 w' w.heap.size (fun _ => True) v8 (outB L i)) ∧ Aside0 (Below w.heap.size w w'))
              case atStart => exact ⟨0, rfl, ⟨rfl⟩, ⟨by omega⟩, ⟨Kd.R_nil _ _ _ _ _⟩, HB⟩
              case round =>
                clear HB B3
                obtain ⟨i, rfl, HI, HI8, HO8, HB⟩ := hrel
                cases gk with
                | zero => exact absurd HI8.out (by have := HI.out; omega)
                | succ k3 =>
                  by_cases hi : (i : Int) < 8
                  · have hx := run_index66 L i HLL.out (by omega)
                    have hw := words_at HLW.out i
                    generalize hxi : L[i]?.getD 0 = xi at hx hw
                    have HXI := Aside0.mk hxi
                    clear hxi
                    obtain ⟨hw0, hw1⟩ := hw
                    go_wp2_with (first | ((with_reducible refine gate_dst (N := 57) rfl ?_); refine Kd.R_lit (Kd.int .u8) _ 5 ?hg (N := 57) ?hd (xs := q4 xi) (inner := [.int .u8 (xi / 16777216), .int .u8 (xi / 65536 % 256), .int .u8 (xi / 256 % 256), .int .u8 (xi % 256)]) (ok := fun _ => True) (okp := fun _ => True) ?hr ?hp (fun _ hk => hk) trivial (Below.refl _ _) (Nat.le_refl _) (by simp [q4]) ?_; (case hd => rfl); (case hg => rfl); (case hr => first | (go_simp; done) | (go_simp; rfl)); (case hp => exact (Reps.one (show Kd.M (Kd.int .u8) _ _ _ (xi / 16777216) [.int .u8 (xi / 16777216)] from rfl) (Reps.one (show Kd.M (Kd.int .u8) _ _ _ (xi / 65536 % 256) [.int .u8 (xi / 65536 % 256)] from rfl) (Reps.one (show Kd.M (Kd.int .u8) _ _ _ (xi / 256 % 256) [.int .u8 (xi / 256 % 256)] from rfl) (Reps.one (show Kd.M (Kd.int .u8) _ _ _ (xi % 256) [.int .u8 (xi % 256)] from rfl) (Reps.none _ _)))))); intro vl wl hol hb hg_ hnew_; clear hg_ hnew_; have n0_ := Aside0.mk (Kd.R_elder' (by (with_reducible repeat (first | apply Kd.R_alloc | apply Kd.R_drewN | apply Kd.R_drew)); exact HO8.out) (Kd.R_base hol) hb); have n2_ := Aside0.mk (Kd.R_lower (Kd.R_new' hol (Kd.R_lt (by (with_reducible repeat (first | apply Kd.R_alloc | apply Kd.R_drewN | apply Kd.R_drew)); exact HO8.out))) (below_size (by repeat (first | (with_reducible first | exact HB.out | apply below_alloc | apply pw_below_drewN | apply below_drew1) | exact HB.out)))); have n5_ := Aside0.mk (below_step (by repeat (first | (with_reducible first | exact HB.out | apply below_alloc | apply pw_below_drewN | apply below_drew1) | exact HB.out)) hb); clear HO8; clear HB; have HO8 := n0_; have HOL := n2_; have HB := n5_; clear n0_ n2_ n5_; clear hb hol; obtain ⟨Al, cl, el⟩ := Kd.R_slice HOL.out; subst el) | ((with_reducible refine gate_builtin (b := .append) (xs := #[.tmp 45, .tmp 57]) rfl ?_); at_builtin; refine Kd.R_append_rows (Kd.int .u8) (w0 := w) w.heap.size rfl (.tmp 45) (.tmp 57) 89 5 (.int .u8 0) 1 rfl Tryd.underlying89 info5 rfl (by decide) (by omega) u8 (outB L i) (q4 xi) _ _ _ (fun k_ => some k_ ≠ (.slice Al (q4 xi).length cl : Value).ownBlock) (fun _ => False) rfl rfl ?aO ?aR (fun _ _ h => h) (fun _ h => h.elim) ?aF ?aB ?aS ?aL ?_; (case aR => repeat (first | exact (Kd.R_reads' HOL.out).2.2 | (with_reducible refine Kd.C_alloc ?_ _) | (with_reducible refine Kd.C_drewN ?_ _) | (with_reducible refine Kd.C_drew ?_))); (case aB => exact (by repeat (first | (with_reducible first | exact HB.out | apply below_alloc | apply pw_below_drewN | apply below_drew1) | exact HB.out))); (case aF => exact (fun k_ hk => Kd.fresh' (Kd.R_lt (by (with_reducible repeat (first | apply Kd.R_alloc | apply Kd.R_drewN | apply Kd.R_drew)); exact HOL.out)) k_ hk)); (case aO => exact (by (with_reducible repeat (first | apply Kd.R_alloc | apply Kd.R_drewN | apply Kd.R_drew)); exact Kd.R_mono HO8.out (fun _ hk => hk.2))); (case aS => exact (below_size (by repeat (first | (with_reducible first | exact HB.out | apply below_alloc | apply pw_below_drewN | apply below_drew1) | exact HB.out)))); (case aL => rw [outB_len]; simp only [q4, List.length_cons, List.length_nil]; omega); intro va wa ho hb hg hat; have n4_ := Aside0.mk (hb); have n5_ := Aside0.mk (Kd.R_mono (ok' := fun _ => True) ho (fun _ _ => trivial)); clear HB; clear HO8; have HB := n4_; have HO8 := n5_; clear n4_ n5_; clear ho hb hg hat HOL))
                    go_roundg k3
                    case measure => omega
                    case rel =>
                      refine ⟨i + 1, rfl, ⟨by have := HI.out; omega⟩, ⟨by omega⟩, ⟨?_⟩, HB⟩
                      rw [outB, HXI.out]
                      exact HO8.out
                  · have e8 : i = 8 := by have := HI8.out; omega
                    subst e8
                    obtain ⟨A8, c8, eq8⟩ := Kd.R_slice HO8.out
                    subst eq8
                    have hcv := own_string (P := Tryd.prog) Tryd.underlying89 Tryd.underlying5 Tryd.underlying9 (Kd.own_of_R HO8.out)
                    go_wp2
                    go_ret
                    refine ⟨?_, HB.out⟩
                    rw [summedF, padded, HR1.out, HZP.out, HP0.out, HPB.out, HLE.out]
                    rfl
end Go.Proofs.YtbbgahoeokffbaaDoor.Sha

/-
  What impl.numbers, Hash.state, oneByte and summed of the program answer: the walks of their code. Conditions: a state of eight numbers below 2^32; summed: a rest of less than 64 bytes, a size from 0 to 2^40, the table of the rounds, strings.Repeat's contract.
-/
import Derived.Test.YtbbgahoeokffbaaDoorKhSha
import Derived.Test.YtbbgahoeokffbaaDoorKhXrightx0
namespace Go.Proofs.YtbbgahoeokffbaaDoor.Sha
open Go Go.RowKit Go.Proofs.YtbbgahoeokffbaaDoorW.PrintWords Go.Proofs.YtbbgahoeokffbaaDoorW.PrintLast Go.Proofs.YtbbgahoeokffbaaDoorW.PrintMore Go.Proofs.YtbbgahoeokffbaaDoor.Xright
set_option linter.unusedVariables false
set_option linter.unusedSimpArgs false
theorem info2 : (Tryd.prog.info? 2).map (fun i => (i.zero, i.size, i.bytes)) = some (some (.int .i64 0), 1, 8) := by kernel_rfl
def Words (l : List Int) : Prop := ∀ x ∈ l, 0 ≤ x ∧ x < 4294967296
theorem words_at {l : List Int} (h : Words l) (i : Nat) : 0 ≤ l[i]?.getD 0 ∧ l[i]?.getD 0 < 4294967296 := by
  by_cases hi : i < l.length
  · rw [List.getElem?_eq_getElem hi]
    exact h _ (List.getElem_mem hi)
  · rw [List.getElem?_eq_none (by omega)]
    simp
theorem agg_at (l : List Int) (i : Nat) (hi : i < l.length) : (u32s l)[i]? = some (.int .u32 (l[i]?.getD 0)) := by
  simp [u32s, List.getElem?_eq_getElem hi]
theorem info65 : (Tryd.prog.info? 65).map (·.size) = some 1 := by kernel_rfl
theorem run_index66 (l : List Int) (i : Nat) (hl : l.length = 8) (hi : i < 8) (W : World) : (Instr.index 66 (.agg (u32s l)) (.int .i64 (i : Int))).run Tryd.prog W = .ok (.int .u32 (l[i]?.getD 0)) W := by
  have hx := agg_at l i (by omega)
  obtain ⟨i0, hi0, hs0⟩ := Option.map_eq_some_iff.1 info65
  have hagg : (isAgg 65).run Tryd.prog W = .ok false W := by
    unfold isAgg
    rw [Sem.run_bind, run_underlying Tryd.underlying65 W]
    rfl
  simp [Instr.index, asIntOf, run_underlying Tryd.underlying66, Sem.run_bind, sizeOf, typeInfo, hi0, hs0, part, hagg, hx, hi]
set_option maxHeartbeats 16000000 in
set_option maxRecDepth 100000 in
theorem impl_numbers.calls (l : List Int) (hl : l.length = 8) (hl2 : Words l) (w : World) : Calls Tryd.prog 44 #[.agg (u32s l)] w fun e w' => ∃ v0_ : Value, e = .returned (v0_) ∧ Kd.R (Kd.int .i64) 2 w' w.heap.size (fun _ => True) v0_ l ∧ Below w.heap.size w w' := by
  have HL := Aside0.mk hl
  have HW := Aside0.mk hl2
  clear hl hl2
  have HB := Aside0.mk (Below.refl w.heap.size w)
  go_enter Tryd.func44, Tryd.ntmps44
  go_wp2_with (first | ((with_reducible refine gate_dst (N := 1) rfl ?_); refine box_event ?hg (N := 1) ?hd (cs := u32s l) (t := 66) ?hr ?_; (case hd => rfl); (case hg => rfl); (case hr => first | (go_simp; done) | (go_simp; rfl)); intro g1 hg w1 hbox hb; have N1 := Aside0.mk (show w.heap.size ≤ g1 by rw [hg]; exact Nat.le_refl _); have n0_ := Aside0.mk (below_step HB.out hb); have B1 := Aside0.mk hbox; clear HB; have HB := n0_; clear n0_ hb hbox hg) | ((with_reducible refine gate_dst (N := 6) rfl ?_); refine wpList_load_row rfl 66 _ rfl g1 ?hx 66 (u32s l) (0, 0) _ B1.out Tryd.underlying66 rfl ?hi ?_; (case hx => rfl); (case hi => rw [size32, HL.out]; exact info66)))
  go_loopg [7, 3] 9 (fun kq v7 v3 w' => ∃ i : Nat, v7 = .int .i64 (i : Int) ∧ Aside0 (i + kq = 9) ∧ Aside0 (i ≤ 8) ∧ Aside0 (Kd.R (Kd.int .i64) 2 w' w.heap.size (fun _ => True) v3 (l.take i)) ∧ Aside0 (Below w.heap.size w w'))
  case atStart => exact ⟨0, rfl, ⟨rfl⟩, ⟨by omega⟩, ⟨Kd.R_nil _ _ _ _ _⟩, HB⟩
  case round =>
    clear HB
    obtain ⟨i, rfl, HI, HI8, HO3, HB⟩ := hrel
    cases gk with
    | zero => exact absurd HI8.out (by have := HI.out; omega)
    | succ k1 =>
      by_cases hi : (i : Int) < 8
      · have hx := run_index66 l i HL.out (by omega)
        have hw := words_at HW.out i
        obtain ⟨hw0, hw1⟩ := hw
        go_wp2_with (first | ((with_reducible refine gate_builtin (b := .append) (xs := #[.tmp 10, .tmp 13]) rfl ?_); at_builtin; refine Kd.R_append (Kd.int .i64) (w0 := w) w.heap.size rfl (.tmp 10) (.tmp 13) 22 2 (.int .i64 0) 8 rfl Tryd.underlying22 info2 rfl (by decide) (by omega) u3 (l.take i) (l[i]?.getD 0) [.int .i64 (l[i]?.getD 0)] (fun _ => True) (fun _ => False) rfl rfl ?aP (fun _ hk => hk.elim) ?aF ?aO ?aB ?aS ?aL ?_; (case aP => exact rfl); (case aB => exact (by repeat (first | (with_reducible first | exact HB.out | apply below_alloc | apply pw_below_drewN | apply below_drew1) | exact HB.out))); (case aF => exact (fun _ _ => trivial)); (case aO => exact (by (with_reducible repeat (first | apply Kd.R_alloc | apply Kd.R_drewN | apply Kd.R_drew)); exact HO3.out)); (case aS => exact (below_size (by repeat (first | (with_reducible first | exact HB.out | apply below_alloc | apply pw_below_drewN | apply below_drew1) | exact HB.out)))); (case aL => rw [List.length_take, HL.out]; omega); intro vN wN ho hb hg hat; have n0_ := Aside0.mk (hb); have n1_ := Aside0.mk (ho); clear HB; clear HO3; have HB := n0_; have HO3 := n1_; clear n0_ n1_; clear ho hb hg hat))
        go_roundg k1
        case measure => omega
        case rel =>
          refine ⟨i + 1, rfl, ⟨by have := HI.out; omega⟩, ⟨by omega⟩, ⟨?_⟩, HB⟩
          rw [List.take_add_one, List.getElem?_eq_getElem (show i < l.length by rw [HL.out]; omega)]
          have := HO3.out
          rw [List.getElem?_eq_getElem (show i < l.length by rw [HL.out]; omega)] at this
          exact this
      · have e8 : i = 8 := by have := HI8.out; omega
        subst e8
        go_wp2
        go_ret
        refine ⟨_, rfl, ?_, HB.out⟩
        have := HO3.out
        rwa [List.take_of_length_le (by rw [HL.out]; omega)] at this
def zs (l : List Int) : Nat → List Int
  | 0 => zeros8
  | i + 1 => (zs l i).set i (l[i]?.getD 0)
theorem zs_len (l : List Int) (i : Nat) : (zs l i).length = 8 := by
  induction i with
  | zero => rfl
  | succ i ih => simp [zs, ih]
theorem zs_all (l : List Int) (hl : l.length = 8) : zs l 8 = l := by
  match l, hl with
  | [a, b, c, d, e, f, g, h], _ => rfl
set_option maxHeartbeats 16000000 in
set_option maxRecDepth 100000 in
theorem impl_state.calls (A : Option Addr) (c : Nat) (l : List Int) (rest : ByteArray) (size : Int) (hl : l.length = 8) (hl2 : Words l) (w : World) (hr0 : Kd.C (Kd.int .i64) w A l.length l) : Calls Tryd.prog 56 #[.agg #[.slice A l.length c, .string rest, .int .i64 size]] w fun e w' => e = .returned (.agg (u32s l)) ∧ Below w.heap.size w w' := by
  have HL := Aside0.mk hl
  have HW := Aside0.mk hl2
  have HR0 := Aside0.mk hr0
  clear hl hl2 hr0
  have HB := Aside0.mk (Below.refl w.heap.size w)
  go_enter Tryd.func56, Tryd.ntmps56
  go_upto_region 2 with (first | ((with_reducible refine gate_dst (N := 1) rfl ?_); refine box_event ?hg (N := 1) ?hd (cs := #[.slice A l.length c, .string rest, .int .i64 size]) (t := 24) ?hr ?_; (case hd => rfl); (case hg => rfl); (case hr => first | (go_simp; done) | (go_simp; rfl)); intro g1 hg w1 hbox hb; have N1 := Aside0.mk (show w.heap.size ≤ g1 by rw [hg]; exact Nat.le_refl _); have n0_ := Aside0.mk (below_step HB.out hb); have B1 := Aside0.mk hbox; clear HB; have HB := n0_; clear n0_ hb hbox hg) | ((with_reducible refine gate_dst (N := 2) rfl ?_); refine box_event ?hg (N := 2) ?hd (cs := u32s zeros8) (t := 66) ?hr ?_; (case hd => rfl); (case hg => rfl); (case hr => first | (go_simp; done) | (go_simp; rfl)); intro g2 hg w2 hbox hb; have N2 := Aside0.mk (show g1 < g2 by rw [hg]; exact blk_lt B1.out); have n0_ := Aside0.mk (below_step HB.out hb); have n1_ := Aside0.mk (blk_below B1.out hb); have B2 := Aside0.mk hbox; clear HB B1; have HB := n0_; have B1 := n1_; clear n0_ n1_ hb hbox hg) | ((with_reducible refine gate_dst (N := 3) rfl ?_); refine box_event ?hg (N := 3) ?hd (cs := u32s zeros8) (t := 66) ?hr ?_; (case hd => rfl); (case hg => rfl); (case hr => first | (go_simp; done) | (go_simp; rfl)); intro g3 hg w3 hbox hb; have N3 := Aside0.mk (show g2 < g3 by rw [hg]; exact blk_lt B2.out); have n0_ := Aside0.mk (below_step HB.out hb); have n1_ := Aside0.mk (blk_below B1.out hb); have n2_ := Aside0.mk (blk_below B2.out hb); have B3 := Aside0.mk hbox; clear HB B1 B2; have HB := n0_; have B1 := n1_; have B2 := n2_; clear n0_ n1_ n2_ hb hbox hg))
  have hc0 := blk_cell B1.out 0
  simp only [List.getElem?_toArray, List.getElem?_cons_zero] at hc0
  have HC0 := hc0
  go_wp2
  go_loopg [9] 9 (fun kq v9 w' => ∃ i : Nat, v9 = .int .i64 (i : Int) ∧ Aside0 (i + kq = 9) ∧ Aside0 (i ≤ 8) ∧ Aside0 (w'.heap[g2]? = some (.cells (u32s zeros8) 66 (0, 0))) ∧ Aside0 (w'.heap[g3]? = some (.cells (u32s (zs l i)) 66 (0, 0))) ∧ Aside0 (Below w.heap.size w w'))
  case atStart => exact ⟨0, rfl, ⟨rfl⟩, ⟨by omega⟩, B2, B3, HB⟩
  case round =>
    clear HB B1 B2 B3 hc0 HC0
    obtain ⟨i, rfl, HI, HI8, B2, B3, HB⟩ := hrel
    cases gk with
    | zero => exact absurd HI8.out (by have := HI.out; omega)
    | succ k1 =>
      by_cases hi : (i : Int) < 8
      · have p0 : 0 ≤ (i : Int) := by omega
        have q0 : (i : Int) < (l.length : Int) := by rw [HL.out]; omega
        obtain ⟨ad0, e0, hx0⟩ := Kd.at_int HR0.out (i : Int) p0 q0
        cases e0
        replace hx0 := (HB.out.cell (World.block_lt_of_cell? w _ hx0)).trans hx0
        have hrd : rd l (i : Int) = l[i]?.getD 0 := by simp [rd, List.getD_eq_getElem?_getD]
        rw [hrd] at hx0
        simp only [Int.toNat_natCast] at hx0
        have hw := words_at HW.out i
        obtain ⟨hw0, hw1⟩ := hw
        have hc3 := cellOf B3.out i (by rw [zs_len]; omega)
        have hf3 := blk_frozen B3.out i
        go_wp2
        go_roundg k1
        case measure => omega
        case rel =>
          have n1 := N1.out
          have n2 := N2.out
          have n3 := N3.out
          refine ⟨i + 1, rfl, ⟨by have := HI.out; omega⟩, ⟨by omega⟩, ⟨?_⟩, ⟨?_⟩, ⟨?_⟩⟩
          · exact blk_far B2.out (by simp; omega) _
          · have := setOf B3.out i (l[i]?.getD 0)
            exact this
          · exact (HB.out.setCell (by simp; omega) _)
      · have e8 : i = 8 := by have := HI8.out; omega
        subst e8
        have q0 : ¬ ((8 : Int) < (l.length : Int)) := by rw [HL.out]; omega
        go_wp2_with (first | ((with_reducible refine gate_dst (N := 19) rfl ?_); refine wpList_load_row rfl 66 _ rfl g3 ?hx 66 (u32s (zs l 8)) (0, 0) _ B3.out Tryd.underlying66 rfl ?hi ?_; (case hx => rfl); (case hi => rw [size32, zs_len]; exact info66)) | ((with_reducible refine gate_store (t := 66) (p := 2) (v := .tmp 19) rfl ?_); refine wpList_store_row rfl 66 _ _ rfl g2 (u32s (zs l 8)) ?hx ?hy 66 (u32s zeros8) B2.out ?hi ?ho (ones32 _) ?_; (case hx => rfl); (case hy => rfl); (case hi => rw [size32, zs_len]; exact info66); (case ho => rw [size32, size32, zs_len]; rfl)))
        (try simp only [Exit.inBlock, Exit.then])
        have hfin := row_same B2.out (u32s (zs l 8))
        rw [zs_all l HL.out] at hfin ⊢
        refine bodyPost_ret (results_cell_row rfl _ _ g2 66 (u32s l) (0, 0) _ rfl hfin Tryd.underlying66 rfl (by rw [size32, HL.out]; exact info66)) rfl ?_
        exact ⟨rfl, row_below HB.out (by have := N1.out; have := N2.out; omega) _⟩
theorem wpStill_load_row {P : Program} {ops : Array Oper} {rest : List Oper} {o : Oper} {a : Act} {w : World} {Q : Act → Prop} (hgd : o.guard = none) (ty : TypeId) (x : Operand) (ho : o.op = .load ty x)
    (g : Nat) (hx : a.eval x = .pointer (some ⟨g, 0, none⟩)) (t : TypeId) (cs : Array Value) (fr : Nat × Nat) (d : TypeDesc) (hg : w.heap[g]? = some (.cells cs t fr))
    (hu : P.underlying ty = some d) (hd : (match d with | .struct _ | .array _ _ => true | _ => false) = true) (hi : (P.info? ty).map (·.size) = some cs.size)
    (h : wpStill P ops w Q rest (a.put o.dst (.agg cs))) : wpStill P ops w Q (o :: rest) a := by
  unfold wpStill
  rw [if_pos (by simp [Region.wanted, hgd])]
  unfold Oper.still execOp
  simp only [ho, hx, Instr.loadAt, Instr.sureAddr, Sem.run_bind, Sem.run_pure, Result.andThen_ok, run_loadVar_row w g t ty cs fr d hg hu hd hi, Oper.stillUpon_value]
  exact h
section
attribute [local go_sem] max2_int min2_int max_two min_two max_three min_three max_four min_four
end
def blks (pb : ByteArray) (l : List Int) : Nat → List Int
  | 0 => l
  | m + 1 => takenF (blks pb l m) (pb.extract (64 * m) (64 * m + 64))
theorem blks_len (pb : ByteArray) (l : List Int) (m : Nat) : (blks pb l m).length = l.length := by
  induction m with
  | zero => rfl
  | succ m ih => rw [blks, takenF_len, ih]
def q4 (x : Int) : List Int := [x / 16777216, x / 65536 % 256, x / 256 % 256, x % 256]
theorem extract_on (pb : ByteArray) (m : Nat) (h : 64 * m + 64 ≤ pb.size) : (pb.extract (64 * m) pb.size).extract 64 (pb.extract (64 * m) pb.size).size = pb.extract (64 * (m + 1)) pb.size := by
  rw [ByteArray.extract_extract, ByteArray.size_extract]
  congr 1
  omega
theorem extract_head (pb : ByteArray) (m : Nat) (h : 64 * m + 64 ≤ pb.size) : (pb.extract (64 * m) pb.size).extract 0 64 = pb.extract (64 * m) (64 * m + 64) := by
  rw [ByteArray.extract_extract]
  congr 1
  omega
theorem fs_words (S l : List Int) (i : Nat) (h : Words l) : Words (fs S l i) := by
  induction i with
  | zero => exact h
  | succ i ih =>
    intro x hx
    rw [fs] at hx
    rcases List.mem_or_eq_of_mem_set hx with hx | hx
    · exact ih x hx
    · subst hx
      omega
theorem takenF_words (l : List Int) (s : ByteArray) (h : Words l) : Words (takenF l s) := fs_words _ _ _ h
theorem blks_words (pb : ByteArray) (l : List Int) (m : Nat) (h : Words l) : Words (blks pb l m) := by
  induction m with
  | zero => exact h
  | succ m ih => exact takenF_words _ _ ih
end Go.Proofs.YtbbgahoeokffbaaDoor.Sha

/-
  What impl.packed answers: the walk of its code. Conditions: the package's tables hold what the text lays.
-/
import Derived.Test.YtbbgahoeokffbaaDoorKpPk
import Derived.Maps.Own
import Derived.Maps.OwnOps
import Derived.Maps.Views
import Derived.Maps.Keyed
namespace Go.Proofs.YtbbgahoeokffbaaDoor.Pk
open Go Go.RowKit Go.Proofs.YtbbgahoeokffbaaDoor.XFnExactPackRight Go.Proofs.YtbbgahoeokffbaaDoorW.PrintWords Go.Proofs.YtbbgahoeokffbaaDoorW.PrintLast Go.Proofs.YtbbgahoeokffbaaDoorW.PrintMore Go.Maps
set_option linter.unusedVariables false
set_option linter.unusedSimpArgs false
theorem plainElem_bool_inv {H : Type} {P : Program} {e : TypeId} (he : P.underlying e = some .bool) {v : Value} {z : DataW H × List MemPlace} (h : plainElem P e v = some z) : ∃ x, v = .bool x ∧ z = (.lit (.bool x), []) := by
  unfold plainElem at h
  rw [he] at h
  cases v <;> simp at h
  exact ⟨_, rfl, h.symm⟩
theorem wpList_lookup_own_bool {H : Type} {P : Program} (w : World) {ops : Array Oper} {rest : List Oper} {o : Oper} {a : Act} {Q : Exit → Act → World → Prop}
    (hg : o.guard = none) (m x : Operand) (t : TypeId) (hop : o.op = Op.lookup t m x false)
    (k e : TypeId) (K : Keyed P k) (ht : P.underlying t = some (.map k e)) (he : P.underlying e = some .bool) (hz : (zeroValue e).run P w = .ok (.bool false) w) (b n : Nat) (D : DataW H)
    (hm : a.eval m = .map (some b)) (hown : w.ownsMap P k (plainElem P e) b n D) (key : Value) (kl : Lit) (hx : a.eval x = key) (hkey : keyOf P k key = some kl)
    (hK : ∀ c : Bool, D.atKey kl (.lit (.bool false)) = .lit (.bool c) → wpList P ops Q rest (a.put o.dst (.bool c)) w) :
    wpList P ops Q (o :: rest) a w := by
  refine wpList_plain hg fun K' hK' => ?_
  obtain ⟨v, ps, hrun, hv⟩ := hown.lookup K ht hz (plainElem_bool he false) hkey
  obtain ⟨c, rfl, hc⟩ := plainElem_bool_inv he hv
  simp only [Prod.mk.injEq] at hc
  unfold Oper.wp
  simp [execOp, hop, hm, hx, hrun, Result.andThen]
  exact hK' _ _ (hK c hc.1)
/-- The keys that were seen. -/
def seen (ks : List (List UInt8)) : DataW Unit := ks.foldl (fun D k => D.put (.string k) (.lit (.bool true))) (.map [])
theorem seen_snoc (ks : List (List UInt8)) (k : List UInt8) : seen (ks ++ [k]) = (seen ks).put (.string k) (.lit (.bool true)) := by
  simp [seen, List.foldl_append]
theorem fold_at (k : List UInt8) (ks : List (List UInt8)) : ∀ (D : DataW Unit) (b : Bool), IsMap D → D.atKey (.string k) (.lit (.bool false)) = .lit (.bool b) →
    (ks.foldl (fun D k => D.put (.string k) (.lit (.bool true))) D).atKey (.string k) (.lit (.bool false)) = .lit (.bool (b || ks.contains k)) := by
  induction ks with
  | nil =>
    intro D b hD h
    simpa using h
  | cons q ks ih =>
    intro D b hD h
    rw [List.foldl_cons, List.contains_cons]
    by_cases e : k = q
    · subst e
      rw [ih _ true (hD.put _ _) (atKey_put_same hD (show WideAt.IsKeyLit (.string k) from trivial) _ _)]
      simp
    · have h' : (D.put (.string q) (.lit (.bool true))).atKey (.string k) (.lit (.bool false)) = .lit (.bool b) := by
        rw [atKey_put_other (fun he => e (by injection he)) _ _]
        exact h
      rw [ih _ b (hD.put _ _) h']
      have : (k == q) = false := by
        rw [beq_eq_false_iff_ne]
        exact e
      rw [this, Bool.false_or]
theorem seen_at (ks : List (List UInt8)) (k : List UInt8) : (seen ks).atKey (.string k) (.lit (.bool false)) = .lit (.bool (ks.contains k)) := by
  have := fold_at k ks (.map []) false isMap_empty rfl
  rwa [Bool.false_or] at this
theorem zero4 (w : World) : (zeroValue 4).run Tryd.prog w = .ok (.bool false) w := by kernel_rfl
theorem keyed9 : Keyed Tryd.prog 9 := string_keyed Tryd.underlying9
theorem row_grown (w : World) (g : Nat) (cs' : Array Value) : w.grownBy (w.setRow g cs') (some g) :=
  ⟨rfl, rfl, rfl, by simp [World.setRow], fun i hi hne => by
    simp [World.setRow, Array.getElem?_modify]
    intro hh
    exact absurd (by rw [hh]) hne⟩
theorem size40 : (Tryd.prog.info? 40).map (·.size) = some 2 := by kernel_rfl
set_option maxHeartbeats 4000000 in
set_option maxRecDepth 100000 in
theorem packed_calls (A0 : Option Addr) (c0 : Nat) (l : List S40) (w : World) (hr0 : Kd.C k40 w A0 l.length l) (hc0 : l.length ≤ c0) (hG : Sha.Glob w) :
    Calls Tryd.prog 70 #[.slice A0 l.length c0] w fun e w' => e = .returned (.tuple #[.string (packF l).1, .bool (packF l).2]) ∧ Below w.heap.size w w' := by
  have HR0 := Aside0.mk hr0
  have HC0 := Aside0.mk hc0
  have HG := Aside0.mk hG
  clear hr0 hc0 hG
  have HB := Aside0.mk (Below.refl w.heap.size w)
  have hmm := @run_makeMap Tryd.prog
  have hu40 := Tryd.underlying40
  by_cases hs : 1 ≤ l.length ∧ l.length ≤ 40
  · have hwi : impl_within.f (l.length : Int) 1 40 = some true := by
      unfold impl_within.f
      rw [if_pos (by omega), decide_eq_true (by omega)]
    have HW := Aside0.mk hwi
    have HP := Aside0.mk (show packF l = packG l [] ⟨#[]⟩ from if_pos hs)
    have HS := Aside0.mk hs
    clear hwi hs
    go_enter Tryd.func70, Tryd.ntmps70
    go_wp2_with (fail)
    go_at_call 84
    refine (impl_Blob.calls A0 c0 l (l.length : Int) _ HR0.out HC0.out rfl).mono ?_
    rintro e w1 ⟨rfl, ⟨nd, rfl⟩⟩
    go_wp2_with (fail)
    go_at_call 75
    refine (impl_within.calls (l.length : Int) 1 40 true _ HW.out).mono ?_
    rintro e w1 ⟨rfl, ⟨nd2, rfl⟩⟩
    go_wp2
    have hlt7 : ∀ W : World, World.ownsMap W Tryd.prog 9 (plainElem (H := Unit) Tryd.prog 4) w.heap.size 0 (seen []) → True := fun _ _ => trivial
    clear hlt7
    have HM := Aside0.mk (World.ownsMap_made (H := Unit) (w.drewN (nd + nd2)) Tryd.prog 9 (plainElem Tryd.prog 4))
    go_loopg [15, 5] (l.length + 1) (fun kq v15 v5 w' => ∃ (i : Nat) (ks : List (List UInt8)) (out : ByteArray), v15 = .int .i64 (i : Int) ∧ v5 = .string out ∧ Aside0 (i + kq = l.length + 1) ∧ Aside0 (i ≤ l.length) ∧ Aside0 (out.size ≤ 2100 * i) ∧ Aside0 (packG (l.drop i) ks out = packF l) ∧ Aside0 (w'.ownsMap Tryd.prog 9 (plainElem Tryd.prog 4) w.heap.size i (seen ks)) ∧ Aside0 (Below w.heap.size w w'))
    case atStart => exact ⟨0, [], ⟨#[]⟩, rfl, rfl, ⟨by omega⟩, ⟨by omega⟩, ⟨by show (0 : Nat) ≤ _; omega⟩, ⟨by rw [List.drop_zero]; exact HP.out.symm⟩, HM, ⟨by repeat (first | (with_reducible first | exact HB.out | apply below_alloc | apply pw_below_drewN | apply below_drew1) | exact HB.out)⟩⟩
    case round =>
      clear HB HM
      obtain ⟨i, ks, out, rfl, rfl, HI, HI2, HO, HPK, HM, HB⟩ := hrel
      cases gk with
      | zero => exact absurd HI2.out (by have := HI.out; omega)
      | succ k1 =>
        by_cases hi : (i : Int) < (l.length : Int)
        · have hi' : i < l.length := by omega
          have p0 : 0 ≤ (i : Int) := by omega
          obtain ⟨ad0, e0, hx0, hx1⟩ := at_T40 HR0.out (i : Int) p0 hi
          cases e0
          replace hx0 := (HB.out.cell (World.block_lt_of_cell? w _ hx0)).trans hx0
          replace hx1 := (HB.out.cell (World.block_lt_of_cell? w _ hx1)).trans hx1
          rw [rd40 l i hi'] at hx0 hx1
          simp only [Int.toNat_natCast] at hx0 hx1
          have hpk := HPK.out
          rw [List.drop_eq_getElem_cons hi', packG] at hpk
          generalize l[i] = x at hx0 hx1 hpk
          have HPK2 := Aside0.mk hpk
          clear hpk HPK
          go_wp2_with (first | ((with_reducible refine gate_dst (N := 7) rfl ?_); refine box_event ?hg (N := 7) ?hd (cs := #[.int .i64 0, .string ⟨#[]⟩]) (t := 40) ?hr ?_; (case hd => rfl); (case hg => rfl); (case hr => first | (go_simp; done) | (go_simp; rfl)); intro g7 hg w7 hbox hb; have N7 := Aside0.mk (show w.heap.size < g7 by rw [hg]; exact HM.out.lt); have n0_ := Aside0.mk (below_step HB.out hb); have n1_ := Aside0.mk (HM.out.kept (grown_of_below hb none) (by simp)); have B7 := Aside0.mk hbox; clear HB HM; have HB := n0_; have HM := n1_; clear n0_ n1_ hb hbox hg) | ((with_reducible refine gate_store (t := 40) (p := 7) (v := .tmp 18) rfl ?_); refine wpList_store_row rfl 40 _ _ rfl g7 #[.int .i64 x.f0, .string x.f1] ?hx ?hy 40 #[.int .i64 0, .string ⟨#[]⟩] B7.out ?hi rfl ?h1 ?_; (case hx => rfl); (case hy => rfl); (case hi => exact size40); (case h1 => simp [Value.oneCell']); have n0_ := Aside0.mk (Sha.row_same B7.out #[.int .i64 x.f0, .string x.f1]); have n1_ := Aside0.mk (Sha.row_below HB.out (Nat.le_of_lt N7.out) #[.int .i64 x.f0, .string x.f1]); have n2_ := Aside0.mk (HM.out.kept (row_grown _ g7 #[.int .i64 x.f0, .string x.f1]) (fun e => Nat.lt_irrefl _ (by have h_ := N7.out; rw [Option.some.inj e] at h_; exact h_))); clear B7 HB HM; have B7 := n0_; have HB := n1_; have HM := n2_; clear n0_ n1_ n2_) | ((with_reducible refine gate_dst (N := 19) rfl ?_); refine wpList_load_row rfl 40 _ rfl g7 ?hx 40 #[.int .i64 x.f0, .string x.f1] (0, 0) _ B7.out Tryd.underlying40 rfl ?hi ?_; (case hx => rfl); (case hi => exact size40)))
          go_at_call 64
          refine (right_calls x.f0 x.f1 _).mono ?_
          rintro e w9 ⟨rfl, hb⟩
          have n0_ := Aside0.mk (below_step HB.out hb)
          have n1_ := Aside0.mk (HM.out.kept (grown_of_below hb none) (by simp))
          have n2_ := Aside0.mk (blk_below B7.out hb)
          clear HB HM B7 hb
          have HB := n0_
          have HM := n1_
          have B7 := n2_
          clear n0_ n1_ n2_
          by_cases hr : right x.f0 x.f1 = true
          · have hpk := HPK2.out
            rw [if_pos hr] at hpk
            have HPK3 := Aside0.mk hpk
            clear hpk HPK2
            have HR := Aside0.mk hr
            rw [hr]
            clear hr
            go_wp2_with (first | ((with_reducible refine gate_dst (N := 24) rfl ?_); (refine gate_guard (by rfl) ?_; dsimp only); refine wpList_load_row rfl 40 _ rfl g7 ?hx 40 #[.int .i64 x.f0, .string x.f1] (0, 0) _ B7.out Tryd.underlying40 rfl ?hi ?_; (case hx => rfl); (case hi => exact size40)))
            go_at_call 65
            refine (key_calls x.f0 x.f1 HR.out _ (Sha.Glob_below HG.out HB.out)).mono ?_
            rintro e w9 ⟨rfl, hb⟩
            have n0_ := Aside0.mk (below_step HB.out hb)
            have n1_ := Aside0.mk (HM.out.kept (grown_of_below hb none) (by simp))
            have n2_ := Aside0.mk (blk_below B7.out hb)
            clear HB HM B7 hb
            have HB := n0_
            have HM := n1_
            have B7 := n2_
            clear n0_ n1_ n2_
            have HKY : Aside0 (keyOf Tryd.prog 9 (.string (keyF x.f0 x.f1)) = some (.string (keyF x.f0 x.f1).data.toList)) := ⟨WideMaps.keyOf_string_mk Tryd.underlying9 (by rw [keyF_size]; unfold maxLen; omega)⟩
            by_cases hc : ks.contains (keyF x.f0 x.f1).data.toList = true
            · have hpk := HPK3.out
              rw [if_pos hc] at hpk
              have HC := Aside0.mk hc
              clear hc HPK3
              go_wp2_with (first | ((with_reducible refine gate_dst (N := 26) rfl ?_); (refine gate_guard (by rfl) ?_; dsimp only); refine wpList_lookup_own_bool (H := Unit) _ rfl _ _ 97 rfl 9 4 keyed9 Tryd.underlying97 Tryd.underlying4 (zero4 _) w.heap.size i (seen ks) rfl HM.out (.string (keyF x.f0 x.f1)) (.string (keyF x.f0 x.f1).data.toList) rfl HKY.out ?_; intro cb hcb; rw [seen_at, HC.out] at hcb; obtain rfl : true = cb := (by injection hcb with hcb; injection hcb); clear hcb))
              go_ret2
              rw [← hpk]
              exact ⟨rfl, HB.out⟩
            · have hpk := HPK3.out
              rw [if_neg hc] at hpk
              have HPK4 := Aside0.mk hpk
              clear hpk HPK3
              have HC := Aside0.mk (Bool.eq_false_iff.mpr hc)
              clear hc
              go_wp2_with (first | ((with_reducible refine gate_dst (N := 26) rfl ?_); (refine gate_guard (by rfl) ?_; dsimp only); refine wpList_lookup_own_bool (H := Unit) _ rfl _ _ 97 rfl 9 4 keyed9 Tryd.underlying97 Tryd.underlying4 (zero4 _) w.heap.size i (seen ks) rfl HM.out (.string (keyF x.f0 x.f1)) (.string (keyF x.f0 x.f1).data.toList) rfl HKY.out ?_; intro cb hcb; rw [seen_at, HC.out] at hcb; obtain rfl : false = cb := (by injection hcb with hcb; injection hcb); clear hcb) | ((with_reducible refine gate_dst (N := 29) rfl ?_); refine wpList_load_row rfl 40 _ rfl g7 ?hx 40 #[.int .i64 x.f0, .string x.f1] (0, 0) _ B7.out Tryd.underlying40 rfl ?hi ?_; (case hx => rfl); (case hi => exact size40)))
              go_at_call 65
              refine (key_calls x.f0 x.f1 HR.out _ (Sha.Glob_below HG.out HB.out)).mono ?_
              rintro e w9 ⟨rfl, hb⟩
              have n0_ := Aside0.mk (below_step HB.out hb)
              have n1_ := Aside0.mk (HM.out.kept (grown_of_below hb none) (by simp))
              have n2_ := Aside0.mk (blk_below B7.out hb)
              clear HB HM B7 hb
              have HB := n0_
              have HM := n1_
              have B7 := n2_
              clear n0_ n1_ n2_
              go_wp2_with (first | (at_mapUpdate; refine wpList_mapUpdate_own _ rfl _ _ _ 97 rfl 9 4 keyed9 Tryd.underlying97 (plainElem (H := Unit) Tryd.prog 4) w.heap.size i (seen ks) rfl HM.out (by have := HI2.out; have := HS.out; unfold maxLen; omega) _ _ _ rfl rfl HKY.out _ [] (plainElem_bool Tryd.underlying4 true) ?_; intro w10 hm10 hg10; rw [← seen_snoc] at hm10; have n0_ := Aside0.mk (HB.out.grown hg10 (below_size HB.out) (fun k hk => by cases hk; exact Nat.le_refl _)); have n1_ := Aside0.mk hm10; have n2_ := Aside0.mk (blk_grown B7.out hg10 (fun e => Nat.lt_irrefl _ (by have h_ := N7.out; rw [Option.some.inj e] at h_; exact h_))); clear HB HM B7 hm10 hg10; have HB := n0_; have HM := n1_; have B7 := n2_; clear n0_ n1_ n2_) | ((with_reducible refine gate_dst (N := 32) rfl ?_); refine wpList_load_row rfl 40 _ rfl g7 ?hx 40 #[.int .i64 x.f0, .string x.f1] (0, 0) _ B7.out Tryd.underlying40 rfl ?hi ?_; (case hx => rfl); (case hi => exact size40)))
              go_at_call 85
              refine (rec_calls x.f0 x.f1 HR.out _ (Sha.Glob_below HG.out HB.out)).mono ?_
              rintro e w9 ⟨rfl, hb⟩
              have n0_ := Aside0.mk (below_step HB.out hb)
              have n1_ := Aside0.mk (HM.out.kept (grown_of_below hb none) (by simp))
              have n2_ := Aside0.mk (blk_below B7.out hb)
              clear HB HM B7 hb
              have HB := n0_
              have HM := n1_
              have B7 := n2_
              clear n0_ n1_ n2_
              have hrs := recF_size x.f0 x.f1 HR.out
              generalize hrc : recF x.f0 x.f1 = rc at hrs
              have HRC := Aside0.mk hrc
              clear hrc
              have hsum : out.size + rc.size ≤ 9223372036854775807 := by
                have := HO.out
                have := HS.out
                omega
              have hi40 : (i : Int) ≤ 40 := by
                have := HS.out
                omega
              have HRS := Aside0.mk hrs
              clear hrs
              go_wp2
              clear hsum
              go_roundg k1
              case measure => omega
              case rel =>
                refine ⟨i + 1, ks ++ [(keyF x.f0 x.f1).data.toList], out ++ rc, rfl, rfl, ⟨by have := HI.out; omega⟩, ⟨by omega⟩, ⟨?_⟩, ⟨?_⟩, HM, HB⟩
                · rw [ByteArray.size_append]
                  have := HO.out
                  have := HRS.out
                  omega
                · rw [← HPK4.out, HRC.out]
          · have hpk := HPK2.out
            rw [if_neg hr] at hpk
            rw [Bool.eq_false_iff.mpr hr]
            clear hr HPK2
            go_wp2
            go_ret2
            rw [← hpk]
            exact ⟨rfl, HB.out⟩
        · have e : i = l.length := by have := HI2.out; omega
          subst e
          have hpk := HPK.out
          rw [List.drop_of_length_le (Nat.le_refl _), packG] at hpk
          clear HPK
          go_wp2
          go_ret2
          rw [← hpk]
          exact ⟨rfl, HB.out⟩
  · have hwi : impl_within.f (l.length : Int) 1 40 = some false := by
      unfold impl_within.f
      by_cases h : (l.length : Int) ≥ 1
      · rw [if_pos h, decide_eq_false (by omega)]
      · rw [if_neg h]
    have HW := Aside0.mk hwi
    have HP := Aside0.mk (show packF l = ((⟨#[]⟩ : ByteArray), false) from if_neg hs)
    clear hwi hs
    go_enter Tryd.func70, Tryd.ntmps70
    go_wp2_with (fail)
    go_at_call 84
    refine (impl_Blob.calls A0 c0 l (l.length : Int) _ HR0.out HC0.out rfl).mono ?_
    rintro e w1 ⟨rfl, ⟨nd, rfl⟩⟩
    go_wp2_with (fail)
    go_at_call 75
    refine (impl_within.calls (l.length : Int) 1 40 false _ HW.out).mono ?_
    rintro e w1 ⟨rfl, ⟨nd2, rfl⟩⟩
    go_wp2
    go_ret2
    rw [HP.out]
    exact ⟨rfl, by repeat (first | (with_reducible first | exact HB.out | apply below_alloc | apply pw_below_drewN | apply below_drew1) | exact HB.out)⟩
/-- A row of elements read in another kind's words. -/
theorem C_map {α β : Type} {d : Kd α} {d' : Kd β} (f : α → β) (hs : d.sz = d'.sz) (hK : ∀ w x cs, d.K w x cs → d'.K w (f x) cs) {w : World} {A : Option Addr} {n : Nat} {l : List α} (h : d.C w A n l) : d'.C w A n (l.map f) := by
  refine ⟨by rw [List.length_map]; exact h.1, h.2.1, fun hn => ?_⟩
  obtain ⟨ad, e, hc⟩ := h.2.2 hn
  refine ⟨ad, e, fun j p hj => ?_⟩
  rw [List.getElem?_map] at hj
  obtain ⟨q, hq, rfl⟩ := Option.map_eq_some_iff.1 hj
  obtain ⟨c, h1, h2, h3⟩ := hc j q hq
  exact ⟨c, by rw [← hs]; exact h1, hK _ _ _ h2, by rw [← hs]; exact h3⟩
theorem pack_spec_calls (A0 : Option Addr) (c0 : Nat) (l : List S40) (hl : l.length ≤ 1000000000) (w : World) (hr0 : Kd.C k40 w A0 l.length l) (hc0 : l.length ≤ c0) :
    Calls Tryd.prog 69 #[.slice A0 l.length c0] w fun e w' => e = .returned (.tuple #[.string (packF l).1, .bool (packF l).2]) ∧ Below w.heap.size w w' :=
  spec_l07Pack.calls 200 A0 c0 l _ _ w hr0 hc0 (pack_spec l hl 200 (Nat.le_refl _))
end Go.Proofs.YtbbgahoeokffbaaDoor.Pk

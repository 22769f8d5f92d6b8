/- Plain functions of what the law reaches, proofs that the calls come to them, and the law's row: written by a program of this session (xprint.py) over the kit's print. No conditions beyond each lemma's own. -/
import Derived.Test.YtlololbhlnapkaaKmCy
import Derived.Test.YtlololbhlnapkaaKmXFnMatrixx0
import Derived.Test.YtlololbhlnapkaaKmXFnMatrixx9
namespace Go.Proofs.Ytlololbhlnapkaa.XFnMatrix
open Go.RowKit Go.Proofs.YtlololbhlnapkaaW.PrintWords Go.Proofs.YtlololbhlnapkaaW.PrintLast Go.Proofs.YtlololbhlnapkaaW.PrintMore
attribute [local go_sem] max2_int min2_int max_two min_two max_three min_three max_four min_four   -- for this text's walks alone
set_option linter.unusedVariables false
set_option linter.unusedSimpArgs false
def spec_l01Src_n.f (s0_0 : List Int) (s0_1 : Int) (s0_2 : Int) (s0_3 : Int) (a1 : Int) : Option (Int × Int × Int × Int) := if a1 ≤ 1 then (some (0, s0_1, s0_2, s0_3)) else (if s0_1 < (s0_0.length : Int) then (if 0 ≤ s0_1 then (if (IntKind.u64.wrap (a1)) = 0 then (none) else (some (wrap64 (Int.tmod (IntKind.u64.wrap ((IntKind.u64.wrap (rd s0_0 s0_1)) + ((Go.bits .xor .u64 (Go.bits .xor .u64 (Go.bits .xor .u64 s0_2 (IntKind.u64.wrap (s0_2 * 8192))) ((Go.bits .xor .u64 s0_2 (IntKind.u64.wrap (s0_2 * 8192))) / 128)) (IntKind.u64.wrap ((Go.bits .xor .u64 (Go.bits .xor .u64 s0_2 (IntKind.u64.wrap (s0_2 * 8192))) ((Go.bits .xor .u64 s0_2 (IntKind.u64.wrap (s0_2 * 8192))) / 128)) * 131072))) / 1048576))) (IntKind.u64.wrap (a1))), wrap64 (s0_1 + 1), Go.bits .xor .u64 (Go.bits .xor .u64 (Go.bits .xor .u64 s0_2 (IntKind.u64.wrap (s0_2 * 8192))) ((Go.bits .xor .u64 s0_2 (IntKind.u64.wrap (s0_2 * 8192))) / 128)) (IntKind.u64.wrap ((Go.bits .xor .u64 (Go.bits .xor .u64 s0_2 (IntKind.u64.wrap (s0_2 * 8192))) ((Go.bits .xor .u64 s0_2 (IntKind.u64.wrap (s0_2 * 8192))) / 128)) * 131072)), s0_3))) else (none)) else (if (IntKind.u64.wrap (a1)) = 0 then (none) else (some (wrap64 (Int.tmod (IntKind.u64.wrap (0 + ((Go.bits .xor .u64 (Go.bits .xor .u64 (Go.bits .xor .u64 s0_2 (IntKind.u64.wrap (s0_2 * 8192))) ((Go.bits .xor .u64 s0_2 (IntKind.u64.wrap (s0_2 * 8192))) / 128)) (IntKind.u64.wrap ((Go.bits .xor .u64 (Go.bits .xor .u64 s0_2 (IntKind.u64.wrap (s0_2 * 8192))) ((Go.bits .xor .u64 s0_2 (IntKind.u64.wrap (s0_2 * 8192))) / 128)) * 131072))) / 1048576))) (IntKind.u64.wrap (a1))), s0_1, Go.bits .xor .u64 (Go.bits .xor .u64 (Go.bits .xor .u64 s0_2 (IntKind.u64.wrap (s0_2 * 8192))) ((Go.bits .xor .u64 s0_2 (IntKind.u64.wrap (s0_2 * 8192))) / 128)) (IntKind.u64.wrap ((Go.bits .xor .u64 (Go.bits .xor .u64 s0_2 (IntKind.u64.wrap (s0_2 * 8192))) ((Go.bits .xor .u64 s0_2 (IntKind.u64.wrap (s0_2 * 8192))) / 128)) * 131072)), s0_3))))
def nd.T4 : Bool × List (List Nat × List Nat) := (true, [([], []), ([0], [0]), ([1], [1]), ([2], [2]), ([], []), ([4], [4]), ([5], [5]), ([6], [6]), ([7], [7]), ([3, 8], [3, 8])])
def nd.B4 : List Nat := [0, 1, 3, 7, 0, 16, 48, 112, 240, 511]
theorem nd.tab4 : rtab .any (opsOf Try.f73 4) = nd.T4 := by kernel_rfl
theorem nd.bits4 : waitsOk nd.T4.2 nd.B4 = true := by kernel_rfl
def nd.T5 : Bool × List (List Nat × List Nat) := (true, [([], []), ([0], [0]), ([1], [1]), ([2], [2]), ([], []), ([4], [4]), ([5], [5]), ([6], [6]), ([3, 7], [3, 7]), ([8], [8]), ([9], [9]), ([10, 0, 1, 2, 3, 4, 5, 6, 7, 8, 9, 10], [10])])
def nd.B5 : List Nat := [0, 1, 3, 7, 0, 16, 48, 112, 255, 511, 1023, 2047]
theorem nd.tab5 : rtab .any (opsOf Try.f73 5) = nd.T5 := by kernel_rfl
theorem nd.bits5 : waitsOk nd.T5.2 nd.B5 = true := by kernel_rfl
def nd.T7 : Bool × List (List Nat × List Nat) := (true, [([], []), ([], []), ([1], [1]), ([2], [2]), ([3], [3]), ([], []), ([5], [5]), ([6], [6]), ([7], [7]), ([8], [8]), ([4, 9], [4, 9]), ([0, 0, 1, 2, 3, 4, 5, 6, 7, 8, 9, 10], [0]), ([11, 0, 1, 2, 3, 4, 5, 6, 7, 8, 9, 10], [11]), ([12, 10, 0, 1, 2, 3, 4, 5, 6, 7, 8, 9, 10], [10, 12])])
def nd.B7 : List Nat := [0, 0, 2, 6, 14, 0, 32, 96, 224, 480, 1022, 2047, 4095, 8191]
theorem nd.tab7 : rtab .any (opsOf Try.f73 7) = nd.T7 := by kernel_rfl
theorem nd.bits7 : waitsOk nd.T7.2 nd.B7 = true := by kernel_rfl
def nd.T8 : Bool × List (List Nat × List Nat) := (true, [([], []), ([], []), ([1], [1]), ([2], [2]), ([3], [3]), ([], []), ([5], [5]), ([6], [6]), ([7], [7]), ([8], [8]), ([4, 9], [4, 9]), ([0, 0, 1, 2, 3, 4, 5, 6, 7, 8, 9, 10], [0]), ([11, 0, 1, 2, 3, 4, 5, 6, 7, 8, 9, 10], [11]), ([12, 10, 0, 1, 2, 3, 4, 5, 6, 7, 8, 9, 10], [10, 12])])
def nd.B8 : List Nat := [0, 0, 2, 6, 14, 0, 32, 96, 224, 480, 1022, 2047, 4095, 8191]
theorem nd.tab8 : rtab .any (opsOf Try.f73 8) = nd.T8 := by kernel_rfl
theorem nd.bits8 : waitsOk nd.T8.2 nd.B8 = true := by kernel_rfl
def nd.T9 : Bool × List (List Nat × List Nat) := (true, [([], []), ([], []), ([1], [1]), ([2], [2]), ([3], [3]), ([], []), ([5], [5]), ([6], [6]), ([7], [7]), ([8], [8]), ([4, 9], [4, 9]), ([0, 0, 1, 2, 3, 4, 5, 6, 7, 8, 9, 10], [0]), ([11, 0, 1, 2, 3, 4, 5, 6, 7, 8, 9, 10], [11]), ([12, 10, 0, 1, 2, 3, 4, 5, 6, 7, 8, 9, 10], [10, 12])])
def nd.B9 : List Nat := [0, 0, 2, 6, 14, 0, 32, 96, 224, 480, 1022, 2047, 4095, 8191]
theorem nd.tab9 : rtab .any (opsOf Try.f73 9) = nd.T9 := by kernel_rfl
theorem nd.bits9 : waitsOk nd.T9.2 nd.B9 = true := by kernel_rfl
set_option maxHeartbeats 8000000 in
set_option maxRecDepth 100000 in
theorem spec_l01Src_n.calls (g : Nat) (s0_0 : List Int) (s0_1 : Int) (s0_2 : Int) (s0_3 : Int) (a1 : Int) (r1 : Int) (r2 : Int) (r3 : Int) (r4 : Int) (w0 w : World) (hI : IsS128 w0 w g s0_0 s0_1 s0_2 s0_3) (hB : Below w0.heap.size w0 w) (h : spec_l01Src_n.f s0_0 s0_1 s0_2 s0_3 a1 = some (r1, r2, r3, r4)) :
  Calls Try.prog 73 #[.pointer (some ⟨g, 0, none⟩), .int .i64 a1] w fun e w' => e = .returned (.int .i64 r1) ∧ IsS128 w0 w' g s0_0 r2 r3 r4 ∧ Below w0.heap.size w0 w' ∧ KeepBut w w' g none := by
 have HI0 := Aside0.mk hI
 have HK := Aside0.mk (KeepBut.refl w g none)
 have HL := Aside0.mk hB.size
 clear hI
 have HW0 := Aside0.mk hB.size
 have HB := Aside0.mk hB
 clear hB
 have H : (if a1 ≤ 1 then (some (0, s0_1, s0_2, s0_3)) else (if s0_1 < (s0_0.length : Int) then (if 0 ≤ s0_1 then (if (IntKind.u64.wrap (a1)) = 0 then (none) else (some (wrap64 (Int.tmod (IntKind.u64.wrap ((IntKind.u64.wrap (rd s0_0 s0_1)) + ((Go.bits .xor .u64 (Go.bits .xor .u64 (Go.bits .xor .u64 s0_2 (IntKind.u64.wrap (s0_2 * 8192))) ((Go.bits .xor .u64 s0_2 (IntKind.u64.wrap (s0_2 * 8192))) / 128)) (IntKind.u64.wrap ((Go.bits .xor .u64 (Go.bits .xor .u64 s0_2 (IntKind.u64.wrap (s0_2 * 8192))) ((Go.bits .xor .u64 s0_2 (IntKind.u64.wrap (s0_2 * 8192))) / 128)) * 131072))) / 1048576))) (IntKind.u64.wrap (a1))), wrap64 (s0_1 + 1), Go.bits .xor .u64 (Go.bits .xor .u64 (Go.bits .xor .u64 s0_2 (IntKind.u64.wrap (s0_2 * 8192))) ((Go.bits .xor .u64 s0_2 (IntKind.u64.wrap (s0_2 * 8192))) / 128)) (IntKind.u64.wrap ((Go.bits .xor .u64 (Go.bits .xor .u64 s0_2 (IntKind.u64.wrap (s0_2 * 8192))) ((Go.bits .xor .u64 s0_2 (IntKind.u64.wrap (s0_2 * 8192))) / 128)) * 131072)), s0_3))) else (none)) else (if (IntKind.u64.wrap (a1)) = 0 then (none) else (some (wrap64 (Int.tmod (IntKind.u64.wrap (0 + ((Go.bits .xor .u64 (Go.bits .xor .u64 (Go.bits .xor .u64 s0_2 (IntKind.u64.wrap (s0_2 * 8192))) ((Go.bits .xor .u64 s0_2 (IntKind.u64.wrap (s0_2 * 8192))) / 128)) (IntKind.u64.wrap ((Go.bits .xor .u64 (Go.bits .xor .u64 s0_2 (IntKind.u64.wrap (s0_2 * 8192))) ((Go.bits .xor .u64 s0_2 (IntKind.u64.wrap (s0_2 * 8192))) / 128)) * 131072))) / 1048576))) (IntKind.u64.wrap (a1))), s0_1, Go.bits .xor .u64 (Go.bits .xor .u64 (Go.bits .xor .u64 s0_2 (IntKind.u64.wrap (s0_2 * 8192))) ((Go.bits .xor .u64 s0_2 (IntKind.u64.wrap (s0_2 * 8192))) / 128)) (IntKind.u64.wrap ((Go.bits .xor .u64 (Go.bits .xor .u64 s0_2 (IntKind.u64.wrap (s0_2 * 8192))) ((Go.bits .xor .u64 s0_2 (IntKind.u64.wrap (s0_2 * 8192))) / 128)) * 131072)), s0_3))))) = some (r1, r2, r3, r4) := h
 clear h
 by_cases c3 : a1 ≤ 1
 ·rw [if_pos c3] at H
  have c3b0 : decide (a1 ≤ 1) = true := decide_eq_true c3
  clear c3
  simp only [Option.some.injEq, Prod.mk.injEq] at H
  obtain ⟨rfl, rfl, rfl, rfl⟩ := H
  go_enter Try.func73, Try.ntmps73
  go_wp2
  go_ret
  exact ⟨by first | rfl | (simp [errW_none, errW_some] <;> rfl) | (simp [*, errW_none, errW_some] <;> rfl), by repeat (first | (with_reducible first | exact HI0.out | apply IsS128.alloc | apply IsS128.drewN | apply IsS128.drew | apply IsS128.set_1 | apply IsS128.set_2 | apply IsS128.set_3) | exact HI0.out), by repeat (first | (with_reducible first | exact HB.out | apply below_alloc | apply pw_below_drewN | apply below_drew1 | refine below_set ?_ (IsS128.ge HI0.out)) | exact HB.out), by repeat (first | (with_reducible first | exact HK.out | apply KeepBut.set_ | apply keep_drewN | apply keep_drew | apply keep_alloc) | exact HK.out)⟩
 ·rw [if_neg c3] at H
  have c3b0 : decide (a1 ≤ 1) = false := decide_eq_false c3
  clear c3
  by_cases c4 : s0_1 < (s0_0.length : Int)
  ·rw [if_pos c4] at H
   have c4b0 : decide (s0_1 < (s0_0.length : Int)) = true := decide_eq_true c4
   clear c4
   by_cases c5 : 0 ≤ s0_1
   ·rw [if_pos c5] at H
    have c5b0 : decide (0 ≤ s0_1) = true := decide_eq_true c5
    clear c5
    by_cases c6 : (IntKind.u64.wrap (a1)) = 0
    ·rw [if_pos c6] at H
     exact absurd H (by simp)
    ·rw [if_neg c6] at H
     have c6b0 : ((IntKind.u64.wrap (a1)) == 0) = false := beq_eq_false_iff_ne.mpr c6
     have c6b1 : ((IntKind.u64.wrap (a1)) != 0) = true := bne_iff_ne.mpr c6
     simp only [Option.some.injEq, Prod.mk.injEq] at H
     obtain ⟨rfl, rfl, rfl, rfl⟩ := H
     obtain ⟨A0, cS, HG0, hge, HS⟩ := HI0.out
     have HG := Aside0.mk HG0
     clear HG0
     have p1 : 0 ≤ s0_1 := of_decide_eq_true (by first | (with_reducible assumption) | assumption)
     have q1 : s0_1 < (s0_0.length : Int) := of_decide_eq_true (by first | (with_reducible assumption) | assumption)
     obtain ⟨ad, ead, hx⟩ := Kd.at_int HS s0_1 p1 q1
     cases ead
     have HX := Aside0.mk (pw_cell_below HB.out hx)
     clear hx
     have p1e := eq_true p1
     have q1e := eq_true q1
     clear p1 q1
     have HSA := Aside0.mk HS
     clear HS
     go_enter Try.func73, Try.ntmps73
     go_wp2
     have h0_ := cellS128_0 HG.out
     have h1_ := cellS128_1 HG.out
     have h2_ := cellS128_2 HG.out
     have f1_ := blk_frozen HG.out 1
     have f2_ := blk_frozen HG.out 2
     refine start_ (n := 10) (S := fun w' => w'.cell? ⟨g, 0, none⟩ = some (.slice (some ad) s0_0.length cS) ∧ w'.cell? ⟨g, 1, none⟩ = some (.int .i64 s0_1)) (ds := []) #[false, false, false, false, false, false, false, false, false, false] (by kernel_rfl) rfl rfl ⟨h0_, h1_⟩ (fun hHeld => ?_); refine with_tabW nd.tab4 nd.bits4 (fun HT_ HW_ => ?_)
     replace HG := Aside0.mk (show w.drew.heap[g]? = some (.cells #[.slice (some ad) s0_0.length cS, .int .i64 s0_1, .int .u64 s0_2, .int .i64 s0_3] 128 (0, 0)) from HG.out)
     replace HB := Aside0.mk (below_drew1 HB.out)
     replace HK := Aside0.mk (keep_drew HK.out)
     replace HX := Aside0.mk (show w.drew.cell? (ad.add s0_1.toNat) = some (.int .u8 (rd s0_0 s0_1)) from HX.out)
     clear h0_ h1_ h2_ f1_ f2_
     generalize w.drew = w1 at HG HB HK HX hHeld ⊢
     refine Cy.pu 0 8 HT_ ?_
     refine Cy.pu 1 9 HT_ ?_
     refine Cy.pu 2 10 HT_ ?_
     refine Cy.tk 3 11 HT_ HW_ hHeld ?_
     refine Cy.pu 4 12 HT_ ?_
     refine Cy.pu 5 13 HT_ ?_
     refine Cy.pu 6 14 HT_ ?_
     refine Cy.tk 7 15 HT_ HW_ hHeld ?_
     refine Cy.pu 8 16 HT_ ?_
     refine Cy.pu 9 17 HT_ ?_
     refine done_ (done_of HT_.out (by kernel_rfl)) ?_
     clear HT_ HW_ hHeld
     try go_wp2
     have h0_ := cellS128_0 HG.out
     have h1_ := cellS128_1 HG.out
     have h2_ := cellS128_2 HG.out
     have f1_ := blk_frozen HG.out 1
     have f2_ := blk_frozen HG.out 2
     have hx_ := HX.out
     refine start_ (n := 12) (S := fun w' => w'.cell? ⟨g, 0, none⟩ = some (.slice (some ad) s0_0.length cS) ∧ w'.cell? ⟨g, 1, none⟩ = some (.int .i64 s0_1) ∧ w'.cell? (ad.add s0_1.toNat) = some (.int .u8 (rd s0_0 s0_1))) (ds := []) #[false, false, false, false, false, false, false, false, false, false, false, false] (by kernel_rfl) rfl rfl ⟨h0_, h1_, hx_⟩ (fun hHeld => ?_); refine with_tabW nd.tab5 nd.bits5 (fun HT_ HW_ => ?_)
     clear hx_
     replace HG := Aside0.mk (show w1.drew.heap[g]? = some (.cells #[.slice (some ad) s0_0.length cS, .int .i64 s0_1, .int .u64 s0_2, .int .i64 s0_3] 128 (0, 0)) from HG.out)
     replace HB := Aside0.mk (below_drew1 HB.out)
     replace HK := Aside0.mk (keep_drew HK.out)
     replace HX := Aside0.mk (show w1.drew.cell? (ad.add s0_1.toNat) = some (.int .u8 (rd s0_0 s0_1)) from HX.out)
     clear h0_ h1_ h2_ f1_ f2_
     generalize w1.drew = w2 at HG HB HK HX hHeld ⊢
     refine Cy.pu 0 18 HT_ ?_
     refine Cy.pu 1 19 HT_ ?_
     refine Cy.pu 2 20 HT_ ?_
     refine Cy.tk 3 21 HT_ HW_ hHeld ?_
     refine Cy.pu 4 22 HT_ ?_
     refine Cy.pu 5 23 HT_ ?_
     refine Cy.pu 6 24 HT_ ?_
     refine Cy.tk 7 25 HT_ HW_ hHeld ?_
     refine Cy.pu 8 26 HT_ ?_
     refine Cy.tk 9 27 HT_ HW_ hHeld ?_
     refine Cy.pu 10 28 HT_ ?_
     refine Cy.pu 11 5 HT_ ?_
     refine done_ (done_of HT_.out (by kernel_rfl)) ?_
     clear HT_ HW_ hHeld
     have h0_ := cellS128_0 HG.out
     have h1_ := cellS128_1 HG.out
     have h2_ := cellS128_2 HG.out
     have f1_ := blk_frozen HG.out 1
     have f2_ := blk_frozen HG.out 2
     go_wp2
     replace HG := Aside0.mk (show (w2.setCell ⟨g, 1, none⟩ (.int .i64 (wrap64 (s0_1 + 1)))).heap[g]? = some (.cells #[.slice (some ad) s0_0.length cS, .int .i64 (wrap64 (s0_1 + 1)), .int .u64 s0_2, .int .i64 s0_3] 128 (0, 0)) from blk_put HG.out 1 _ rfl)
     replace HB := Aside0.mk (show Below w0.heap.size w0 (w2.setCell ⟨g, 1, none⟩ (.int .i64 (wrap64 (s0_1 + 1)))) from below_set HB.out hge)
     replace HK := Aside0.mk (show KeepBut w (w2.setCell ⟨g, 1, none⟩ (.int .i64 (wrap64 (s0_1 + 1)))) g none from HK.out.set_ 1 _)
     clear h0_ h1_ h2_ f1_ f2_ HX
     generalize w2.setCell ⟨g, 1, none⟩ (.int .i64 (wrap64 (s0_1 + 1))) = w3 at HG HB HK ⊢
     have h0_ := cellS128_0 HG.out
     have h1_ := cellS128_1 HG.out
     have h2_ := cellS128_2 HG.out
     have f1_ := blk_frozen HG.out 1
     have f2_ := blk_frozen HG.out 2
     refine start_ (n := 14) (S := fun w' => w'.cell? ⟨g, 2, none⟩ = some (.int .u64 s0_2)) (ds := [13]) #[false, false, false, false, false, false, false, false, false, false, false, false, false, false] (by kernel_rfl) rfl rfl h2_ (fun hHeld => ?_); refine with_tabW nd.tab7 nd.bits7 (fun HT_ HW_ => ?_)
     replace HG := Aside0.mk (show w3.drew.heap[g]? = some (.cells #[.slice (some ad) s0_0.length cS, .int .i64 (wrap64 (s0_1 + 1)), .int .u64 s0_2, .int .i64 s0_3] 128 (0, 0)) from HG.out)
     replace HB := Aside0.mk (below_drew1 HB.out)
     replace HK := Aside0.mk (keep_drew HK.out)
     clear h0_ h1_ h2_ f1_ f2_
     generalize w3.drew = u0 at HG HB HK hHeld ⊢
     refine Cy.pu 0 37 HT_ ?_
     refine Cy.pu 1 38 HT_ ?_
     refine Cy.pu 2 39 HT_ ?_
     refine Cy.pu 3 40 HT_ ?_
     refine take_ (i := 4) (N := some 41) (v := ?_) (a' := ?_) #[true, true, true, true, true, false, false, false, false, false, false, false, false, false] rfl rfl (take_ofW HT_.out HW_.out (by kernel_rfl)) (fun _ _ _ h => h) (Or.inl ⟨by rfl, ?_⟩) hHeld ?_ ?_
     rotate_left
     ·intro w'
      intro s0
      go_simp
      with_reducible rfl
     rotate_left
     ·simp only [Act.put, List.setIfInBounds_toArray, List.set_cons_zero, List.set_cons_succ, i64_w, i32_w]
      rfl
     refine Cy.pu 5 42 HT_ ?_
     refine Cy.pu 6 43 HT_ ?_
     refine Cy.pu 7 44 HT_ ?_
     refine take_ (i := 8) (N := some 45) (v := ?_) (a' := ?_) #[true, true, true, true, true, true, true, true, true, false, false, false, false, false] rfl rfl (take_ofW HT_.out HW_.out (by kernel_rfl)) (fun _ _ _ h => h) (Or.inl ⟨by rfl, ?_⟩) hHeld ?_ ?_
     rotate_left
     ·intro w'
      intro s0
      go_simp
      with_reducible rfl
     rotate_left
     ·simp only [Act.put, List.setIfInBounds_toArray, List.set_cons_zero, List.set_cons_succ, i64_w, i32_w]
      rfl
     refine Cy.pu 9 46 HT_ ?_
     refine Cy.pu 10 47 HT_ ?_
     refine Cy.pu 11 48 HT_ ?_
     refine Cy.pu 12 49 HT_ ?_
     have h2s_ := cellS128_2 HG.out
     have f2s_ := blk_frozen HG.out 2
     refine last_ (i := 13) (N := none) #[true, true, true, true, true, true, true, true, true, true, true, true, true, true] rfl rfl (one_of HT_.out (by kernel_rfl)) (by decide) (fun K_ hK => ?_)
     refine skip_ (w1 := ?_) (by rfl) rfl ?_ ?_
     rotate_left
     ·go_simp
      rfl
     refine hK.out _ _ ?_
     clear hK K_
     clear h2s_ f2s_
     refine done_ (done_of HT_.out (by kernel_rfl)) ?_
     clear HT_ HW_ hHeld
     replace HG := Aside0.mk (show (u0.setCell ⟨g, 2, none⟩ (.int .u64 (Go.bits .xor .u64 s0_2 (IntKind.u64.wrap (s0_2 * 8192))))).heap[g]? = some (.cells #[.slice (some ad) s0_0.length cS, .int .i64 (wrap64 (s0_1 + 1)), .int .u64 (Go.bits .xor .u64 s0_2 (IntKind.u64.wrap (s0_2 * 8192))), .int .i64 s0_3] 128 (0, 0)) from blk_put HG.out 2 _ rfl)
     replace HB := Aside0.mk (show Below w0.heap.size w0 (u0.setCell ⟨g, 2, none⟩ (.int .u64 (Go.bits .xor .u64 s0_2 (IntKind.u64.wrap (s0_2 * 8192))))) from below_set HB.out hge)
     replace HK := Aside0.mk (show KeepBut w (u0.setCell ⟨g, 2, none⟩ (.int .u64 (Go.bits .xor .u64 s0_2 (IntKind.u64.wrap (s0_2 * 8192))))) g none from HK.out.set_ 2 _)
     generalize u0.setCell ⟨g, 2, none⟩ (.int .u64 (Go.bits .xor .u64 s0_2 (IntKind.u64.wrap (s0_2 * 8192)))) = x0 at HG HB HK ⊢
     try go_wp2
     have h0_ := cellS128_0 HG.out
     have h1_ := cellS128_1 HG.out
     have h2_ := cellS128_2 HG.out
     have f1_ := blk_frozen HG.out 1
     have f2_ := blk_frozen HG.out 2
     refine start_ (n := 14) (S := fun w' => w'.cell? ⟨g, 2, none⟩ = some (.int .u64 (Go.bits .xor .u64 s0_2 (IntKind.u64.wrap (s0_2 * 8192))))) (ds := [13]) #[false, false, false, false, false, false, false, false, false, false, false, false, false, false] (by kernel_rfl) rfl rfl h2_ (fun hHeld => ?_); refine with_tabW nd.tab8 nd.bits8 (fun HT_ HW_ => ?_)
     replace HG := Aside0.mk (show x0.drew.heap[g]? = some (.cells #[.slice (some ad) s0_0.length cS, .int .i64 (wrap64 (s0_1 + 1)), .int .u64 (Go.bits .xor .u64 s0_2 (IntKind.u64.wrap (s0_2 * 8192))), .int .i64 s0_3] 128 (0, 0)) from HG.out)
     replace HB := Aside0.mk (below_drew1 HB.out)
     replace HK := Aside0.mk (keep_drew HK.out)
     clear h0_ h1_ h2_ f1_ f2_
     generalize x0.drew = u1 at HG HB HK hHeld ⊢
     refine Cy.pu 0 50 HT_ ?_
     refine Cy.pu 1 51 HT_ ?_
     refine Cy.pu 2 52 HT_ ?_
     refine Cy.pu 3 53 HT_ ?_
     refine take_ (i := 4) (N := some 54) (v := ?_) (a' := ?_) #[true, true, true, true, true, false, false, false, false, false, false, false, false, false] rfl rfl (take_ofW HT_.out HW_.out (by kernel_rfl)) (fun _ _ _ h => h) (Or.inl ⟨by rfl, ?_⟩) hHeld ?_ ?_
     rotate_left
     ·intro w'
      intro s0
      go_simp
      with_reducible rfl
     rotate_left
     ·simp only [Act.put, List.setIfInBounds_toArray, List.set_cons_zero, List.set_cons_succ, i64_w, i32_w]
      rfl
     refine Cy.pu 5 55 HT_ ?_
     refine Cy.pu 6 56 HT_ ?_
     refine Cy.pu 7 57 HT_ ?_
     refine take_ (i := 8) (N := some 58) (v := ?_) (a' := ?_) #[true, true, true, true, true, true, true, true, true, false, false, false, false, false] rfl rfl (take_ofW HT_.out HW_.out (by kernel_rfl)) (fun _ _ _ h => h) (Or.inl ⟨by rfl, ?_⟩) hHeld ?_ ?_
     rotate_left
     ·intro w'
      intro s0
      go_simp
      with_reducible rfl
     rotate_left
     ·simp only [Act.put, List.setIfInBounds_toArray, List.set_cons_zero, List.set_cons_succ, i64_w, i32_w]
      rfl
     refine Cy.pu 9 59 HT_ ?_
     refine Cy.pu 10 60 HT_ ?_
     refine Cy.pu 11 61 HT_ ?_
     refine Cy.pu 12 62 HT_ ?_
     have h2s_ := cellS128_2 HG.out
     have f2s_ := blk_frozen HG.out 2
     refine last_ (i := 13) (N := none) #[true, true, true, true, true, true, true, true, true, true, true, true, true, true] rfl rfl (one_of HT_.out (by kernel_rfl)) (by decide) (fun K_ hK => ?_)
     refine skip_ (w1 := ?_) (by rfl) rfl ?_ ?_
     rotate_left
     ·go_simp
      rfl
     refine hK.out _ _ ?_
     clear hK K_
     clear h2s_ f2s_
     refine done_ (done_of HT_.out (by kernel_rfl)) ?_
     clear HT_ HW_ hHeld
     replace HG := Aside0.mk (show (u1.setCell ⟨g, 2, none⟩ (.int .u64 (Go.bits .xor .u64 (Go.bits .xor .u64 s0_2 (IntKind.u64.wrap (s0_2 * 8192))) ((Go.bits .xor .u64 s0_2 (IntKind.u64.wrap (s0_2 * 8192))) / 128)))).heap[g]? = some (.cells #[.slice (some ad) s0_0.length cS, .int .i64 (wrap64 (s0_1 + 1)), .int .u64 (Go.bits .xor .u64 (Go.bits .xor .u64 s0_2 (IntKind.u64.wrap (s0_2 * 8192))) ((Go.bits .xor .u64 s0_2 (IntKind.u64.wrap (s0_2 * 8192))) / 128)), .int .i64 s0_3] 128 (0, 0)) from blk_put HG.out 2 _ rfl)
     replace HB := Aside0.mk (show Below w0.heap.size w0 (u1.setCell ⟨g, 2, none⟩ (.int .u64 (Go.bits .xor .u64 (Go.bits .xor .u64 s0_2 (IntKind.u64.wrap (s0_2 * 8192))) ((Go.bits .xor .u64 s0_2 (IntKind.u64.wrap (s0_2 * 8192))) / 128)))) from below_set HB.out hge)
     replace HK := Aside0.mk (show KeepBut w (u1.setCell ⟨g, 2, none⟩ (.int .u64 (Go.bits .xor .u64 (Go.bits .xor .u64 s0_2 (IntKind.u64.wrap (s0_2 * 8192))) ((Go.bits .xor .u64 s0_2 (IntKind.u64.wrap (s0_2 * 8192))) / 128)))) g none from HK.out.set_ 2 _)
     generalize u1.setCell ⟨g, 2, none⟩ (.int .u64 (Go.bits .xor .u64 (Go.bits .xor .u64 s0_2 (IntKind.u64.wrap (s0_2 * 8192))) ((Go.bits .xor .u64 s0_2 (IntKind.u64.wrap (s0_2 * 8192))) / 128))) = x1 at HG HB HK ⊢
     try go_wp2
     have h0_ := cellS128_0 HG.out
     have h1_ := cellS128_1 HG.out
     have h2_ := cellS128_2 HG.out
     have f1_ := blk_frozen HG.out 1
     have f2_ := blk_frozen HG.out 2
     refine start_ (n := 14) (S := fun w' => w'.cell? ⟨g, 2, none⟩ = some (.int .u64 (Go.bits .xor .u64 (Go.bits .xor .u64 s0_2 (IntKind.u64.wrap (s0_2 * 8192))) ((Go.bits .xor .u64 s0_2 (IntKind.u64.wrap (s0_2 * 8192))) / 128)))) (ds := [13]) #[false, false, false, false, false, false, false, false, false, false, false, false, false, false] (by kernel_rfl) rfl rfl h2_ (fun hHeld => ?_); refine with_tabW nd.tab9 nd.bits9 (fun HT_ HW_ => ?_)
     replace HG := Aside0.mk (show x1.drew.heap[g]? = some (.cells #[.slice (some ad) s0_0.length cS, .int .i64 (wrap64 (s0_1 + 1)), .int .u64 (Go.bits .xor .u64 (Go.bits .xor .u64 s0_2 (IntKind.u64.wrap (s0_2 * 8192))) ((Go.bits .xor .u64 s0_2 (IntKind.u64.wrap (s0_2 * 8192))) / 128)), .int .i64 s0_3] 128 (0, 0)) from HG.out)
     replace HB := Aside0.mk (below_drew1 HB.out)
     replace HK := Aside0.mk (keep_drew HK.out)
     clear h0_ h1_ h2_ f1_ f2_
     generalize x1.drew = u2 at HG HB HK hHeld ⊢
     refine Cy.pu 0 63 HT_ ?_
     refine Cy.pu 1 64 HT_ ?_
     refine Cy.pu 2 65 HT_ ?_
     refine Cy.pu 3 66 HT_ ?_
     refine take_ (i := 4) (N := some 67) (v := ?_) (a' := ?_) #[true, true, true, true, true, false, false, false, false, false, false, false, false, false] rfl rfl (take_ofW HT_.out HW_.out (by kernel_rfl)) (fun _ _ _ h => h) (Or.inl ⟨by rfl, ?_⟩) hHeld ?_ ?_
     rotate_left
     ·intro w'
      intro s0
      go_simp
      with_reducible rfl
     rotate_left
     ·simp only [Act.put, List.setIfInBounds_toArray, List.set_cons_zero, List.set_cons_succ, i64_w, i32_w]
      rfl
     refine Cy.pu 5 68 HT_ ?_
     refine Cy.pu 6 69 HT_ ?_
     refine Cy.pu 7 70 HT_ ?_
     refine take_ (i := 8) (N := some 71) (v := ?_) (a' := ?_) #[true, true, true, true, true, true, true, true, true, false, false, false, false, false] rfl rfl (take_ofW HT_.out HW_.out (by kernel_rfl)) (fun _ _ _ h => h) (Or.inl ⟨by rfl, ?_⟩) hHeld ?_ ?_
     rotate_left
     ·intro w'
      intro s0
      go_simp
      with_reducible rfl
     rotate_left
     ·simp only [Act.put, List.setIfInBounds_toArray, List.set_cons_zero, List.set_cons_succ, i64_w, i32_w]
      rfl
     refine Cy.pu 9 72 HT_ ?_
     refine Cy.pu 10 73 HT_ ?_
     refine Cy.pu 11 74 HT_ ?_
     refine Cy.pu 12 75 HT_ ?_
     have h2s_ := cellS128_2 HG.out
     have f2s_ := blk_frozen HG.out 2
     refine last_ (i := 13) (N := none) #[true, true, true, true, true, true, true, true, true, true, true, true, true, true] rfl rfl (one_of HT_.out (by kernel_rfl)) (by decide) (fun K_ hK => ?_)
     refine skip_ (w1 := ?_) (by rfl) rfl ?_ ?_
     rotate_left
     ·go_simp
      rfl
     refine hK.out _ _ ?_
     clear hK K_
     clear h2s_ f2s_
     refine done_ (done_of HT_.out (by kernel_rfl)) ?_
     clear HT_ HW_ hHeld
     replace HG := Aside0.mk (show (u2.setCell ⟨g, 2, none⟩ (.int .u64 (Go.bits .xor .u64 (Go.bits .xor .u64 (Go.bits .xor .u64 s0_2 (IntKind.u64.wrap (s0_2 * 8192))) ((Go.bits .xor .u64 s0_2 (IntKind.u64.wrap (s0_2 * 8192))) / 128)) (IntKind.u64.wrap ((Go.bits .xor .u64 (Go.bits .xor .u64 s0_2 (IntKind.u64.wrap (s0_2 * 8192))) ((Go.bits .xor .u64 s0_2 (IntKind.u64.wrap (s0_2 * 8192))) / 128)) * 131072))))).heap[g]? = some (.cells #[.slice (some ad) s0_0.length cS, .int .i64 (wrap64 (s0_1 + 1)), .int .u64 (Go.bits .xor .u64 (Go.bits .xor .u64 (Go.bits .xor .u64 s0_2 (IntKind.u64.wrap (s0_2 * 8192))) ((Go.bits .xor .u64 s0_2 (IntKind.u64.wrap (s0_2 * 8192))) / 128)) (IntKind.u64.wrap ((Go.bits .xor .u64 (Go.bits .xor .u64 s0_2 (IntKind.u64.wrap (s0_2 * 8192))) ((Go.bits .xor .u64 s0_2 (IntKind.u64.wrap (s0_2 * 8192))) / 128)) * 131072))), .int .i64 s0_3] 128 (0, 0)) from blk_put HG.out 2 _ rfl)
     replace HB := Aside0.mk (show Below w0.heap.size w0 (u2.setCell ⟨g, 2, none⟩ (.int .u64 (Go.bits .xor .u64 (Go.bits .xor .u64 (Go.bits .xor .u64 s0_2 (IntKind.u64.wrap (s0_2 * 8192))) ((Go.bits .xor .u64 s0_2 (IntKind.u64.wrap (s0_2 * 8192))) / 128)) (IntKind.u64.wrap ((Go.bits .xor .u64 (Go.bits .xor .u64 s0_2 (IntKind.u64.wrap (s0_2 * 8192))) ((Go.bits .xor .u64 s0_2 (IntKind.u64.wrap (s0_2 * 8192))) / 128)) * 131072))))) from below_set HB.out hge)
     replace HK := Aside0.mk (show KeepBut w (u2.setCell ⟨g, 2, none⟩ (.int .u64 (Go.bits .xor .u64 (Go.bits .xor .u64 (Go.bits .xor .u64 s0_2 (IntKind.u64.wrap (s0_2 * 8192))) ((Go.bits .xor .u64 s0_2 (IntKind.u64.wrap (s0_2 * 8192))) / 128)) (IntKind.u64.wrap ((Go.bits .xor .u64 (Go.bits .xor .u64 s0_2 (IntKind.u64.wrap (s0_2 * 8192))) ((Go.bits .xor .u64 s0_2 (IntKind.u64.wrap (s0_2 * 8192))) / 128)) * 131072))))) g none from HK.out.set_ 2 _)
     generalize u2.setCell ⟨g, 2, none⟩ (.int .u64 (Go.bits .xor .u64 (Go.bits .xor .u64 (Go.bits .xor .u64 s0_2 (IntKind.u64.wrap (s0_2 * 8192))) ((Go.bits .xor .u64 s0_2 (IntKind.u64.wrap (s0_2 * 8192))) / 128)) (IntKind.u64.wrap ((Go.bits .xor .u64 (Go.bits .xor .u64 s0_2 (IntKind.u64.wrap (s0_2 * 8192))) ((Go.bits .xor .u64 s0_2 (IntKind.u64.wrap (s0_2 * 8192))) / 128)) * 131072)))) = x2 at HG HB HK ⊢
     have h0_ := cellS128_0 HG.out
     have h1_ := cellS128_1 HG.out
     have h2_ := cellS128_2 HG.out
     have f1_ := blk_frozen HG.out 1
     have f2_ := blk_frozen HG.out 2
     go_wp2
     go_ret
     exact ⟨by first | rfl | (simp [errW_none, errW_some] <;> rfl) | (simp [*, errW_none, errW_some] <;> rfl), ⟨_, cS, HG.out, hge, HSA.out⟩, HB.out, HK.out⟩
   ·rw [if_neg c5] at H
    exact absurd H (by simp)
  ·rw [if_neg c4] at H
   have c4b0 : decide (s0_1 < (s0_0.length : Int)) = false := decide_eq_false c4
   clear c4
   by_cases c8 : (IntKind.u64.wrap (a1)) = 0
   ·rw [if_pos c8] at H
    exact absurd H (by simp)
   ·rw [if_neg c8] at H
    have c8b0 : ((IntKind.u64.wrap (a1)) == 0) = false := beq_eq_false_iff_ne.mpr c8
    have c8b1 : ((IntKind.u64.wrap (a1)) != 0) = true := bne_iff_ne.mpr c8
    simp only [Option.some.injEq, Prod.mk.injEq] at H
    obtain ⟨rfl, rfl, rfl, rfl⟩ := H
    obtain ⟨A0, cS, HG0, hge, HS⟩ := HI0.out
    have HG := Aside0.mk HG0
    clear HG0
    have HSA := Aside0.mk HS
    clear HS
    go_enter Try.func73, Try.ntmps73
    go_wp2
    have h0_ := cellS128_0 HG.out
    have h1_ := cellS128_1 HG.out
    have h2_ := cellS128_2 HG.out
    have f1_ := blk_frozen HG.out 1
    have f2_ := blk_frozen HG.out 2
    refine start_ (n := 10) (S := fun w' => w'.cell? ⟨g, 0, none⟩ = some (.slice A0 s0_0.length cS) ∧ w'.cell? ⟨g, 1, none⟩ = some (.int .i64 s0_1)) (ds := []) #[false, false, false, false, false, false, false, false, false, false] (by kernel_rfl) rfl rfl ⟨h0_, h1_⟩ (fun hHeld => ?_); refine with_tabW nd.tab4 nd.bits4 (fun HT_ HW_ => ?_)
    replace HG := Aside0.mk (show w.drew.heap[g]? = some (.cells #[.slice A0 s0_0.length cS, .int .i64 s0_1, .int .u64 s0_2, .int .i64 s0_3] 128 (0, 0)) from HG.out)
    replace HB := Aside0.mk (below_drew1 HB.out)
    replace HK := Aside0.mk (keep_drew HK.out)
    clear h0_ h1_ h2_ f1_ f2_
    generalize w.drew = w1 at HG HB HK hHeld ⊢
    refine Cy.pu 0 8 HT_ ?_
    refine Cy.pu 1 9 HT_ ?_
    refine Cy.pu 2 10 HT_ ?_
    refine Cy.tk 3 11 HT_ HW_ hHeld ?_
    refine Cy.pu 4 12 HT_ ?_
    refine Cy.pu 5 13 HT_ ?_
    refine Cy.pu 6 14 HT_ ?_
    refine Cy.tk 7 15 HT_ HW_ hHeld ?_
    refine Cy.pu 8 16 HT_ ?_
    refine Cy.pu 9 17 HT_ ?_
    refine done_ (done_of HT_.out (by kernel_rfl)) ?_
    clear HT_ HW_ hHeld
    try go_wp2
    have h0_ := cellS128_0 HG.out
    have h1_ := cellS128_1 HG.out
    have h2_ := cellS128_2 HG.out
    have f1_ := blk_frozen HG.out 1
    have f2_ := blk_frozen HG.out 2
    refine start_ (n := 14) (S := fun w' => w'.cell? ⟨g, 2, none⟩ = some (.int .u64 s0_2)) (ds := [13]) #[false, false, false, false, false, false, false, false, false, false, false, false, false, false] (by kernel_rfl) rfl rfl h2_ (fun hHeld => ?_); refine with_tabW nd.tab7 nd.bits7 (fun HT_ HW_ => ?_)
    replace HG := Aside0.mk (show w1.drew.heap[g]? = some (.cells #[.slice A0 s0_0.length cS, .int .i64 s0_1, .int .u64 s0_2, .int .i64 s0_3] 128 (0, 0)) from HG.out)
    replace HB := Aside0.mk (below_drew1 HB.out)
    replace HK := Aside0.mk (keep_drew HK.out)
    clear h0_ h1_ h2_ f1_ f2_
    generalize w1.drew = u0 at HG HB HK hHeld ⊢
    refine Cy.pu 0 37 HT_ ?_
    refine Cy.pu 1 38 HT_ ?_
    refine Cy.pu 2 39 HT_ ?_
    refine Cy.pu 3 40 HT_ ?_
    refine take_ (i := 4) (N := some 41) (v := ?_) (a' := ?_) #[true, true, true, true, true, false, false, false, false, false, false, false, false, false] rfl rfl (take_ofW HT_.out HW_.out (by kernel_rfl)) (fun _ _ _ h => h) (Or.inl ⟨by rfl, ?_⟩) hHeld ?_ ?_
    rotate_left
    ·intro w'
     intro s0
     go_simp
     with_reducible rfl
    rotate_left
    ·simp only [Act.put, List.setIfInBounds_toArray, List.set_cons_zero, List.set_cons_succ, i64_w, i32_w]
     rfl
    refine Cy.pu 5 42 HT_ ?_
    refine Cy.pu 6 43 HT_ ?_
    refine Cy.pu 7 44 HT_ ?_
    refine take_ (i := 8) (N := some 45) (v := ?_) (a' := ?_) #[true, true, true, true, true, true, true, true, true, false, false, false, false, false] rfl rfl (take_ofW HT_.out HW_.out (by kernel_rfl)) (fun _ _ _ h => h) (Or.inl ⟨by rfl, ?_⟩) hHeld ?_ ?_
    rotate_left
    ·intro w'
     intro s0
     go_simp
     with_reducible rfl
    rotate_left
    ·simp only [Act.put, List.setIfInBounds_toArray, List.set_cons_zero, List.set_cons_succ, i64_w, i32_w]
     rfl
    refine Cy.pu 9 46 HT_ ?_
    refine Cy.pu 10 47 HT_ ?_
    refine Cy.pu 11 48 HT_ ?_
    refine Cy.pu 12 49 HT_ ?_
    have h2s_ := cellS128_2 HG.out
    have f2s_ := blk_frozen HG.out 2
    refine last_ (i := 13) (N := none) #[true, true, true, true, true, true, true, true, true, true, true, true, true, true] rfl rfl (one_of HT_.out (by kernel_rfl)) (by decide) (fun K_ hK => ?_)
    refine skip_ (w1 := ?_) (by rfl) rfl ?_ ?_
    rotate_left
    ·go_simp
     rfl
    refine hK.out _ _ ?_
    clear hK K_
    clear h2s_ f2s_
    refine done_ (done_of HT_.out (by kernel_rfl)) ?_
    clear HT_ HW_ hHeld
    replace HG := Aside0.mk (show (u0.setCell ⟨g, 2, none⟩ (.int .u64 (Go.bits .xor .u64 s0_2 (IntKind.u64.wrap (s0_2 * 8192))))).heap[g]? = some (.cells #[.slice A0 s0_0.length cS, .int .i64 s0_1, .int .u64 (Go.bits .xor .u64 s0_2 (IntKind.u64.wrap (s0_2 * 8192))), .int .i64 s0_3] 128 (0, 0)) from blk_put HG.out 2 _ rfl)
    replace HB := Aside0.mk (show Below w0.heap.size w0 (u0.setCell ⟨g, 2, none⟩ (.int .u64 (Go.bits .xor .u64 s0_2 (IntKind.u64.wrap (s0_2 * 8192))))) from below_set HB.out hge)
    replace HK := Aside0.mk (show KeepBut w (u0.setCell ⟨g, 2, none⟩ (.int .u64 (Go.bits .xor .u64 s0_2 (IntKind.u64.wrap (s0_2 * 8192))))) g none from HK.out.set_ 2 _)
    generalize u0.setCell ⟨g, 2, none⟩ (.int .u64 (Go.bits .xor .u64 s0_2 (IntKind.u64.wrap (s0_2 * 8192)))) = x0 at HG HB HK ⊢
    try go_wp2
    have h0_ := cellS128_0 HG.out
    have h1_ := cellS128_1 HG.out
    have h2_ := cellS128_2 HG.out
    have f1_ := blk_frozen HG.out 1
    have f2_ := blk_frozen HG.out 2
    refine start_ (n := 14) (S := fun w' => w'.cell? ⟨g, 2, none⟩ = some (.int .u64 (Go.bits .xor .u64 s0_2 (IntKind.u64.wrap (s0_2 * 8192))))) (ds := [13]) #[false, false, false, false, false, false, false, false, false, false, false, false, false, false] (by kernel_rfl) rfl rfl h2_ (fun hHeld => ?_); refine with_tabW nd.tab8 nd.bits8 (fun HT_ HW_ => ?_)
    replace HG := Aside0.mk (show x0.drew.heap[g]? = some (.cells #[.slice A0 s0_0.length cS, .int .i64 s0_1, .int .u64 (Go.bits .xor .u64 s0_2 (IntKind.u64.wrap (s0_2 * 8192))), .int .i64 s0_3] 128 (0, 0)) from HG.out)
    replace HB := Aside0.mk (below_drew1 HB.out)
    replace HK := Aside0.mk (keep_drew HK.out)
    clear h0_ h1_ h2_ f1_ f2_
    generalize x0.drew = u1 at HG HB HK hHeld ⊢
    refine Cy.pu 0 50 HT_ ?_
    refine Cy.pu 1 51 HT_ ?_
    refine Cy.pu 2 52 HT_ ?_
    refine Cy.pu 3 53 HT_ ?_
    refine take_ (i := 4) (N := some 54) (v := ?_) (a' := ?_) #[true, true, true, true, true, false, false, false, false, false, false, false, false, false] rfl rfl (take_ofW HT_.out HW_.out (by kernel_rfl)) (fun _ _ _ h => h) (Or.inl ⟨by rfl, ?_⟩) hHeld ?_ ?_
    rotate_left
    ·intro w'
     intro s0
     go_simp
     with_reducible rfl
    rotate_left
    ·simp only [Act.put, List.setIfInBounds_toArray, List.set_cons_zero, List.set_cons_succ, i64_w, i32_w]
     rfl
    refine Cy.pu 5 55 HT_ ?_
    refine Cy.pu 6 56 HT_ ?_
    refine Cy.pu 7 57 HT_ ?_
    refine take_ (i := 8) (N := some 58) (v := ?_) (a' := ?_) #[true, true, true, true, true, true, true, true, true, false, false, false, false, false] rfl rfl (take_ofW HT_.out HW_.out (by kernel_rfl)) (fun _ _ _ h => h) (Or.inl ⟨by rfl, ?_⟩) hHeld ?_ ?_
    rotate_left
    ·intro w'
     intro s0
     go_simp
     with_reducible rfl
    rotate_left
    ·simp only [Act.put, List.setIfInBounds_toArray, List.set_cons_zero, List.set_cons_succ, i64_w, i32_w]
     rfl
    refine Cy.pu 9 59 HT_ ?_
    refine Cy.pu 10 60 HT_ ?_
    refine Cy.pu 11 61 HT_ ?_
    refine Cy.pu 12 62 HT_ ?_
    have h2s_ := cellS128_2 HG.out
    have f2s_ := blk_frozen HG.out 2
    refine last_ (i := 13) (N := none) #[true, true, true, true, true, true, true, true, true, true, true, true, true, true] rfl rfl (one_of HT_.out (by kernel_rfl)) (by decide) (fun K_ hK => ?_)
    refine skip_ (w1 := ?_) (by rfl) rfl ?_ ?_
    rotate_left
    ·go_simp
     rfl
    refine hK.out _ _ ?_
    clear hK K_
    clear h2s_ f2s_
    refine done_ (done_of HT_.out (by kernel_rfl)) ?_
    clear HT_ HW_ hHeld
    replace HG := Aside0.mk (show (u1.setCell ⟨g, 2, none⟩ (.int .u64 (Go.bits .xor .u64 (Go.bits .xor .u64 s0_2 (IntKind.u64.wrap (s0_2 * 8192))) ((Go.bits .xor .u64 s0_2 (IntKind.u64.wrap (s0_2 * 8192))) / 128)))).heap[g]? = some (.cells #[.slice A0 s0_0.length cS, .int .i64 s0_1, .int .u64 (Go.bits .xor .u64 (Go.bits .xor .u64 s0_2 (IntKind.u64.wrap (s0_2 * 8192))) ((Go.bits .xor .u64 s0_2 (IntKind.u64.wrap (s0_2 * 8192))) / 128)), .int .i64 s0_3] 128 (0, 0)) from blk_put HG.out 2 _ rfl)
    replace HB := Aside0.mk (show Below w0.heap.size w0 (u1.setCell ⟨g, 2, none⟩ (.int .u64 (Go.bits .xor .u64 (Go.bits .xor .u64 s0_2 (IntKind.u64.wrap (s0_2 * 8192))) ((Go.bits .xor .u64 s0_2 (IntKind.u64.wrap (s0_2 * 8192))) / 128)))) from below_set HB.out hge)
    replace HK := Aside0.mk (show KeepBut w (u1.setCell ⟨g, 2, none⟩ (.int .u64 (Go.bits .xor .u64 (Go.bits .xor .u64 s0_2 (IntKind.u64.wrap (s0_2 * 8192))) ((Go.bits .xor .u64 s0_2 (IntKind.u64.wrap (s0_2 * 8192))) / 128)))) g none from HK.out.set_ 2 _)
    generalize u1.setCell ⟨g, 2, none⟩ (.int .u64 (Go.bits .xor .u64 (Go.bits .xor .u64 s0_2 (IntKind.u64.wrap (s0_2 * 8192))) ((Go.bits .xor .u64 s0_2 (IntKind.u64.wrap (s0_2 * 8192))) / 128))) = x1 at HG HB HK ⊢
    try go_wp2
    have h0_ := cellS128_0 HG.out
    have h1_ := cellS128_1 HG.out
    have h2_ := cellS128_2 HG.out
    have f1_ := blk_frozen HG.out 1
    have f2_ := blk_frozen HG.out 2
    refine start_ (n := 14) (S := fun w' => w'.cell? ⟨g, 2, none⟩ = some (.int .u64 (Go.bits .xor .u64 (Go.bits .xor .u64 s0_2 (IntKind.u64.wrap (s0_2 * 8192))) ((Go.bits .xor .u64 s0_2 (IntKind.u64.wrap (s0_2 * 8192))) / 128)))) (ds := [13]) #[false, false, false, false, false, false, false, false, false, false, false, false, false, false] (by kernel_rfl) rfl rfl h2_ (fun hHeld => ?_); refine with_tabW nd.tab9 nd.bits9 (fun HT_ HW_ => ?_)
    replace HG := Aside0.mk (show x1.drew.heap[g]? = some (.cells #[.slice A0 s0_0.length cS, .int .i64 s0_1, .int .u64 (Go.bits .xor .u64 (Go.bits .xor .u64 s0_2 (IntKind.u64.wrap (s0_2 * 8192))) ((Go.bits .xor .u64 s0_2 (IntKind.u64.wrap (s0_2 * 8192))) / 128)), .int .i64 s0_3] 128 (0, 0)) from HG.out)
    replace HB := Aside0.mk (below_drew1 HB.out)
    replace HK := Aside0.mk (keep_drew HK.out)
    clear h0_ h1_ h2_ f1_ f2_
    generalize x1.drew = u2 at HG HB HK hHeld ⊢
    refine Cy.pu 0 63 HT_ ?_
    refine Cy.pu 1 64 HT_ ?_
    refine Cy.pu 2 65 HT_ ?_
    refine Cy.pu 3 66 HT_ ?_
    refine take_ (i := 4) (N := some 67) (v := ?_) (a' := ?_) #[true, true, true, true, true, false, false, false, false, false, false, false, false, false] rfl rfl (take_ofW HT_.out HW_.out (by kernel_rfl)) (fun _ _ _ h => h) (Or.inl ⟨by rfl, ?_⟩) hHeld ?_ ?_
    rotate_left
    ·intro w'
     intro s0
     go_simp
     with_reducible rfl
    rotate_left
    ·simp only [Act.put, List.setIfInBounds_toArray, List.set_cons_zero, List.set_cons_succ, i64_w, i32_w]
     rfl
    refine Cy.pu 5 68 HT_ ?_
    refine Cy.pu 6 69 HT_ ?_
    refine Cy.pu 7 70 HT_ ?_
    refine take_ (i := 8) (N := some 71) (v := ?_) (a' := ?_) #[true, true, true, true, true, true, true, true, true, false, false, false, false, false] rfl rfl (take_ofW HT_.out HW_.out (by kernel_rfl)) (fun _ _ _ h => h) (Or.inl ⟨by rfl, ?_⟩) hHeld ?_ ?_
    rotate_left
    ·intro w'
     intro s0
     go_simp
     with_reducible rfl
    rotate_left
    ·simp only [Act.put, List.setIfInBounds_toArray, List.set_cons_zero, List.set_cons_succ, i64_w, i32_w]
     rfl
    refine Cy.pu 9 72 HT_ ?_
    refine Cy.pu 10 73 HT_ ?_
    refine Cy.pu 11 74 HT_ ?_
    refine Cy.pu 12 75 HT_ ?_
    have h2s_ := cellS128_2 HG.out
    have f2s_ := blk_frozen HG.out 2
    refine last_ (i := 13) (N := none) #[true, true, true, true, true, true, true, true, true, true, true, true, true, true] rfl rfl (one_of HT_.out (by kernel_rfl)) (by decide) (fun K_ hK => ?_)
    refine skip_ (w1 := ?_) (by rfl) rfl ?_ ?_
    rotate_left
    ·go_simp
     rfl
    refine hK.out _ _ ?_
    clear hK K_
    clear h2s_ f2s_
    refine done_ (done_of HT_.out (by kernel_rfl)) ?_
    clear HT_ HW_ hHeld
    replace HG := Aside0.mk (show (u2.setCell ⟨g, 2, none⟩ (.int .u64 (Go.bits .xor .u64 (Go.bits .xor .u64 (Go.bits .xor .u64 s0_2 (IntKind.u64.wrap (s0_2 * 8192))) ((Go.bits .xor .u64 s0_2 (IntKind.u64.wrap (s0_2 * 8192))) / 128)) (IntKind.u64.wrap ((Go.bits .xor .u64 (Go.bits .xor .u64 s0_2 (IntKind.u64.wrap (s0_2 * 8192))) ((Go.bits .xor .u64 s0_2 (IntKind.u64.wrap (s0_2 * 8192))) / 128)) * 131072))))).heap[g]? = some (.cells #[.slice A0 s0_0.length cS, .int .i64 s0_1, .int .u64 (Go.bits .xor .u64 (Go.bits .xor .u64 (Go.bits .xor .u64 s0_2 (IntKind.u64.wrap (s0_2 * 8192))) ((Go.bits .xor .u64 s0_2 (IntKind.u64.wrap (s0_2 * 8192))) / 128)) (IntKind.u64.wrap ((Go.bits .xor .u64 (Go.bits .xor .u64 s0_2 (IntKind.u64.wrap (s0_2 * 8192))) ((Go.bits .xor .u64 s0_2 (IntKind.u64.wrap (s0_2 * 8192))) / 128)) * 131072))), .int .i64 s0_3] 128 (0, 0)) from blk_put HG.out 2 _ rfl)
    replace HB := Aside0.mk (show Below w0.heap.size w0 (u2.setCell ⟨g, 2, none⟩ (.int .u64 (Go.bits .xor .u64 (Go.bits .xor .u64 (Go.bits .xor .u64 s0_2 (IntKind.u64.wrap (s0_2 * 8192))) ((Go.bits .xor .u64 s0_2 (IntKind.u64.wrap (s0_2 * 8192))) / 128)) (IntKind.u64.wrap ((Go.bits .xor .u64 (Go.bits .xor .u64 s0_2 (IntKind.u64.wrap (s0_2 * 8192))) ((Go.bits .xor .u64 s0_2 (IntKind.u64.wrap (s0_2 * 8192))) / 128)) * 131072))))) from below_set HB.out hge)
    replace HK := Aside0.mk (show KeepBut w (u2.setCell ⟨g, 2, none⟩ (.int .u64 (Go.bits .xor .u64 (Go.bits .xor .u64 (Go.bits .xor .u64 s0_2 (IntKind.u64.wrap (s0_2 * 8192))) ((Go.bits .xor .u64 s0_2 (IntKind.u64.wrap (s0_2 * 8192))) / 128)) (IntKind.u64.wrap ((Go.bits .xor .u64 (Go.bits .xor .u64 s0_2 (IntKind.u64.wrap (s0_2 * 8192))) ((Go.bits .xor .u64 s0_2 (IntKind.u64.wrap (s0_2 * 8192))) / 128)) * 131072))))) g none from HK.out.set_ 2 _)
    generalize u2.setCell ⟨g, 2, none⟩ (.int .u64 (Go.bits .xor .u64 (Go.bits .xor .u64 (Go.bits .xor .u64 s0_2 (IntKind.u64.wrap (s0_2 * 8192))) ((Go.bits .xor .u64 s0_2 (IntKind.u64.wrap (s0_2 * 8192))) / 128)) (IntKind.u64.wrap ((Go.bits .xor .u64 (Go.bits .xor .u64 s0_2 (IntKind.u64.wrap (s0_2 * 8192))) ((Go.bits .xor .u64 s0_2 (IntKind.u64.wrap (s0_2 * 8192))) / 128)) * 131072)))) = x2 at HG HB HK ⊢
    have h0_ := cellS128_0 HG.out
    have h1_ := cellS128_1 HG.out
    have h2_ := cellS128_2 HG.out
    have f1_ := blk_frozen HG.out 1
    have f2_ := blk_frozen HG.out 2
    go_wp2
    go_ret
    exact ⟨by first | rfl | (simp [errW_none, errW_some] <;> rfl) | (simp [*, errW_none, errW_some] <;> rfl), ⟨_, cS, HG.out, hge, HSA.out⟩, HB.out, HK.out⟩
end Go.Proofs.Ytlololbhlnapkaa.XFnMatrix

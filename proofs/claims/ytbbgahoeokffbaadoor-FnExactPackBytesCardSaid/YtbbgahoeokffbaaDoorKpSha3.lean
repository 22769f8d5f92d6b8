/-
  What impl.digest and impl.HashBegin of the program answer: the walks of their code. Conditions: the package's tables hold what the text lays; digest: a text of at most 2^40 bytes, strings.Repeat's contract.
-/
import Derived.Test.YtbbgahoeokffbaaDoorKpSha2
namespace Go.Proofs.YtbbgahoeokffbaaDoor.Sha
open Go Go.RowKit Go.Proofs.YtbbgahoeokffbaaDoorW.PrintWords Go.Proofs.YtbbgahoeokffbaaDoorW.PrintLast Go.Proofs.YtbbgahoeokffbaaDoorW.PrintMore Go.Proofs.YtbbgahoeokffbaaDoor.Xright
set_option linter.unusedVariables false
set_option linter.unusedSimpArgs false
def starts : List Int := [0x6a09e667, 0xbb67ae85, 0x3c6ef372, 0xa54ff53a, 0x510e527f, 0x9b05688c, 0x1f83d9ab, 0x5be0cd19]
theorem starts_words : Words starts := by
  intro x hx
  simp [starts] at hx
  omega
def Starts (w : World) : Prop := ∃ t fr, w.heap[0]? = some (.cells (u32s starts) t fr)
theorem starts_below {w w' : World} (h : Starts w) (hb : Below w.heap.size w w') : Starts w' := by
  obtain ⟨t, fr, h⟩ := h
  exact ⟨t, fr, (hb.block 0 (blk_lt h)).trans h⟩
set_option maxHeartbeats 4000000 in
set_option maxRecDepth 100000 in
theorem long_still (s : ByteArray) (w : World) : Calls Tryd.prog 54 #[.string s] w fun e w' => e = .returned (.int .i64 (s.size : Int)) ∧ w' = w := by
  go_enter Tryd.func54, Tryd.ntmps54
  go_wp2
  go_ret
  exact ⟨rfl, rfl⟩
/-- The digest of a text. -/
def digestF (s : ByteArray) : ByteArray := summedF (blks s starts (s.size / 64)) (s.extract (64 * (s.size / 64)) s.size) (s.size : Int)
set_option maxHeartbeats 16000000 in
set_option maxRecDepth 100000 in
theorem impl_digest.calls (hrep : Rep0) (text : ByteArray) (htext : text.size ≤ 1099511627776) (w : World) (hS : Starts w) (hG : Roots w) : Calls Tryd.prog 59 #[.string text] w fun e w' => e = .returned (.string (digestF text)) ∧ Below w.heap.size w w' := by
  obtain ⟨gt, gf, hS⟩ := hS
  have HS := Aside0.mk hS
  have HG := Aside0.mk hG
  have HREP := Aside0.mk hrep
  have HT := Aside0.mk htext
  clear hS hG hrep htext
  have HB := Aside0.mk (Below.refl w.heap.size w)
  go_enter Tryd.func59, Tryd.ntmps59
  go_wp2_with (first | ((with_reducible refine gate_dst (N := 5) rfl ?_); refine wpList_load_row rfl 66 _ rfl 0 ?hx gt (u32s starts) gf _ (HB.out.block 0 (blk_lt HS.out) |>.trans HS.out) Tryd.underlying66 rfl ?hi ?_; (case hx => rfl); (case hi => exact info66)) | ((with_reducible refine gate_dst (N := 3) rfl ?_); refine box_event ?hg (N := 3) ?hd (cs := u32s zeros8) (t := 66) ?hr ?_; (case hd => rfl); (case hg => rfl); (case hr => first | (go_simp; done) | (go_simp; rfl)); intro g3 hg w3 hbox hb; have N3 := Aside0.mk (show w.heap.size ≤ g3 by rw [hg]; exact Nat.le_refl _); have n0_ := Aside0.mk (below_step HB.out hb); have B3 := Aside0.mk hbox; clear HB; have HB := n0_; clear n0_ hb hbox hg) | ((with_reducible refine gate_store (t := 66) (p := 3) (v := .tmp 5) rfl ?_); refine wpList_store_row rfl 66 _ _ rfl g3 (u32s starts) ?hx ?hy 66 (u32s zeros8) B3.out ?hi ?ho (ones32 _) ?_; (case hx => rfl); (case hy => rfl); (case hi => exact info66); (case ho => rfl)))
  go_loopg [4] (text.size / 64 + 1) (fun kq v4 w' => ∃ (m : Nat) (s : ByteArray), v4 = .string s ∧ Aside0 (s = text.extract (64 * m) text.size) ∧ Aside0 (m + kq = text.size / 64 + 1) ∧ Aside0 (m ≤ text.size / 64) ∧ Aside0 (w'.heap[g3]? = some (.cells (u32s (blks text starts m)) 66 (0, 0))) ∧ Aside0 (Below w.heap.size w w'))
  case atStart => exact ⟨0, text, rfl, ⟨by simp⟩, ⟨by omega⟩, ⟨by omega⟩, ⟨row_same B3.out _⟩, ⟨row_below HB.out N3.out _⟩⟩
  case round =>
    clear HB B3
    obtain ⟨m, s, rfl, HSX, HM, HM2, B3, HB⟩ := hrel
    cases gk with
    | zero => exact absurd HM2.out (by have := HM.out; omega)
    | succ k2 =>
      have hss : s.size = text.size - 64 * m := by
        rw [HSX.out, ByteArray.size_extract]
        omega
      by_cases hm : m < text.size / 64
      · have h64 : (64 : Int) ≤ (s.size : Int) := by omega
        have h64n : 64 ≤ s.size := by omega
        have HSS := Aside0.mk hss
        clear hss
        go_wp2
        go_still_tail 3, (by kernel_rfl)
        refine wpStill_load_row rfl 66 _ rfl g3 ?hx 66 (u32s (blks text starts m)) (0, 0) _ B3.out Tryd.underlying66 rfl ?hi ?_
        case hx => rfl
        case hi => rw [size32, blks_len]; exact info66
        repeat still_step
        refine wpStill_nil ?_
        change wpList _ _ _ _ _ wr.drew
        generalize hwy : wr.drew = wy
        have B3y := Aside0.mk (blk_at (m := 1) hwy B3.out)
        have HBy := Aside0.mk (below_at (m := 1) hwy HB.out)
        clear hwy HB B3
        go_wp2_with (fail)
        go_at_call 57
        refine (impl_taken.calls (blks text starts m) (by rw [blks_len]; rfl) (s.extract 0 64) (by rw [ByteArray.size_extract]; omega) wy (roots_below HG.out HBy.out)).mono ?_
        rintro e w5 ⟨rfl, hb⟩
        have n0_ := Aside0.mk (below_step HBy.out hb)
        have n1_ := Aside0.mk (blk_below B3y.out hb)
        clear HBy B3y
        have HBy := n0_
        have B3y := n1_
        clear n0_ n1_ hb
        go_wp2_with ((with_reducible refine gate_store (t := 66) (p := 3) (v := .tmp 15) rfl ?_); refine wpList_store_row rfl 66 _ _ rfl g3 (u32s (takenF (blks text starts m) (s.extract 0 64))) ?hx ?hy 66 (u32s (blks text starts m)) B3y.out ?hi ?ho (ones32 _) ?_; (case hx => rfl); (case hy => rfl); (case hi => rw [size32, takenF_len, blks_len]; exact info66); (case ho => rw [size32, size32, takenF_len]))
        go_roundg k2
        case measure => omega
        case rel =>
          have hsx := HSX.out
          have hm64 : 64 * m + 64 ≤ text.size := by omega
          have hx1 : s.extract 64 s.size = text.extract (64 * (m + 1)) text.size := by rw [hsx]; exact extract_on text m hm64
          have hx2 : s.extract 0 64 = text.extract (64 * m) (64 * m + 64) := by rw [hsx]; exact extract_head text m hm64
          have hg3 : w.heap.size ≤ g3 := N3.out
          refine ⟨m + 1, s.extract 64 s.size, rfl, ⟨hx1⟩, ⟨by have := HM.out; omega⟩, ⟨by omega⟩, ⟨?_⟩, ⟨row_below HBy.out hg3 _⟩⟩
          rw [blks, ← hx2]
          exact row_same B3y.out _
      · have hm8 : m = text.size / 64 := by have := HM2.out; omega
        subst hm8
        have h64 : ¬ ((64 : Int) ≤ (s.size : Int)) := by omega
        have hs64 := Aside0.mk (show s.size < 64 by omega)
        clear hss
        go_wp2
        go_still_tail 4, (by kernel_rfl)
        refine wpStill_load_row rfl 66 _ rfl g3 ?hx 66 (u32s (blks text starts (text.size / 64))) (0, 0) _ B3.out Tryd.underlying66 rfl ?hi ?_
        case hx => rfl
        case hi => rw [size32, blks_len]; exact info66
        repeat still_step
        still_call (long_still text _)
        refine wpStill_nil ?_
        change wpList _ _ _ _ _ wr.drew
        generalize hwy : wr.drew = wy
        have HBy := Aside0.mk (below_at (m := 1) hwy HB.out)
        clear hwy HB B3
        go_wp2_with (fail)
        go_at_call 66
        refine (impl_summed.calls HREP.out (blks text starts (text.size / 64)) (by rw [blks_len]; rfl) (blks_words _ _ _ starts_words) s hs64.out (text.size : Int) (by omega) (by have := HT.out; omega) wy (roots_below HG.out HBy.out)).mono ?_
        rintro e w5 ⟨rfl, hb⟩
        have n0_ := Aside0.mk (below_step HBy.out hb)
        clear HBy hb
        go_wp2
        go_ret
        refine ⟨?_, n0_.out⟩
        rw [digestF, ← HSX.out]
        rfl
/-- What the package's variables hold. -/
def Glob (w : World) : Prop := Starts w ∧ Roots w
theorem Glob_below {w w' : World} (h : Glob w) (hb : Below w.heap.size w w') : Glob w' := ⟨starts_below h.1 hb, roots_below h.2 hb⟩
end Go.Proofs.YtbbgahoeokffbaaDoor.Sha

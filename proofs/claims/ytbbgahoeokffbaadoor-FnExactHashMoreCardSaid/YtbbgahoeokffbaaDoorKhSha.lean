/-
  What impl.taken of the program answers for a state of eight numbers and a block of 64 bytes, where the table of the rounds is laid: the walk of its code. Conditions: eight numbers, 64 bytes, the table's cells.
-/
import Derived.Test.YtbbgahoeokffbaaDoorKhXrightx1
import Derived.Test.YtbbgahoeokffbaaDoorKhExtLaws
import Derived.Outline
import Derived.KernelRfl
import Derived.IntWalk
import Derived.WalkKit
import Derived.WalkSpells
import Derived.Deep.QuietTactic
import Derived.Deep.LoopGhost
import Derived.BigQuiet
import Derived.RegionTactic
import Derived.BigRegion
import Derived.StillTailTactics
import Derived.WalkLawsBesides
set_option linter.unusedVariables false
set_option linter.unusedSimpArgs false
namespace Go.Proofs.YtbbgahoeokffbaaDoor.Sha
open Go Go.RowKit Go.Proofs.YtbbgahoeokffbaaDoor.Xright Go.Proofs.YtbbgahoeokffbaaDoorW.PrintWords
def u32s (l : List Int) : Array Value := (l.map (Value.int .u32)).toArray
def zeros64 : List Int := List.replicate 64 0
theorem cellOf {w : World} {g : Nat} {l : List Int} {t : TypeId} (h : w.heap[g]? = some (.cells (u32s l) t (0, 0))) (i : Nat) (hi : i < l.length) : w.cell? ⟨g, i, none⟩ = some (.int .u32 (l.getD i 0)) := by
  rw [blk_cell h i]
  simp [u32s, List.getElem?_eq_getElem hi, List.getD_eq_getElem?_getD]
theorem setOf {w : World} {g : Nat} {l : List Int} {t : TypeId} (h : w.heap[g]? = some (.cells (u32s l) t (0, 0))) (i : Nat) (x : Int) : (w.setCell ⟨g, i, none⟩ (.int .u32 x)).heap[g]? = some (.cells (u32s (l.set i x)) t (0, 0)) := by
  refine (blk_set h i _).trans ?_
  simp [u32s, List.map_set]
def rr (a k : Int) : Int := (impl_right.f a k).getD 0
theorem rr7 (a : Int) : impl_right.f a 7 = some (rr a 7) := by kernel_rfl
theorem rr18 (a : Int) : impl_right.f a 18 = some (rr a 18) := by kernel_rfl
theorem rr17 (a : Int) : impl_right.f a 17 = some (rr a 17) := by kernel_rfl
theorem rr19 (a : Int) : impl_right.f a 19 = some (rr a 19) := by kernel_rfl
def b4 (s : ByteArray) (i : Nat) : Nat → List Int → List Int
  | 0, l => l
  | k + 1, l => (b4 s i k l).set i (bits BinOp.or IntKind.u32 ((b4 s i k l)[i]?.getD 0 * 256 % 4294967296) (bt s (4 * i + k) % 4294967296))
def mix (l : List Int) (i : Nat) : Int := (l[i - 16]?.getD 0 + bits BinOp.xor IntKind.u32 (bits BinOp.xor IntKind.u32 (rr (l[i - 15]?.getD 0) 7) (rr (l[i - 15]?.getD 0) 18)) (l[i - 15]?.getD 0 / 8) + l[i - 7]?.getD 0 + bits BinOp.xor IntKind.u32 (bits BinOp.xor IntKind.u32 (rr (l[i - 2]?.getD 0) 17) (rr (l[i - 2]?.getD 0) 19)) (l[i - 2]?.getD 0 / 1024)) % 4294967296
def wt (s : ByteArray) : Nat → List Int
  | 0 => zeros64
  | i + 1 => if i < 16 then b4 s i 4 (wt s i) else (wt s i).set i (mix (wt s i) i)
theorem b4_len (s : ByteArray) (i k : Nat) (l : List Int) : (b4 s i k l).length = l.length := by
  induction k with
  | zero => rfl
  | succ k ih => simp [b4, ih]
theorem wt_len (s : ByteArray) (i : Nat) : (wt s i).length = 64 := by
  induction i with
  | zero => simp [wt, zeros64]
  | succ i ih => rw [wt]; split <;> simp [b4_len, ih]
def zeros8 : List Int := List.replicate 8 0
theorem info66 : (Tryd.prog.info? 66).map (·.size) = some 8 := by kernel_rfl
theorem ones32 (l : List Int) : (u32s l).all (·.oneCell') = true := by simp [u32s, Value.oneCell']
theorem size32 (l : List Int) : (u32s l).size = l.length := by simp [u32s]
def roots : List Int := [0x428a2f98, 0x71374491, 0xb5c0fbcf, 0xe9b5dba5, 0x3956c25b, 0x59f111f1, 0x923f82a4, 0xab1c5ed5,
    0xd807aa98, 0x12835b01, 0x243185be, 0x550c7dc3, 0x72be5d74, 0x80deb1fe, 0x9bdc06a7, 0xc19bf174,
    0xe49b69c1, 0xefbe4786, 0x0fc19dc6, 0x240ca1cc, 0x2de92c6f, 0x4a7484aa, 0x5cb0a9dc, 0x76f988da,
    0x983e5152, 0xa831c66d, 0xb00327c8, 0xbf597fc7, 0xc6e00bf3, 0xd5a79147, 0x06ca6351, 0x14292967,
    0x27b70a85, 0x2e1b2138, 0x4d2c6dfc, 0x53380d13, 0x650a7354, 0x766a0abb, 0x81c2c92e, 0x92722c85,
    0xa2bfe8a1, 0xa81a664b, 0xc24b8b70, 0xc76c51a3, 0xd192e819, 0xd6990624, 0xf40e3585, 0x106aa070,
    0x19a4c116, 0x1e376c08, 0x2748774c, 0x34b0bcb5, 0x391c0cb3, 0x4ed8aa4a, 0x5b9cca4f, 0x682e6ff3,
    0x748f82ee, 0x78a5636f, 0x84c87814, 0x8cc70208, 0x90befffa, 0xa4506ceb, 0xbef9a3f7, 0xc67178f2]
def Roots (w : World) : Prop := ∀ j : Nat, j < 64 → w.cell? ⟨1, j, none⟩ = some (.int .u32 (roots.getD j 0))
theorem roots_below {w w' : World} (h : Roots w) (hb : Below w.heap.size w w') : Roots w' := fun j hj => (hb.cell (World.block_lt_of_cell? w _ (h j hj))).trans (h j hj)
def T1 (L W : List Int) (i : Nat) : Int := L[7]?.getD 0 + bits BinOp.xor IntKind.u32 (bits BinOp.xor IntKind.u32 (rr (L[4]?.getD 0) 6) (rr (L[4]?.getD 0) 11)) (rr (L[4]?.getD 0) 25) + bits BinOp.xor IntKind.u32 (bits BinOp.and IntKind.u32 (L[4]?.getD 0) (L[5]?.getD 0)) (bits BinOp.and IntKind.u32 (bits BinOp.xor IntKind.u32 IntKind.u32.max (L[4]?.getD 0)) (L[6]?.getD 0)) + roots[i]?.getD 0 + W[i]?.getD 0
def T2 (L : List Int) : Int := bits BinOp.xor IntKind.u32 (bits BinOp.xor IntKind.u32 (rr (L[0]?.getD 0) 2) (rr (L[0]?.getD 0) 13)) (rr (L[0]?.getD 0) 22) + bits BinOp.xor IntKind.u32 (bits BinOp.xor IntKind.u32 (bits BinOp.and IntKind.u32 (L[0]?.getD 0) (L[1]?.getD 0)) (bits BinOp.and IntKind.u32 (L[0]?.getD 0) (L[2]?.getD 0))) (bits BinOp.and IntKind.u32 (L[1]?.getD 0) (L[2]?.getD 0))
def nextS (L W : List Int) (i : Nat) : List Int := [(T1 L W i + T2 L) % 4294967296, L[0]?.getD 0, L[1]?.getD 0, L[2]?.getD 0, (L[3]?.getD 0 + T1 L W i) % 4294967296, L[4]?.getD 0, L[5]?.getD 0, L[6]?.getD 0]
def rs (s : ByteArray) (l : List Int) : Nat → List Int
  | 0 => l
  | i + 1 => nextS (rs s l i) (wt s 64) i
def fs (S l : List Int) : Nat → List Int
  | 0 => l
  | i + 1 => (fs S l i).set i (((fs S l i)[i]?.getD 0 + S[i]?.getD 0) % 4294967296)
theorem fs_len (S l : List Int) (i : Nat) : (fs S l i).length = l.length := by
  induction i with
  | zero => rfl
  | succ i ih => simp [fs, ih]
/-- What 'taken' answers: the state behind the block s. -/
def takenF (l : List Int) (s : ByteArray) : List Int := fs (rs s l 64) l 8
theorem takenF_len (l : List Int) (s : ByteArray) : (takenF l s).length = l.length := fs_len _ _ _
theorem rs_len (s : ByteArray) (l : List Int) (i : Nat) (hl : l.length = 8) : (rs s l i).length = 8 := by
  induction i with
  | zero => exact hl
  | succ i ih => rfl
theorem row_same {w : World} {g : Nat} {cs : Array Value} {t : TypeId} {fr : Nat × Nat} (h : w.heap[g]? = some (.cells cs t fr)) (cs' : Array Value) : (w.setRow g cs').heap[g]? = some (.cells cs' t fr) := by
  simp [World.setRow, Array.getElem?_modify, h]
theorem row_far {w : World} {g k : Nat} {o : Obj} (h : w.heap[k]? = some o) (hne : k ≠ g) (cs' : Array Value) : (w.setRow g cs').heap[k]? = some o := by
  simp [World.setRow, Array.getElem?_modify, h]
  intro hh
  exact absurd hh.symm hne
theorem row_below {B : Nat} {u w : World} (h : Below B u w) {g : Nat} (hg : B ≤ g) (cs' : Array Value) : Below B u (w.setRow g cs') :=
  h.trans ⟨rfl, rfl, rfl, by simp [World.setRow], fun k hk => by
    simp [World.setRow, Array.getElem?_modify]
    intro hh
    omega⟩
section
set_option maxHeartbeats 8000000 in
set_option maxRecDepth 100000 in
theorem rot_still (a0 : Int) (a1 : Int) (r : Int) (w : World) (h : bits_RotateLeft32.f a0 a1 = some r) :
    Calls Tryd.prog 89 #[.int .u32 a0, .int .i64 a1] w fun e w' => e = .returned (.int .u32 r) ∧ w' = w := by
  have H : (if 0 ≤ (Go.bits .and .u64 (IntKind.u64.wrap (a1)) 31) then (if 0 ≤ (IntKind.u64.wrap (32 - (Go.bits .and .u64 (IntKind.u64.wrap (a1)) 31))) then (some (Go.bits .or .u32 (shl .u32 a0 (Go.bits .and .u64 (IntKind.u64.wrap (a1)) 31)) (shr .u32 a0 (IntKind.u64.wrap (32 - (Go.bits .and .u64 (IntKind.u64.wrap (a1)) 31)))))) else (none)) else (none)) = some r := h
  clear h
  obtain ⟨ji3, hji3⟩ : ∃ j_ : Int, (Go.bits .and .u64 (IntKind.u64.wrap (a1)) 31) = j_ := ⟨_, rfl⟩
  replace H : (if 0 ≤ (ji3) then (if 0 ≤ (IntKind.u64.wrap (32 - (ji3))) then (some (Go.bits .or .u32 (shl .u32 a0 (ji3)) (shr .u32 a0 (IntKind.u64.wrap (32 - (ji3)))))) else (none)) else (none)) = some r := by first | (rw [hji3] at H; exact H) | (simp only [hji3] at H ⊢; exact H)
  by_cases c4 : 0 ≤ (ji3)
  · rw [if_pos c4] at H
    have c4b0 := eq_true c4
    have c4b1 : decide (0 ≤ (ji3)) = true := decide_eq_true c4
    clear c4
    obtain ⟨ji5, hji5⟩ : ∃ j_ : Int, (shl .u32 a0 (ji3)) = j_ := ⟨_, rfl⟩
    replace H : (if 0 ≤ (IntKind.u64.wrap (32 - (ji3))) then (some (Go.bits .or .u32 (ji5) (shr .u32 a0 (IntKind.u64.wrap (32 - (ji3)))))) else (none)) = some r := by first | (rw [hji5] at H; exact H) | (simp only [hji5] at H ⊢; exact H)
    have hji5_ : (IntKind.u32.wrap (a0 * 2 ^ min (ji3).toNat 32)) = ji5 := hji5
    have hji5z : (ji3) ≤ 32 → (IntKind.u32.wrap (a0 * 2 ^ (ji3).toNat)) = ji5 := shl_small hji5
    obtain ⟨ji6, hji6⟩ : ∃ j_ : Int, (IntKind.u64.wrap (32 - (ji3))) = j_ := ⟨_, rfl⟩
    replace H : (if 0 ≤ (ji6) then (some (Go.bits .or .u32 (ji5) (shr .u32 a0 (ji6)))) else (none)) = some r := by first | (rw [hji6] at H; exact H) | (simp only [hji6] at H ⊢; exact H)
    by_cases c7 : 0 ≤ (ji6)
    · rw [if_pos c7] at H
      have c7b0 := eq_true c7
      have c7b1 : decide (0 ≤ (ji6)) = true := decide_eq_true c7
      clear c7
      obtain ⟨ji8, hji8⟩ : ∃ j_ : Int, (shr .u32 a0 (ji6)) = j_ := ⟨_, rfl⟩
      replace H : (some (Go.bits .or .u32 (ji5) (ji8))) = some r := by first | (rw [hji8] at H; exact H) | (simp only [hji8] at H ⊢; exact H)
      have hji8_ : (a0 / 2 ^ min (ji6).toNat 32) = ji8 := hji8
      have hji8z : (ji6) ≤ 32 → (a0 / 2 ^ (ji6).toNat) = ji8 := shr_small hji8
      obtain rfl := Option.some.inj H
      go_enter Tryd.func89, Tryd.ntmps89
      go_wp2
      go_ret
      exact ⟨by first | rfl | (simp; done) | (simp only [← hji3, ← hji5, ← hji6, ← hji8] <;> (first | rfl | simp)) | (simp [*]; done), rfl⟩
    · rw [if_neg c7] at H
      exact absurd H (by simp)
  · rw [if_neg c4] at H
    exact absurd H (by simp)
set_option maxHeartbeats 8000000 in
set_option maxRecDepth 100000 in
theorem right_still (a0 : Int) (a1 : Int) (r : Int) (w : World) (h : impl_right.f a0 a1 = some r) :
    Calls Tryd.prog 76 #[.int .u32 a0, .int .i64 a1] w fun e w' => e = .returned (.int .u32 r) ∧ w' = w := by
  have H : ((bits_RotateLeft32.f a0 (wrap64 (-a1))).bind fun t101 => (some t101)) = some r := h
  clear h
  replace H := Option.bind_eq_some_iff.mp H
  obtain ⟨t101, A30, H⟩ := H
  replace H : (some t101) = some r := H
  have A3 := Aside0.mk A30
  clear A30
  obtain rfl := Option.some.inj H
  go_enter Tryd.func76, Tryd.ntmps76
  go_wp2_with (fail)
  go_at_call 89
  refine (rot_still a0 (wrap64 (-a1)) t101 _ A3.out).mono ?_
  rintro e w' ⟨rfl, hw_⟩
  have hw_2 := hw_.symm
  clear hw_
  subst hw_2
  go_wp2
  go_ret
  exact ⟨by first | rfl | (simp; done) | (simp [*]; done), rfl⟩
end
theorem right_rr (x k : Int) (w : World) (h : impl_right.f x k = some (rr x k)) : Calls Tryd.prog 76 #[.int .u32 x, .int .i64 k] w fun e w' => e = .returned (.int .u32 (rr x k)) ∧ w' = w := right_still x k _ w h
set_option maxHeartbeats 16000000 in
set_option maxRecDepth 100000 in
theorem impl_taken.calls (l : List Int) (hl : l.length = 8) (s : ByteArray) (hs : s.size = 64) (w : World) (hG : Roots w) : Calls Tryd.prog 57 #[.agg (u32s l), .string s] w fun e w' => e = .returned (.agg (u32s (takenF l s))) ∧ Below w.heap.size w w' := by
  have HS := Aside0.mk hs
  have HL := Aside0.mk hl
  have HG := Aside0.mk hG
  clear hs hl hG
  have HB := Aside0.mk (Below.refl w.heap.size w)
  go_enter Tryd.func57, Tryd.ntmps57
  go_wp2_with (first | ((with_reducible refine gate_dst (N := 2) rfl ?_); refine box_event ?hg (N := 2) ?hd (cs := u32s l) (t := 66) ?hr ?_; (case hd => rfl); (case hg => rfl); (case hr => first | (go_simp; done) | (go_simp; rfl)); intro g2 hg w2 hbox hb; have N2 := Aside0.mk (show w.heap.size ≤ g2 by rw [hg]; exact Nat.le_refl _); have n0_ := Aside0.mk (below_step HB.out hb); have B2 := Aside0.mk hbox; clear HB; have HB := n0_; clear n0_ hb hbox hg) | ((with_reducible refine gate_dst (N := 4) rfl ?_); refine box_event ?hg (N := 4) ?hd (cs := u32s zeros8) (t := 66) ?hr ?_; (case hd => rfl); (case hg => rfl); (case hr => first | (go_simp; done) | (go_simp; rfl)); intro g4 hg w4 hbox hb; have N4 := Aside0.mk (show g2 < g4 by rw [hg]; exact blk_lt B2.out); have n0_ := Aside0.mk (below_step HB.out hb); have n1_ := Aside0.mk (blk_below B2.out hb); have B4 := Aside0.mk hbox; clear HB B2; have HB := n0_; have B2 := n1_; clear n0_ n1_ hb hbox hg) | ((with_reducible refine gate_dst (N := 5) rfl ?_); refine box_event ?hg (N := 5) ?hd (cs := u32s zeros64) (t := 86) ?hr ?_; (case hd => rfl); (case hg => rfl); (case hr => first | (go_simp; done) | (go_simp; rfl)); intro g5 hg w5 hbox hb; have N5 := Aside0.mk (show g4 < g5 by rw [hg]; exact blk_lt B4.out); have n0_ := Aside0.mk (below_step HB.out hb); have n1_ := Aside0.mk (blk_below B2.out hb); have n2_ := Aside0.mk (blk_below B4.out hb); have B5 := Aside0.mk hbox; clear HB B2 B4; have HB := n0_; have B2 := n1_; have B4 := n2_; clear n0_ n1_ n2_ hb hbox hg))
  go_loopg [21] 65 (fun kq v21 w' => ∃ i : Nat, v21 = .int .i64 (i : Int) ∧ Aside0 (i + kq = 65) ∧ Aside0 (i ≤ 64) ∧ Aside0 (w'.heap[g2]? = some (.cells (u32s l) 66 (0, 0))) ∧ Aside0 (w'.heap[g4]? = some (.cells (u32s zeros8) 66 (0, 0))) ∧ Aside0 (w'.heap[g5]? = some (.cells (u32s (wt s i)) 86 (0, 0))) ∧ Aside0 (Below w.heap.size w w'))
  case atStart => exact ⟨0, rfl, ⟨rfl⟩, ⟨by omega⟩, B2, B4, B5, HB⟩
  case round =>
    clear HB B2 B4 B5
    obtain ⟨i, rfl, HI, HI6, B2, B4, B5, HB⟩ := hrel
    cases gk with
    | zero =>
      exfalso
      have := HI.out
      have := HI6.out
      omega
    | succ k1 =>
      by_cases hi : (i : Int) < 64
      · by_cases h16 : (i : Int) < 16
        · go_wp2
          go_loopg [26] 5 (fun kq v26 w' => ∃ k : Nat, v26 = .int .i64 (k : Int) ∧ Aside0 (k + kq = 5) ∧ Aside0 (k ≤ 4) ∧ Aside0 (w'.heap[g2]? = some (.cells (u32s l) 66 (0, 0))) ∧ Aside0 (w'.heap[g4]? = some (.cells (u32s zeros8) 66 (0, 0))) ∧ Aside0 (w'.heap[g5]? = some (.cells (u32s (b4 s i k (wt s i))) 86 (0, 0))) ∧ Aside0 (Below w.heap.size w w'))
          case atStart => exact ⟨0, rfl, ⟨rfl⟩, ⟨by omega⟩, B2, B4, B5, HB⟩
          case round =>
            clear HB B2 B4 B5
            obtain ⟨k, rfl, HK, HK4, B2, B4, B5, HB⟩ := hrel
            cases gk with
            | zero =>
              exact absurd HK4.out (by have := HK.out; omega)
            | succ k2 =>
              by_cases hk : (k : Int) < 4
              · have hz := HS.out
                have i0 : 0 ≤ (i : Int) := by omega
                have hc := cellOf B5.out i (by rw [b4_len, wt_len]; omega)
                have hf := blk_frozen B5.out i
                have hidx : 4 * (i : Int) + (k : Int) < (s.size : Int) := by omega
                have hidx0 : 0 ≤ 4 * (i : Int) + (k : Int) := by omega
                have hbt := bt_at s (4 * (i : Int) + (k : Int))
                clear hz
                go_wp2
                go_region
                all_goals go_wp2
                go_roundg k2
                case measure => omega
                case rel =>
                  have ne2 := N4.out
                  have ne5 := N5.out
                  have n2 := N2.out
                  refine ⟨k + 1, rfl, ⟨by have := HK.out; omega⟩, ⟨by omega⟩, ⟨?_⟩, ⟨?_⟩, ⟨?_⟩, ⟨?_⟩⟩
                  · exact blk_far B2.out (by simp; omega) _
                  · exact blk_far B4.out (by simp; omega) _
                  · exact setOf B5.out i _
                  · exact (HB.out.setCell (by simp; omega) _).drew
              · have e4 : k = 4 := by have := HK.out; omega
                subst e4
                go_wp2
                go_roundg k1
                case measure => omega
                case rel =>
                  refine ⟨i + 1, rfl, ⟨by have := HI.out; omega⟩, ⟨by omega⟩, B2, B4, ⟨?_⟩, HB⟩
                  rw [wt, if_pos (by omega)]
                  exact B5.out
        · have hc15 := cellOf B5.out (i - 15) (by rw [wt_len]; omega)
          have hc2 := cellOf B5.out (i - 2) (by rw [wt_len]; omega)
          go_wp2
          go_quiet (fail)
          generalize hwx : wr.drewN _ = wx
          have B2x := Aside0.mk (blk_at hwx B2.out)
          have B4x := Aside0.mk (blk_at hwx B4.out)
          have B5x := Aside0.mk (blk_at hwx B5.out)
          have HBx := Aside0.mk (show Below w.heap.size w wx by subst hwx; exact below_drewN HB.out _)
          clear hwx HB B2 B4 B5 hc15 hc2
          generalize hx : (wt s i)[i - 15]?.getD 0 = x
          generalize hy : (wt s i)[i - 2]?.getD 0 = y
          have hc16 := cellOf B5x.out (i - 16) (by rw [wt_len]; omega)
          have hc7 := cellOf B5x.out (i - 7) (by rw [wt_len]; omega)
          rw [← show ((i : Int) - 16).toNat = i - 16 by omega] at hc16
          rw [← show ((i : Int) - 7).toNat = i - 7 by omega] at hc7
          have hf := blk_frozen B5x.out i
          have e16 : IntKind.i64.wrap ((i : Int) - 16) = (i : Int) - 16 := IntWalk.i64_in _ (by omega)
          have e7 : IntKind.i64.wrap ((i : Int) - 7) = (i : Int) - 7 := IntWalk.i64_in _ (by omega)
          have p16 : (0 : Int) ≤ (i : Int) - 16 := by omega
          have p7 : (7 : Int) ≤ (i : Int) := by omega
          have q16 : (i : Int) - 16 < 64 := by omega
          have q7 : (i : Int) - 7 < 64 := by omega
          go_wp2
          go_still_tail 29, (by kernel_rfl)
          repeat still_step
          still_call (right_still x 7 _ _ (rr7 x))
          repeat still_step
          still_call (right_still x 18 _ _ (rr18 x))
          repeat still_step
          still_call (right_still y 17 _ _ (rr17 y))
          repeat still_step
          still_call (right_still y 19 _ _ (rr19 y))
          repeat still_step
          refine wpStill_nil ?_
          change wpList _ _ _ _ _ wx.drew
          generalize hwy : wx.drew = wy
          have B2y := Aside0.mk (blk_at (m := 1) hwy B2x.out)
          have B4y := Aside0.mk (blk_at (m := 1) hwy B4x.out)
          have B5y := Aside0.mk (blk_at (m := 1) hwy B5x.out)
          have HBy := Aside0.mk (below_at (m := 1) hwy HBx.out)
          clear hwy HBx B2x B4x B5x hc16 hc7 hf
          have hf := blk_frozen B5y.out i
          have hc := cellOf B5y.out i (by rw [wt_len]; omega)
          clear e16 e7 p16 p7 q16 q7
          go_wp2
          go_roundg k1
          case measure => omega
          case rel =>
            have ne2 := N4.out
            have ne5 := N5.out
            have n2 := N2.out
            refine ⟨i + 1, rfl, ⟨by have := HI.out; omega⟩, ⟨by omega⟩, ⟨?_⟩, ⟨?_⟩, ⟨?_⟩, ⟨?_⟩⟩
            · exact blk_far B2y.out (by simp; omega) _
            · exact blk_far B4y.out (by simp; omega) _
            · rw [wt, if_neg (by omega)]
              subst hx hy
              exact setOf B5y.out i _
            · exact HBy.out.setCell (by simp; omega) _
      · have e64 : i = 64 := by have := HI6.out; omega
        subst e64
        go_wp2_with (first | ((with_reducible refine gate_dst (N := 82) rfl ?_); refine wpList_load_row rfl 66 _ rfl g2 ?hx 66 (u32s l) (0, 0) _ B2.out Tryd.underlying66 rfl ?hi ?_; (case hx => rfl); (case hi => rw [size32, HL.out]; exact info66)) | ((with_reducible refine gate_dst (N := 10) rfl ?_); refine box_event ?hg (N := 10) ?hd (cs := u32s zeros8) (t := 66) ?hr ?_; (case hd => rfl); (case hg => rfl); (case hr => first | (go_simp; done) | (go_simp; rfl)); intro g10 hg w10 hbox hb; have N10 := Aside0.mk (show g5 < g10 by rw [hg]; exact blk_lt B5.out); have n0_ := Aside0.mk (below_step HB.out hb); have n1_ := Aside0.mk (blk_below B2.out hb); have n2_ := Aside0.mk (blk_below B4.out hb); have n3_ := Aside0.mk (blk_below B5.out hb); have B10 := Aside0.mk hbox; clear HB B2 B4 B5; have HB := n0_; have B2 := n1_; have B4 := n2_; have B5 := n3_; clear n0_ n1_ n2_ n3_ hb hbox hg) | ((with_reducible refine gate_store (t := 66) (p := 10) (v := .tmp 82) rfl ?_); refine wpList_store_row rfl 66 _ _ rfl g10 (u32s l) ?hx ?hy 66 (u32s zeros8) B10.out ?hi ?ho (ones32 _) ?_; (case hx => rfl); (case hy => rfl); (case hi => rw [size32, HL.out]; exact info66); (case ho => rw [size32, size32, HL.out]; rfl)))
        go_loopg [83] 65 (fun kq v83 w' => ∃ i : Nat, v83 = .int .i64 (i : Int) ∧ Aside0 (i + kq = 65) ∧ Aside0 (i ≤ 64) ∧ Aside0 (w'.heap[g10]? = some (.cells (u32s (rs s l i)) 66 (0, 0))) ∧ Aside0 (w'.heap[g2]? = some (.cells (u32s l) 66 (0, 0))) ∧ Aside0 (w'.heap[g4]? = some (.cells (u32s zeros8) 66 (0, 0))) ∧ Aside0 (w'.heap[g5]? = some (.cells (u32s (wt s 64)) 86 (0, 0))) ∧ Aside0 (Below w.heap.size w w'))
        case atStart =>
          have n2 := N2.out
          have n4 := N4.out
          have n5 := N5.out
          have n10 := N10.out
          exact ⟨0, rfl, ⟨rfl⟩, ⟨by omega⟩, ⟨row_same B10.out _⟩, ⟨row_far B2.out (by omega) _⟩, ⟨row_far B4.out (by omega) _⟩, ⟨row_far B5.out (by omega) _⟩, ⟨row_below HB.out (by omega) _⟩⟩
        case round =>
          clear HB B2 B4 B5 B10 hi HI HI6
          obtain ⟨i, rfl, HI, HI6, B10, B2, B4, B5, HB⟩ := hrel
          cases gk with
          | zero => exact absurd HI6.out (by have := HI.out; omega)
          | succ k2 =>
            by_cases hi : (i : Int) < 64
            · have hc0 := cellOf B10.out 0 (by rw [rs_len _ _ _ HL.out]; omega)
              have hc1 := cellOf B10.out 1 (by rw [rs_len _ _ _ HL.out]; omega)
              have hc2 := cellOf B10.out 2 (by rw [rs_len _ _ _ HL.out]; omega)
              have hc4 := cellOf B10.out 4 (by rw [rs_len _ _ _ HL.out]; omega)
              have hc5 := cellOf B10.out 5 (by rw [rs_len _ _ _ HL.out]; omega)
              have hc6 := cellOf B10.out 6 (by rw [rs_len _ _ _ HL.out]; omega)
              go_wp2
              go_quiet (fail)
              generalize hwx : wr.drewN _ = wx
              have B10x := Aside0.mk (blk_at hwx B10.out)
              have B2x := Aside0.mk (blk_at hwx B2.out)
              have B4x := Aside0.mk (blk_at hwx B4.out)
              have B5x := Aside0.mk (blk_at hwx B5.out)
              have HBx := Aside0.mk (below_at hwx HB.out)
              clear hwx HB B2 B4 B5 B10 hc0 hc1 hc2 hc4 hc5 hc6
              generalize hsa : (rs s l i)[0]?.getD 0 = sa
              generalize hsb : (rs s l i)[1]?.getD 0 = sb
              generalize hsc : (rs s l i)[2]?.getD 0 = sc
              generalize hse : (rs s l i)[4]?.getD 0 = se
              generalize hsf : (rs s l i)[5]?.getD 0 = sf
              generalize hsg : (rs s l i)[6]?.getD 0 = sg
              have hc7 := cellOf B10x.out 7 (by rw [rs_len _ _ _ HL.out]; omega)
              have hc5 := cellOf B5x.out i (by rw [wt_len]; omega)
              have hroot := roots_below HG.out HBx.out i (by omega)
              go_wp2
              go_quiet ((go_at_call 76; exact Calls.quiet_of_same (right_rr _ _ _ (by kernel_rfl))))
              generalize hwy : wx.drewN _ = wy
              have B10y := Aside0.mk (blk_at hwy B10x.out)
              have B2y := Aside0.mk (blk_at hwy B2x.out)
              have B4y := Aside0.mk (blk_at hwy B4x.out)
              have B5y := Aside0.mk (blk_at hwy B5x.out)
              have HBy := Aside0.mk (below_at hwy HBx.out)
              clear hwy HBx B2x B4x B5x B10x hc7 hc5 hroot
              have hc3 := cellOf B10y.out 3 (by rw [rs_len _ _ _ HL.out]; omega)
              go_wp2_with (fail)
              go_at_call 76
              refine (right_rr sa 2 _ (by kernel_rfl)).mono ?_
              rintro e w' ⟨rfl, hw_⟩
              have hw_2 := hw_.symm
              clear hw_
              subst hw_2
              go_wp2_with (fail)
              go_at_call 76
              refine (right_rr sa 13 _ (by kernel_rfl)).mono ?_
              rintro e w' ⟨rfl, hw_⟩
              have hw_2 := hw_.symm
              clear hw_
              subst hw_2
              go_wp2_with (fail)
              go_at_call 76
              refine (right_rr sa 22 _ (by kernel_rfl)).mono ?_
              rintro e w' ⟨rfl, hw_⟩
              have hw_2 := hw_.symm
              clear hw_
              subst hw_2
              go_wp2_with (((with_reducible refine gate_store (t := 66) (p := 10) (v := .tmp 159) rfl ?_); refine wpList_store_row rfl 66 _ _ rfl g10 ?cs ?hx ?hy 66 (u32s (rs s l i)) B10y.out ?hi ?ho ?h1 ?_; (case hx => rfl); (case hy => rfl); (case hi => exact info66); (case ho => rw [size32, rs_len _ _ _ HL.out]; rfl); (case h1 => simp [Value.oneCell'])))
              go_roundg k2
              case measure => omega
              case rel =>
                have n2 := N2.out
                have n4 := N4.out
                have n5 := N5.out
                have n10 := N10.out
                refine ⟨i + 1, rfl, ⟨by have := HI.out; omega⟩, ⟨by omega⟩, ⟨?_⟩, ⟨row_far B2y.out (by omega) _⟩, ⟨row_far B4y.out (by omega) _⟩, ⟨row_far B5y.out (by omega) _⟩, ⟨row_below HBy.out (by omega) _⟩⟩
                subst hsa hsb hsc hse hsf hsg
                exact row_same B10y.out _
            · have e64 : i = 64 := by have := HI6.out; omega
              subst e64
              go_wp2
              go_loopg [161] 9 (fun kq v161 w' => ∃ i : Nat, v161 = .int .i64 (i : Int) ∧ Aside0 (i + kq = 9) ∧ Aside0 (i ≤ 8) ∧ Aside0 (w'.heap[g10]? = some (.cells (u32s (rs s l 64)) 66 (0, 0))) ∧ Aside0 (w'.heap[g2]? = some (.cells (u32s (fs (rs s l 64) l i)) 66 (0, 0))) ∧ Aside0 (w'.heap[g4]? = some (.cells (u32s zeros8) 66 (0, 0))) ∧ Aside0 (Below w.heap.size w w'))
              case atStart => exact ⟨0, rfl, ⟨rfl⟩, ⟨by omega⟩, B10, B2, B4, HB⟩
              case round =>
                clear HB B2 B4 B5 B10 hi HI HI6
                obtain ⟨i, rfl, HI, HI6, B10, B2, B4, HB⟩ := hrel
                cases gk with
                | zero => exact absurd HI6.out (by have := HI.out; omega)
                | succ k3 =>
                  by_cases hi : (i : Int) < 8
                  · have hc2 := cellOf B2.out i (by rw [fs_len, HL.out]; omega)
                    have hc10 := cellOf B10.out i (by rw [rs_len _ _ _ HL.out]; omega)
                    have hf := blk_frozen B2.out i
                    go_wp2
                    go_region
                    all_goals go_wp2
                    go_roundg k3
                    case measure => omega
                    case rel =>
                      have n2 := N2.out
                      have n4 := N4.out
                      have n5 := N5.out
                      have n10 := N10.out
                      refine ⟨i + 1, rfl, ⟨by have := HI.out; omega⟩, ⟨by omega⟩, ⟨?_⟩, ⟨?_⟩, ⟨?_⟩, ⟨?_⟩⟩
                      · exact blk_far B10.out (by simp; omega) _
                      · exact setOf B2.out i _
                      · exact blk_far B4.out (by simp; omega) _
                      · exact (HB.out.setCell (by simp; omega) _).drew
                  · have e8 : i = 8 := by have := HI6.out; omega
                    subst e8
                    go_wp2_with (first | ((with_reducible refine gate_dst (N := 173) rfl ?_); refine wpList_load_row rfl 66 _ rfl g2 ?hx 66 (u32s (fs (rs s l 64) l 8)) (0, 0) _ B2.out Tryd.underlying66 rfl ?hi ?_; (case hx => rfl); (case hi => rw [size32, fs_len, HL.out]; exact info66)) | ((with_reducible refine gate_store (t := 66) (p := 4) (v := .tmp 173) rfl ?_); refine wpList_store_row rfl 66 _ _ rfl g4 (u32s (fs (rs s l 64) l 8)) ?hx ?hy 66 (u32s zeros8) B4.out ?hi ?ho (ones32 _) ?_; (case hx => rfl); (case hy => rfl); (case hi => rw [size32, fs_len, HL.out]; exact info66); (case ho => rw [size32, size32, fs_len, HL.out]; rfl)))
                    (try simp only [Exit.inBlock, Exit.then])
                    refine bodyPost_ret (results_cell_row rfl _ _ g4 66 (u32s (fs (rs s l 64) l 8)) (0, 0) _ rfl (row_same B4.out _) Tryd.underlying66 rfl (by rw [size32, fs_len, HL.out]; exact info66)) rfl ?_
                    exact ⟨rfl, row_below HB.out (by have := N2.out; have := N4.out; omega) _⟩
end Go.Proofs.YtbbgahoeokffbaaDoor.Sha

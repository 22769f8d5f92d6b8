/-
  The spec's block of the digest answers as the program's: plain laws. Conditions: a state of eight numbers below 2^32, a block of 64 bytes.
-/
import Derived.Test.YtbbgahoeokffbaaDoorKhXFnExactDigestx2
import Derived.Test.YtbbgahoeokffbaaDoorKhSha4
import Derived.Laws.BitsAllLaws
namespace Go.Proofs.YtbbgahoeokffbaaDoor.Sha
open Go Go.RowKit Go.Proofs.YtbbgahoeokffbaaDoorW.PrintWords Go.Proofs.YtbbgahoeokffbaaDoorW.PrintLast Go.Proofs.YtbbgahoeokffbaaDoorW.PrintMore Go.Proofs.YtbbgahoeokffbaaDoor.XFnExactDigest
set_option linter.unusedVariables false
set_option linter.unusedSimpArgs false
theorem or_comm32 (a b : Int) : bits .or .u32 a b = bits .or .u32 b a := by
  unfold bits
  simp only [BitVec.or_comm]
theorem turn7 (x : Int) : spec_l05Turn.f x 7 = some (rr x 7) := by
  rw [show spec_l05Turn.f x 7 = some (bits .or .u32 (shr .u32 x 7) (shl .u32 x 25)) by kernel_rfl, or_comm32]
  kernel_rfl
theorem turn18 (x : Int) : spec_l05Turn.f x 18 = some (rr x 18) := by
  rw [show spec_l05Turn.f x 18 = some (bits .or .u32 (shr .u32 x 18) (shl .u32 x 14)) by kernel_rfl, or_comm32]
  kernel_rfl
theorem turn17 (x : Int) : spec_l05Turn.f x 17 = some (rr x 17) := by
  rw [show spec_l05Turn.f x 17 = some (bits .or .u32 (shr .u32 x 17) (shl .u32 x 15)) by kernel_rfl, or_comm32]
  kernel_rfl
theorem turn19 (x : Int) : spec_l05Turn.f x 19 = some (rr x 19) := by
  rw [show spec_l05Turn.f x 19 = some (bits .or .u32 (shr .u32 x 19) (shl .u32 x 13)) by kernel_rfl, or_comm32]
  kernel_rfl
theorem turn6 (x : Int) : spec_l05Turn.f x 6 = some (rr x 6) := by
  rw [show spec_l05Turn.f x 6 = some (bits .or .u32 (shr .u32 x 6) (shl .u32 x 26)) by kernel_rfl, or_comm32]
  kernel_rfl
theorem turn11 (x : Int) : spec_l05Turn.f x 11 = some (rr x 11) := by
  rw [show spec_l05Turn.f x 11 = some (bits .or .u32 (shr .u32 x 11) (shl .u32 x 21)) by kernel_rfl, or_comm32]
  kernel_rfl
theorem turn25 (x : Int) : spec_l05Turn.f x 25 = some (rr x 25) := by
  rw [show spec_l05Turn.f x 25 = some (bits .or .u32 (shr .u32 x 25) (shl .u32 x 7)) by kernel_rfl, or_comm32]
  kernel_rfl
theorem turn2 (x : Int) : spec_l05Turn.f x 2 = some (rr x 2) := by
  rw [show spec_l05Turn.f x 2 = some (bits .or .u32 (shr .u32 x 2) (shl .u32 x 30)) by kernel_rfl, or_comm32]
  kernel_rfl
theorem turn13 (x : Int) : spec_l05Turn.f x 13 = some (rr x 13) := by
  rw [show spec_l05Turn.f x 13 = some (bits .or .u32 (shr .u32 x 13) (shl .u32 x 19)) by kernel_rfl, or_comm32]
  kernel_rfl
theorem turn22 (x : Int) : spec_l05Turn.f x 22 = some (rr x 22) := by
  rw [show spec_l05Turn.f x 22 = some (bits .or .u32 (shr .u32 x 22) (shl .u32 x 10)) by kernel_rfl, or_comm32]
  kernel_rfl
theorem rd_eq (l : List Int) (i : Nat) : rd l (i : Int) = l[i]?.getD 0 := by simp [rd, List.getD_eq_getElem?_getD]
/-- a number of four bytes -/
def W4 (b0 b1 b2 b3 : Int) : Int := ((b0 * 256 + b1) * 256 + b2) * 256 + b3
theorem join8 (x b : Int) (h0 : 0 ≤ x) (h1 : x < 16777216) (h2 : 0 ≤ b) (h3 : b < 256) : bits .or .u32 (x * 256 % 4294967296) (b % 4294967296) = x * 256 + b := by
  rw [u32_or _ _ (by omega) (by omega) (by omega) (by omega), nat_join 8 _ _ (by omega) (by omega)]
  omega
theorem spec_word (b0 b1 b2 b3 : Int) (h0 : 0 ≤ b0) (k0 : b0 ≤ 255) (h1 : 0 ≤ b1) (k1 : b1 ≤ 255) (h2 : 0 ≤ b2) (k2 : b2 ≤ 255) (h3 : 0 ≤ b3) (k3 : b3 ≤ 255) :
    bits .or .u32 (bits .or .u32 (bits .or .u32 (((b0 % 4294967296) * 16777216) % 4294967296) (((b1 % 4294967296) * 65536) % 4294967296)) (((b2 % 4294967296) * 256) % 4294967296)) (b3 % 4294967296) = W4 b0 b1 b2 b3 := by
  have e1 : bits .or .u32 (((b0 % 4294967296) * 16777216) % 4294967296) (((b1 % 4294967296) * 65536) % 4294967296) = b0 * 16777216 + b1 * 65536 := by
    rw [u32_or _ _ (by omega) (by omega) (by omega) (by omega), nat_join 24 _ _ (by omega) (by omega)]
    omega
  rw [e1]
  have e2 : bits .or .u32 (b0 * 16777216 + b1 * 65536) (((b2 % 4294967296) * 256) % 4294967296) = b0 * 16777216 + b1 * 65536 + b2 * 256 := by
    rw [u32_or _ _ (by omega) (by omega) (by omega) (by omega), nat_join 16 _ _ (by omega) (by omega)]
    omega
  rw [e2, u32_or _ _ (by omega) (by omega) (by omega) (by omega), nat_join 8 _ _ (by omega) (by omega)]
  unfold W4
  omega
/-- what four steps of 'taken' lay at a place that holds 0 -/
theorem b4_all (s : ByteArray) (i : Nat) (l : List Int) (hi : i < l.length) (hz : l[i]?.getD 0 = 0) : b4 s i 4 l = l.set i (W4 (bt s (4 * i)) (bt s (4 * i + 1)) (bt s (4 * i + 2)) (bt s (4 * i + 3))) := by
  have r0 := bt_range s (4 * (i : Int))
  have r1 := bt_range s (4 * (i : Int) + 1)
  have r2 := bt_range s (4 * (i : Int) + 2)
  have r3 := bt_range s (4 * (i : Int) + 3)
  have g (x : Int) : (l.set i x)[i]?.getD 0 = x := by rw [List.getElem?_set_self hi]; rfl
  have s1 : b4 s i 1 l = l.set i (bt s (4 * i)) := by
    simp only [b4]
    rw [hz, join8 0 _ (by omega) (by omega) (by simpa using r0.1) (by simp; omega)]
    simp
  have s2 : b4 s i 2 l = l.set i (bt s (4 * i) * 256 + bt s (4 * i + 1)) := by
    rw [b4, s1, g, join8 _ _ (by omega) (by omega) (by simpa using r1.1) (by simp; omega), List.set_set]
    simp
  have s3 : b4 s i 3 l = l.set i ((bt s (4 * i) * 256 + bt s (4 * i + 1)) * 256 + bt s (4 * i + 2)) := by
    rw [b4, s2, g, join8 _ _ (by omega) (by omega) (by simpa using r2.1) (by simp; omega), List.set_set]
    simp
  rw [b4, s3, g, join8 _ _ (by omega) (by omega) (by simpa using r3.1) (by simp; omega), List.set_set]
  simp [W4]
theorem wt_zero (s : ByteArray) (i : Nat) (hi : i ≤ 16) : ∀ j, i ≤ j → (wt s i)[j]?.getD 0 = 0 := by
  induction i with
  | zero =>
    intro j _
    rw [wt, zeros64, List.getElem?_replicate]
    split <;> rfl
  | succ i ih =>
    intro j hj
    rw [wt, if_pos (by omega), b4_all s i (wt s i) (by rw [wt_len]; omega) (ih (by omega) i (Nat.le_refl _)), List.getElem?_set_ne (by omega)]
    exact ih (by omega) j (by omega)
theorem blk_l0 (l : List Int) (s : ByteArray) (hs : s.size = 64) (d : Nat) : ∀ (k i : Nat), i + d = 16 → d + 1 ≤ k → spec_l05Block.l0 k l s (wt s i) (i : Int) = spec_l05Block.l1 (k - (d + 1)) l (wt s 16) 16 := by
  induction d with
  | zero =>
    intro k i hi hk
    obtain ⟨k, rfl⟩ : ∃ m, k = m + 1 := ⟨k - 1, by omega⟩
    obtain rfl : i = 16 := by omega
    rw [spec_l05Block.l0, if_neg (by omega), show k + 1 - (0 + 1) = k by omega]
  | succ d ih =>
    intro k i hi hk
    obtain ⟨k, rfl⟩ : ∃ m, k = m + 1 := ⟨k - 1, by omega⟩
    have e0 : wrap64 (4 * (i : Int)) = 4 * (i : Int) := by unfold wrap64; omega
    have e1 : wrap64 (4 * (i : Int) + 1) = 4 * (i : Int) + 1 := by unfold wrap64; omega
    have e2 : wrap64 (4 * (i : Int) + 2) = 4 * (i : Int) + 2 := by unfold wrap64; omega
    have e3 : wrap64 (4 * (i : Int) + 3) = 4 * (i : Int) + 3 := by unfold wrap64; omega
    have e4 : wrap64 ((i : Int) + 1) = ((i + 1 : Nat) : Int) := by unfold wrap64; omega
    have r0 := bt_range s (4 * (i : Int))
    have r1 := bt_range s (4 * (i : Int) + 1)
    have r2 := bt_range s (4 * (i : Int) + 2)
    have r3 := bt_range s (4 * (i : Int) + 3)
    rw [spec_l05Block.l0, e0, e1, e2, e3, e4, if_pos (by omega), if_pos (by omega), if_pos (by omega), if_pos (by omega), if_pos (by omega), if_pos (by omega), if_pos (by omega), if_pos (by omega), if_pos (by omega), if_pos (by omega), if_pos (by rw [wt_len]; omega),
      spec_word _ _ _ _ r0.1 r0.2 r1.1 r1.2 r2.1 r2.2 r3.1 r3.2, Int.toNat_natCast, ← b4_all s i (wt s i) (by rw [wt_len]; omega) (wt_zero s i (by omega) i (Nat.le_refl _))]
    have e5 : b4 s i 4 (wt s i) = wt s (i + 1) := by rw [wt, if_pos (by omega)]
    rw [e5, ih k (i + 1) (by omega) (by omega)]
    congr 1
    omega
theorem blk_l1 (l : List Int) (hl : l.length = 8) (s : ByteArray) (d : Nat) : ∀ (k i : Nat), 16 ≤ i → i + d = 64 → d + 1 ≤ k →
    spec_l05Block.l1 k l (wt s i) (i : Int) = spec_l05Block.l2 (k - (d + 1)) l (wt s 64) (rd l 0 % 4294967296) (rd l 1 % 4294967296) (rd l 2 % 4294967296) (rd l 3 % 4294967296) (rd l 4 % 4294967296) (rd l 5 % 4294967296) (rd l 6 % 4294967296) (rd l 7 % 4294967296) roots 0 := by
  induction d with
  | zero =>
    intro k i h16 hi hk
    obtain ⟨k, rfl⟩ : ∃ m, k = m + 1 := ⟨k - 1, by omega⟩
    obtain rfl : i = 64 := by omega
    rw [spec_l05Block.l1, if_neg (by omega), hl, show k + 1 - (0 + 1) = k by omega, show spec_l05Keys.f = some roots by kernel_rfl]
    rw [if_pos (by omega), if_pos (by omega), if_pos (by omega), if_pos (by omega), if_pos (by omega), if_pos (by omega), if_pos (by omega), if_pos (by omega), Option.bind_some]
  | succ d ih =>
    intro k i h16 hi hk
    obtain ⟨k, rfl⟩ : ∃ m, k = m + 1 := ⟨k - 1, by omega⟩
    have q0 : (i : Int) < 64 := by omega
    have q00 : (0 : Int) ≤ (i : Int) := by omega
    have q01 : (i : Int) < ((64 : Nat) : Int) := by omega
    have q15 : (0 : Int) ≤ ((i - 15 : Nat) : Int) := by omega
    have q2 : (0 : Int) ≤ ((i - 2 : Nat) : Int) := by omega
    have q16 : (0 : Int) ≤ ((i - 16 : Nat) : Int) := by omega
    have q7 : (0 : Int) ≤ ((i - 7 : Nat) : Int) := by omega
    have p15 : ((i - 15 : Nat) : Int) < ((64 : Nat) : Int) := by omega
    have p2 : ((i - 2 : Nat) : Int) < ((64 : Nat) : Int) := by omega
    have p16 : ((i - 16 : Nat) : Int) < ((64 : Nat) : Int) := by omega
    have p7 : ((i - 7 : Nat) : Int) < ((64 : Nat) : Int) := by omega
    have e6 := ih k (i + 1) (by omega) (by omega) (by omega)
    have ek : k + 1 - (d + 1 + 1) = k - (d + 1) := by omega
    have e5 : (wt s i).set i (mix (wt s i) i) = wt s (i + 1) := by rw [wt, if_neg (by omega)]
    have e15 : wrap64 ((i : Int) - 15) = ((i - 15 : Nat) : Int) := by unfold wrap64; omega
    have e2 : wrap64 ((i : Int) - 2) = ((i - 2 : Nat) : Int) := by unfold wrap64; omega
    have e16 : wrap64 ((i : Int) - 16) = ((i - 16 : Nat) : Int) := by unfold wrap64; omega
    have e7 : wrap64 ((i : Int) - 7) = ((i - 7 : Nat) : Int) := by unfold wrap64; omega
    have e4 : wrap64 ((i : Int) + 1) = ((i + 1 : Nat) : Int) := by unfold wrap64; omega
    have hw := wt_len s i
    rw [spec_l05Block.l1, e15, e2, e16, e7, e4, hw, if_pos q0, if_pos q15, if_pos p15, if_pos q2, if_pos p2, if_pos q16, if_pos p16]
    rw [turn7, turn18, turn17, turn19]
    simp only [Option.bind_some]
    rw [if_pos q7, if_pos p7, if_pos q00, if_pos q01, Int.toNat_natCast, ek, ← e6, ← e5]
    unfold mix
    simp only [rd_eq]
theorem blk_l2 (l : List Int) (hl : l.length = 8) (s : ByteArray) (d : Nat) : ∀ (k i : Nat) (a b c e f g h m : Int), rs s l i = [a, b, c, m, e, f, g, h] → i + d = 64 → d + 1 ≤ k →
    spec_l05Block.l2 k l (wt s 64) a b c m e f g h roots (i : Int) = spec_l05Block.l3 (k - (d + 1)) l (rs s l 64) [] 0 := by
  induction d with
  | zero =>
    intro k i a b c e f g h m hr hi hk
    obtain ⟨k, rfl⟩ : ∃ m, k = m + 1 := ⟨k - 1, by omega⟩
    obtain rfl : i = 64 := by omega
    rw [spec_l05Block.l2, if_neg (by omega), hr, show k + 1 - (0 + 1) = k by omega]
  | succ d ih =>
    intro k i a b c e f g h m hr hi hk
    obtain ⟨k, rfl⟩ : ∃ m, k = m + 1 := ⟨k - 1, by omega⟩
    have e4 : wrap64 ((i : Int) + 1) = ((i + 1 : Nat) : Int) := by unfold wrap64; omega
    have hw := wt_len s 64
    rw [spec_l05Block.l2, if_pos (by omega), turn6, turn11, turn25]
    simp only [Option.bind_some]
    rw [if_pos (by omega), if_pos (by rw [show roots.length = 64 by kernel_rfl]; omega), if_pos (by rw [hw]; omega), turn2, turn13, turn22, e4]
    simp only [Option.bind_some]
    have e5 : rs s l (i + 1) = nextS (rs s l i) (wt s 64) i := rfl
    rw [hr] at e5
    have ek : k + 1 - (d + 1 + 1) = k - (d + 1) := by omega
    rw [ek]
    refine ih k (i + 1) _ _ _ _ _ _ _ _ ?_ (by omega) (by omega)
    rw [e5]
    simp only [nextS, T1, T2, List.getElem?_cons_zero, List.getElem?_cons_succ, Option.getD_some, ← rd_eq]
    rfl
theorem fs_get (S l : List Int) (i j : Nat) (h : i ≤ j) : (fs S l i)[j]? = l[j]? := by
  induction i with
  | zero => rfl
  | succ i ih => rw [fs, List.getElem?_set_ne (by omega)]; exact ih (by omega)
theorem blk_l3 (l S : List Int) (hl : l.length = 8) (hS : S.length = 8) (d : Nat) : ∀ (k i : Nat), i + d = 8 → d + 1 ≤ k →
    spec_l05Block.l3 k l S ((fs S l i).take i) (i : Int) = some (fs S l 8) := by
  induction d with
  | zero =>
    intro k i hi hk
    obtain ⟨k, rfl⟩ : ∃ m, k = m + 1 := ⟨k - 1, by omega⟩
    obtain rfl : i = 8 := by omega
    rw [spec_l05Block.l3, if_neg (by omega), List.take_of_length_le (by rw [fs_len, hl]; omega)]
  | succ d ih =>
    intro k i hi hk
    obtain ⟨k, rfl⟩ : ∃ m, k = m + 1 := ⟨k - 1, by omega⟩
    have e4 : wrap64 ((i : Int) + 1) = ((i + 1 : Nat) : Int) := by unfold wrap64; omega
    rw [spec_l05Block.l3, if_pos (by omega), if_pos (by omega), if_pos (by omega), if_pos (by omega), if_pos (by rw [List.length_take, fs_len, hl]; omega), e4]
    have e5 : (fs S l i).take i ++ [(rd l (i : Int) + rd S (i : Int)) % 4294967296] = (fs S l (i + 1)).take (i + 1) := by
      rw [List.take_add_one, fs, List.take_set_of_le (by omega), List.getElem?_set_self (by rw [fs_len, hl]; omega), fs_get S l i i (Nat.le_refl _), rd_eq, rd_eq]
      rfl
    rw [e5]
    exact ih k (i + 1) (by omega) (by omega)
/-- A block of the spec's digest. -/
theorem block_spec (l : List Int) (hl : l.length = 8) (hw : Words l) (s : ByteArray) (hs : s.size = 64) (k : Nat) (hk : 200 ≤ k) : spec_l05Block.f k l s = some (takenF l s) := by
  have h0 := blk_l0 l s hs 16 k 0 (by omega) (by omega)
  have h1 := blk_l1 l hl s 48 (k - (16 + 1)) 16 (by omega) (by omega) (by omega)
  have m (i : Nat) : rd l (i : Int) % 4294967296 = l[i]?.getD 0 := by
    rw [rd_eq]
    have := words_at hw i
    omega
  have m0 := m 0
  have m1 := m 1
  have m2 := m 2
  have m3 := m 3
  have m4 := m 4
  have m5 := m 5
  have m6 := m 6
  have m7 := m 7
  have h2 := blk_l2 l hl s 64 (k - (16 + 1) - (48 + 1)) 0 (l[0]?.getD 0) (l[1]?.getD 0) (l[2]?.getD 0) (l[4]?.getD 0) (l[5]?.getD 0) (l[6]?.getD 0) (l[7]?.getD 0) (l[3]?.getD 0)
    (by
      match l, hl with
      | [a, b, c, d, e, f, g, h], _ => rfl) (by omega) (by omega)
  have h3 := blk_l3 l (rs s l 64) hl (rs_len s l 64 hl) 8 (k - (16 + 1) - (48 + 1) - (64 + 1)) 0 (by omega) (by omega)
  unfold spec_l05Block.f
  rw [if_pos (by omega)]
  have z0 : wt s 0 = List.replicate 64 0 := rfl
  rw [← z0]
  refine h0.trans (h1.trans ?_)
  refine Eq.trans ?_ h3
  refine Eq.trans ?_ h2
  rw [← m0, ← m1, ← m2, ← m3, ← m4, ← m5, ← m6, ← m7]
  rfl
end Go.Proofs.YtbbgahoeokffbaaDoor.Sha

/-
  The spec's digest answers as the program's: plain laws of what takes a text in and what ends it. Conditions: a state of eight numbers below 2^32, sizes up to 2^40.
-/
import Derived.Test.YtbbgahoeokffbaaDoorKpShaBlock
import Derived.Test.YtbbgahoeokffbaaDoorKpXFnExactDigestx4
namespace Go.Proofs.YtbbgahoeokffbaaDoor.Sha
open Go Go.RowKit Go.Proofs.YtbbgahoeokffbaaDoorW.PrintWords Go.Proofs.YtbbgahoeokffbaaDoorW.PrintLast Go.Proofs.YtbbgahoeokffbaaDoorW.PrintMore Go.Proofs.YtbbgahoeokffbaaDoor.XFnExactDigest
set_option linter.unusedVariables false
set_option linter.unusedSimpArgs false
theorem more_l0 (l : List Int) (hl : l.length = 8) (hw : Words l) (tb : ByteArray) (ht : tb.size ≤ 4611686018427387904) (sz : Int) (d : Nat) : ∀ (k m : Nat), m + d = tb.size / 64 → d + 201 ≤ k →
    spec_l05More.l0 k ((64 * m : Nat) : Int) (blks tb l m) tb sz = some (blks tb l (tb.size / 64), tb.extract (64 * (tb.size / 64)) tb.size, sz) := by
  induction d with
  | zero =>
    intro k m hm hk
    obtain ⟨k, rfl⟩ : ∃ m, k = m + 1 := ⟨k - 1, by omega⟩
    obtain rfl : m = tb.size / 64 := by omega
    have h1 : ¬ wrap64 ((tb.size : Int) - ((64 * (tb.size / 64) : Nat) : Int)) ≥ 64 := by unfold wrap64; omega
    have h2 : (0 : Int) ≤ ((64 * (tb.size / 64) : Nat) : Int) := by omega
    have h3 : ((64 * (tb.size / 64) : Nat) : Int) ≤ (tb.size : Int) := by omega
    rw [spec_l05More.l0, if_neg h1, if_pos h2, if_pos h3, Int.toNat_natCast]
  | succ d ih =>
    intro k m hm hk
    obtain ⟨k, rfl⟩ : ∃ m, k = m + 1 := ⟨k - 1, by omega⟩
    have e1 : wrap64 (((64 * m : Nat) : Int) + 64) = ((64 * (m + 1) : Nat) : Int) := by unfold wrap64; omega
    have h1 : wrap64 ((tb.size : Int) - ((64 * m : Nat) : Int)) ≥ 64 := by unfold wrap64; omega
    have h2 : (0 : Int) ≤ ((64 * m : Nat) : Int) := by omega
    have h3 : ((64 * m : Nat) : Int) ≤ ((64 * (m + 1) : Nat) : Int) := by omega
    have h4 : ((64 * (m + 1) : Nat) : Int) ≤ (tb.size : Int) := by omega
    have hs : (tb.extract (64 * m) (64 * (m + 1))).size = 64 := by rw [ByteArray.size_extract]; omega
    have e2 := block_spec (blks tb l m) (by rw [blks_len, hl]) (blks_words tb l m hw) (tb.extract (64 * m) (64 * (m + 1))) hs k (by omega)
    rw [spec_l05More.l0, if_pos h1, if_pos h2, e1, if_pos h3, if_pos h4, Int.toNat_natCast, Int.toNat_natCast, e2, Option.bind_some]
    exact ih k (m + 1) (by omega) (by omega)
/-- A text taken in. -/
theorem more_spec (l : List Int) (hl : l.length = 8) (hw : Words l) (rest text : ByteArray) (size : Int) (h : rest.size + text.size ≤ 4611686018427387904) (k : Nat) (hk : (rest.size + text.size) / 64 + 201 ≤ k) :
    spec_l05More.f k l rest size text = some (blks (rest ++ text) l ((rest ++ text).size / 64), (rest ++ text).extract (64 * ((rest ++ text).size / 64)) (rest ++ text).size, wrap64 (size + (text.size : Int))) := by
  have hsz : (rest ++ text).size = rest.size + text.size := ByteArray.size_append
  unfold spec_l05More.f
  rw [Option.bind_some, if_pos (by rw [hl]; simp), if_pos (by omega), List.nil_append]
  have := more_l0 l hl hw (rest ++ text) (by omega) (wrap64 (size + (text.size : Int))) ((rest ++ text).size / 64) k 0 (by omega) (by omega)
  exact this
theorem str_append (a b : List Int) : strOfNums (a ++ b) = strOfNums a ++ strOfNums b := by
  apply ByteArray.ext
  unfold strOfNums
  rw [ByteArray.data_append]
  simp
theorem str_pad (z : Nat) : strOfNums (128 :: List.replicate z 0) = (⟨#[128]⟩ : ByteArray) ++ ⟨(List.replicate z 0).toArray⟩ := by
  rw [show (128 :: List.replicate z 0 : List Int) = [128] ++ List.replicate z 0 from rfl, str_append]
  congr 1
  apply ByteArray.ext
  unfold strOfNums
  simp
theorem end_l0 (st : List Int) (rest : ByteArray) (hr : rest.size < 64) (size : Int) (h0 : 0 ≤ size) (h1 : size ≤ 1099511627776) (hm : (rest.size : Int) = size % 64) (d : Nat) : ∀ (k z : Nat), z + d = padZ rest.size → d + 1 ≤ k →
    spec_l05End.l0 k (128 :: List.replicate z 0) st rest size = spec_l05End.l1 (k - (d + 1)) (128 :: List.replicate (padZ rest.size) 0) (8 * size) 56 st rest size := by
  induction d with
  | zero =>
    intro k z hz hk
    obtain ⟨k, rfl⟩ : ∃ m, k = m + 1 := ⟨k - 1, by omega⟩
    obtain rfl : z = padZ rest.size := by omega
    have hp : padZ rest.size = (119 - rest.size) % 64 := rfl
    have e : wrap64 (size + ((128 :: List.replicate (padZ rest.size) (0 : Int)).length : Int)) = size + 1 + (padZ rest.size : Int) := by
      simp only [List.length_cons, List.length_replicate]
      unfold wrap64
      omega
    have e2 : Int.tmod (size + 1 + (padZ rest.size : Int)) 64 = 56 := by
      rw [Int.tmod_eq_emod_of_nonneg (by omega)]
      omega
    have e3 : IntKind.u64.wrap (wrap64 (8 * size)) = 8 * size := by
      rw [show wrap64 (8 * size) = 8 * size by unfold wrap64; omega]
      simp only [IntKind.wrap, IntKind.signed, IntKind.bits]
      simp
      omega
    rw [spec_l05End.l0, e, if_pos e2, e3, show k + 1 - (0 + 1) = k by omega]
  | succ d ih =>
    intro k z hz hk
    obtain ⟨k, rfl⟩ : ∃ m, k = m + 1 := ⟨k - 1, by omega⟩
    have hp : padZ rest.size = (119 - rest.size) % 64 := rfl
    have e : wrap64 (size + ((128 :: List.replicate z (0 : Int)).length : Int)) = size + 1 + (z : Int) := by
      simp only [List.length_cons, List.length_replicate]
      unfold wrap64
      omega
    have e2 : ¬ Int.tmod (size + 1 + (z : Int)) 64 = 56 := by
      rw [Int.tmod_eq_emod_of_nonneg (by omega)]
      omega
    have e3 : (128 :: List.replicate z (0 : Int)) ++ [0] = 128 :: List.replicate (z + 1) 0 := by
      rw [List.replicate_succ']
      rfl
    have hlen : (128 :: List.replicate z (0 : Int)).length < 140737488355328 := by
      simp only [List.length_cons, List.length_replicate]
      omega
    rw [spec_l05End.l0, e, if_neg e2, if_pos hlen, e3, ih k (z + 1) (by omega) (by omega), show k + 1 - (d + 1 + 1) = k - (d + 1) by omega]
/-- The eight bytes of a size. -/
def len8 (size : Int) : Nat → List Int
  | 0 => []
  | j + 1 => len8 size j ++ [size * 8 / 2 ^ (8 * (7 - j)) % 256]
theorem len8_len (size : Int) (j : Nat) : (len8 size j).length = j := by
  induction j with
  | zero => rfl
  | succ j ih => rw [len8, List.length_append, ih]; rfl
theorem lenB_eq (p : ByteArray) (size : Int) (j : Nat) : lenB p size j = p ++ strOfNums (len8 size j) := by
  induction j with
  | zero => exact (ByteArray.append_empty).symm
  | succ j ih => rw [lenB, ih, len8, str_append, ByteArray.append_assoc]
theorem end_l1 (X : List Int) (hX : X.length ≤ 1000) (st : List Int) (rest : ByteArray) (size : Int) (h0 : 0 ≤ size) (h1 : size ≤ 1099511627776) (d : Nat) : ∀ (k j : Nat), j + d = 8 → d + 1 ≤ k →
    spec_l05End.l1 k (X ++ len8 size j) (8 * size) (56 - 8 * (j : Int)) st rest size = (spec_l05More.f (k - (d + 1)) st rest size (strOfNums (X ++ len8 size 8))).bind fun b => spec_l05End.l2 (k - (d + 1)) [] 0 b.1 b.2.1 b.2.2 := by
  induction d with
  | zero =>
    intro k j hj hk
    obtain ⟨k, rfl⟩ : ∃ m, k = m + 1 := ⟨k - 1, by omega⟩
    obtain rfl : j = 8 := by omega
    rw [spec_l05End.l1, if_neg (by omega), show k + 1 - (0 + 1) = k by omega]
  | succ d ih =>
    intro k j hj hk
    obtain ⟨k, rfl⟩ : ∃ m, k = m + 1 := ⟨k - 1, by omega⟩
    have q1 : (56 - 8 * (j : Int)) ≥ 0 := by omega
    have q2 : IntKind.u64.wrap (56 - 8 * (j : Int)) = 56 - 8 * (j : Int) := by
      simp only [IntKind.wrap, IntKind.signed, IntKind.bits]
      simp
      omega
    have q3 : (0 : Int) ≤ 56 - 8 * (j : Int) := q1
    have q4 : (X ++ len8 size j).length < 140737488355328 := by
      rw [List.length_append, len8_len]
      omega
    have q5 : wrap64 (56 - 8 * (j : Int) - 8) = 56 - 8 * ((j + 1 : Nat) : Int) := by unfold wrap64; omega
    have q6 : shr .u64 (8 * size) (56 - 8 * (j : Int)) = size * 8 / 2 ^ (8 * (7 - j)) := by
      unfold shr
      rw [show (56 - 8 * (j : Int)).toNat = 8 * (7 - j) by omega, Nat.min_eq_left (by show 8 * (7 - j) ≤ 64; omega), Int.mul_comm]
    have q7 : X ++ len8 size j ++ [size * 8 / 2 ^ (8 * (7 - j)) % 256] = X ++ len8 size (j + 1) := by rw [len8, List.append_assoc]
    rw [spec_l05End.l1, if_pos q1, q2, if_pos q3, if_pos q4, q5, q6, q7, ih k (j + 1) (by omega) (by omega), show k + 1 - (d + 1 + 1) = k - (d + 1) by omega]
theorem q4_eq (x : Int) (h0 : 0 ≤ x) (h1 : x < 4294967296) : ([(x / 16777216) % 256, (x / 65536) % 256, (x / 256) % 256, x % 256] : List Int) = q4 x := by
  unfold q4
  rw [show x / 16777216 % 256 = x / 16777216 by omega]
theorem end_l2 (L : List Int) (hl : L.length = 8) (hw : Words L) (rest : ByteArray) (size : Int) (d : Nat) : ∀ (k i : Nat), i + d = 8 → d + 1 ≤ k →
    spec_l05End.l2 k (outB L i) (i : Int) L rest size = some (strOfNums (outB L 8)) := by
  induction d with
  | zero =>
    intro k i hi hk
    obtain ⟨k, rfl⟩ : ∃ m, k = m + 1 := ⟨k - 1, by omega⟩
    obtain rfl : i = 8 := by omega
    rw [spec_l05End.l2, if_neg (by omega)]
  | succ d ih =>
    intro k i hi hk
    obtain ⟨k, rfl⟩ : ∃ m, k = m + 1 := ⟨k - 1, by omega⟩
    have w := words_at hw i
    have e4 : wrap64 ((i : Int) + 1) = ((i + 1 : Nat) : Int) := by unfold wrap64; omega
    have e5 : (outB L i).length + (q4 (L[i]?.getD 0)).length < 140737488355328 := by
      rw [outB_len]
      show 4 * i + 4 < _
      omega
    rw [spec_l05End.l2, if_pos (by omega), if_pos (by omega), if_pos (by omega), e4, rd_eq, q4_eq _ w.1 w.2, Option.bind_some, if_pos e5]
    exact ih k (i + 1) (by omega) (by omega)
/-- The end of a digest. -/
theorem end_spec (l : List Int) (hl : l.length = 8) (hw : Words l) (rest : ByteArray) (hr : rest.size < 64) (size : Int) (h0 : 0 ≤ size) (h1 : size ≤ 1099511627776) (hm : (rest.size : Int) = size % 64) (k : Nat) (hk : 400 ≤ k) :
    spec_l05End.f k l rest size = some (summedF l rest size) := by
  have hp : padZ rest.size = (119 - rest.size) % 64 := rfl
  unfold spec_l05End.f
  have a := end_l0 l rest hr size h0 h1 hm (padZ rest.size) k 0 (by omega) (by omega)
  rw [List.replicate_zero] at a
  rw [a]
  have b := end_l1 (128 :: List.replicate (padZ rest.size) 0) (by simp only [List.length_cons, List.length_replicate]; omega) l rest size h0 h1 8 (k - (padZ rest.size + 1)) 0 (by omega) (by omega)
  rw [show (128 :: List.replicate (padZ rest.size) (0 : Int)) ++ len8 size 0 = 128 :: List.replicate (padZ rest.size) 0 from List.append_nil _, show (56 - 8 * ((0 : Nat) : Int)) = 56 by omega] at b
  rw [b]
  have hpd : rest ++ strOfNums (128 :: List.replicate (padZ rest.size) 0 ++ len8 size 8) = padded rest size := by
    rw [padded, lenB_eq, str_append, str_pad, ← ByteArray.append_assoc, ← ByteArray.append_assoc]
  have hps : (padded rest size).size = 64 * nB rest.size := by
    rw [padded, lenB_size, ByteArray.size_append, ByteArray.size_append]
    have : (⟨(List.replicate (padZ rest.size) (0 : UInt8)).toArray⟩ : ByteArray).size = padZ rest.size := by
      show (List.replicate (padZ rest.size) (0 : UInt8)).toArray.size = _
      rw [List.size_toArray, List.length_replicate]
    rw [this]
    show rest.size + 1 + padZ rest.size + 8 = _
    unfold padZ nB
    split <;> omega
  have hss : rest.size + (strOfNums (128 :: List.replicate (padZ rest.size) 0 ++ len8 size 8)).size = 64 * nB rest.size := by
    rw [← ByteArray.size_append, hpd, hps]
  have hn : nB rest.size ≤ 2 := by unfold nB; split <;> omega
  have c := more_spec l hl hw rest (strOfNums (128 :: List.replicate (padZ rest.size) 0 ++ len8 size 8)) size (by omega) (k - (padZ rest.size + 1) - (8 + 1)) (by omega)
  rw [c, Option.bind_some, hpd, hps, show 64 * nB rest.size / 64 = nB rest.size by omega]
  exact end_l2 (blks (padded rest size) l (nB rest.size)) (by rw [blks_len, hl]) (blks_words _ _ _ hw) _ _ 8 _ 0 (by omega) (by omega)
/-- The digest of a text. -/
theorem digest_spec (text : ByteArray) (ht : text.size ≤ 20000) (k : Nat) (hk : 1000 ≤ k) : spec_Digest.f k text = some (digestF text) := by
  unfold spec_Digest.f
  rw [if_neg (by omega), show spec_HashBegin.f = some (starts, (⟨#[]⟩ : ByteArray), 0) by kernel_rfl, Option.bind_some]
  have e0 : (⟨#[]⟩ : ByteArray) ++ text = text := ByteArray.empty_append
  have z : (⟨#[]⟩ : ByteArray).size = 0 := rfl
  have a := more_spec starts rfl starts_words ⟨#[]⟩ text 0 (by omega) k (by omega)
  rw [e0] at a
  show ((spec_l05More.f k starts ⟨#[]⟩ 0 text).bind _) = _
  rw [a, Option.bind_some, show wrap64 (0 + (text.size : Int)) = (text.size : Int) by unfold wrap64; omega]
  have hsz : (text.extract (64 * (text.size / 64)) text.size).size = text.size % 64 := by rw [ByteArray.size_extract]; omega
  have b := end_spec (blks text starts (text.size / 64)) (by rw [blks_len]; rfl) (blks_words _ _ _ starts_words) (text.extract (64 * (text.size / 64)) text.size) (by omega) (text.size : Int) (by omega) (by omega) (by omega) k (by omega)
  show ((spec_l05End.f k (blks text starts (text.size / 64)) (text.extract (64 * (text.size / 64)) text.size) (text.size : Int)).bind _) = _
  rw [b, Option.bind_some]
  rfl
theorem digest_long (text : ByteArray) (ht : ¬ text.size ≤ 20000) (k : Nat) : spec_Digest.f k text = some ⟨#[]⟩ := by
  unfold spec_Digest.f
  rw [if_pos (by omega)]
end Go.Proofs.YtbbgahoeokffbaaDoor.Sha

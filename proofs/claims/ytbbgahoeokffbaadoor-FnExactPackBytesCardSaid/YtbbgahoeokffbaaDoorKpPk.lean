/-
  The records of blobs, by the program and by the reference, in plain words: keys, numbers, records, packs; the contracts of what makes them. Conditions: a right blob.
-/
import Derived.Test.YtbbgahoeokffbaaDoorKpXFnExactPackRightx4
import Derived.Test.YtbbgahoeokffbaaDoorKpAid
namespace Go.Proofs.YtbbgahoeokffbaaDoor.Pk
open Go Go.RowKit Go.Proofs.YtbbgahoeokffbaaDoor.XFnExactPackRight Go.Proofs.YtbbgahoeokffbaaDoorW.PrintWords Go.Proofs.YtbbgahoeokffbaaDoorW.PrintLast
set_option linter.unusedVariables false
set_option linter.unusedSimpArgs false
/-- The bytes of a number from 0 to 8191. -/
def numF (n : Int) : ByteArray := if 2 * n < 128 then strOfNums [2 * n] else strOfNums [2 * n % 128 + 128, 2 * n / 128]
theorem numF_size (n : Int) : (numF n).size ≤ 2 := by
  unfold numF
  split
  · rw [Sha.strOf_size]; simp
  · rw [Sha.strOf_size]; simp
theorem u64_of {x : Int} (h0 : 0 ≤ x) (h1 : x < 18446744073709551616) : IntKind.u64.wrap x = x := by
  rw [IntKind.wrap_u64]
  omega
theorem sput (n : Int) (h0 : 0 ≤ n) (h1 : n ≤ 8000) (k : Nat) (hk : 10 ≤ k) : spec_PutNum.f k n = some (numF n) := by
  obtain ⟨k, rfl⟩ : ∃ m, k = m + 2 := ⟨k - 2, by omega⟩
  unfold spec_PutNum.f spec_l01Fold.f
  rw [if_neg (by omega), Option.bind_some, u64_of (x := n) h0 (by omega), u64_of (x := 2 * n) (by omega) (by omega)]
  have z : ([] : List Int).length < 140737488355328 := by simp
  unfold numF
  by_cases h : 2 * n < 128
  · rw [spec_PutNum.l0, if_neg (by omega), if_pos z, if_pos h, List.nil_append, show 2 * n % 256 = 2 * n by omega]
  · have e1 : Int.tdiv (2 * n) 128 = 2 * n / 128 := Int.tdiv_eq_ediv_of_nonneg (by omega)
    have e2 : Int.tmod (2 * n) 128 = 2 * n % 128 := Int.tmod_eq_emod_of_nonneg (by omega)
    have z1 : ([2 * n % 128 + 128] : List Int).length < 140737488355328 := by simp
    rw [spec_PutNum.l0, if_pos (by omega), if_pos z, e1, e2, u64_of (x := 2 * n / 128) (by omega) (by omega), u64_of (x := 2 * n % 128 + 128) (by omega) (by omega), List.nil_append, show (2 * n % 128 + 128) % 256 = 2 * n % 128 + 128 by omega,
      spec_PutNum.l0, if_neg (by omega), if_pos z1, if_neg h, show 2 * n / 128 % 256 = 2 * n / 128 by omega]
    rfl
theorem iput (n : Int) (h0 : 0 ≤ n) (h1 : n ≤ 8000) (k : Nat) (hk : 10 ≤ k) : impl_PutNum.f k n = some (numF n) := by
  obtain ⟨k, rfl⟩ : ∃ m, k = m + 2 := ⟨k - 2, by omega⟩
  unfold impl_PutNum.f
  rw [u64_of (x := n) h0 (by omega), show n * 2 = 2 * n by omega, u64_of (x := 2 * n) (by omega) (by omega), show n / 9223372036854775808 = 0 by omega, u64_of (x := 0) (by omega) (by omega), Aid.u64_xor_zero _ (by omega) (by omega)]
  have z : ([] : List Int).length < 140737488355328 := by simp
  unfold numF
  by_cases h : 2 * n < 128
  · rw [impl_PutNum.l0, if_neg (by omega), if_pos z, if_pos h, List.nil_append, show 2 * n % 256 = 2 * n by omega]
  · have a3 : Go.bits .or .u8 ((Go.bits .and .u64 (2 * n) 127) % 256) 128 = 2 * n % 128 + 128 := by rw [Aid.u64_low7 _ (by omega) (by omega), Aid.u8_or_128 _ (by omega) (by omega)]; omega
    have z1 : ([2 * n % 128 + 128] : List Int).length < 140737488355328 := by simp
    rw [impl_PutNum.l0, if_pos (by omega), if_pos z, a3, List.nil_append, impl_PutNum.l0, if_neg (by omega), if_pos z1, if_neg h, show 2 * n / 128 % 256 = 2 * n / 128 by omega]
    rfl
def right (a : Int) (s : ByteArray) : Bool := (decide (a = 1) || decide (a = 2)) && decide (s.size ≤ 2000)
theorem right_out {a : Int} {s : ByteArray} (h : right a s = true) : 0 ≤ a ∧ a ≤ 2 ∧ s.size ≤ 2000 := by
  unfold right at h
  simp only [Bool.and_eq_true, Bool.or_eq_true, decide_eq_true_eq] at h
  omega
theorem sright (a : Int) (s : ByteArray) : spec_BlobRight.f a s = some (right a s) := by
  unfold spec_BlobRight.f right
  by_cases h1 : a = 1
  · simp [h1]
    omega
  · by_cases h2 : a = 2
    · simp [h2]
      omega
    · simp [h1, h2]
theorem iright (a : Int) (s : ByteArray) : impl_BlobRight.f a s = some (right a s) := by
  unfold impl_BlobRight.f impl_isKind.f right
  by_cases h1 : a = 1
  · simp [h1]
    omega
  · by_cases h2 : a = 2
    · simp [h2]
      omega
    · simp [h1, h2]
/-- The key of a right blob. -/
def keyF (a : Int) (s : ByteArray) : ByteArray := Sha.digestF (numF a ++ s)
theorem keyF_size (a : Int) (s : ByteArray) : (keyF a s).size = 32 := Sha.digestF_size _
theorem skey (a : Int) (s : ByteArray) (h : right a s = true) (k : Nat) (hk : 10 ≤ k) : spec_BlobKey.f k a s = some (keyF a s) := by
  obtain ⟨h1, h2, h3⟩ := right_out h
  have hz := numF_size a
  unfold spec_BlobKey.f spec_Digest.f Sha.digestS keyF
  rw [sright, Option.bind_some, if_pos h, sput a h1 (by omega) k hk, Option.bind_some, if_pos (by omega), if_pos (by rw [ByteArray.size_append]; omega)]
  rfl
theorem ikey (a : Int) (s : ByteArray) (h : right a s = true) (k : Nat) (hk : 10 ≤ k) : impl_Blob_key.f k a s = some (keyF a s) := by
  obtain ⟨h1, h2, h3⟩ := right_out h
  have hz := numF_size a
  unfold impl_Blob_key.f impl_digest.f keyF
  rw [iput a h1 (by omega) k hk, Option.bind_some, if_pos (by omega), if_pos (by rw [ByteArray.size_append]; omega)]
  rfl
/-- The record of a right blob. -/
def recF (a : Int) (s : ByteArray) : ByteArray := (((⟨#[66]⟩ : ByteArray) ++ keyF a s) ++ numF a) ++ (numF (s.size : Int) ++ s)
theorem recF_size (a : Int) (s : ByteArray) (h : right a s = true) : (recF a s).size ≤ 2100 := by
  obtain ⟨h1, h2, h3⟩ := right_out h
  have z1 := numF_size a
  have z2 := numF_size (s.size : Int)
  have z3 := keyF_size a s
  unfold recF
  rw [ByteArray.size_append, ByteArray.size_append, ByteArray.size_append, ByteArray.size_append, z3]
  show 1 + 32 + _ + _ ≤ _
  omega
theorem srec (a : Int) (s : ByteArray) (h : right a s = true) (k : Nat) (hk : 10 ≤ k) : spec_l07Record.f k a s = some (recF a s) := by
  obtain ⟨h1, h2, h3⟩ := right_out h
  have z1 := numF_size a
  have z2 := numF_size (s.size : Int)
  have z3 := keyF_size a s
  have zb : (⟨#[66]⟩ : ByteArray).size = 1 := rfl
  unfold spec_l07Record.f spec_PutText.f recF
  rw [skey a s h k hk, Option.bind_some, if_pos (by omega), sput a h1 (by omega) k hk, Option.bind_some, if_pos (by rw [ByteArray.size_append]; omega), if_neg (by omega), sput (s.size : Int) (by omega) (by omega) k hk, Option.bind_some, if_pos (by omega), Option.bind_some,
    if_pos (by rw [ByteArray.size_append, ByteArray.size_append, ByteArray.size_append]; omega)]
theorem irec (a : Int) (s : ByteArray) (h : right a s = true) (k : Nat) (hk : 10 ≤ k) : impl_Blob_record.f k a s = some (recF a s) := by
  obtain ⟨h1, h2, h3⟩ := right_out h
  have z1 := numF_size a
  have z2 := numF_size (s.size : Int)
  have z3 := keyF_size a s
  have zb : (⟨#[66]⟩ : ByteArray).size = 1 := rfl
  unfold impl_Blob_record.f impl_putText.f impl_long.f recF
  rw [ikey a s h k hk, Option.bind_some, if_pos (by omega), iput a h1 (by omega) k hk, Option.bind_some, if_pos (by rw [ByteArray.size_append]; omega), Option.bind_some, iput (s.size : Int) (by omega) (by omega) k hk, Option.bind_some, if_pos (by omega), Option.bind_some,
    if_pos (by rw [ByteArray.size_append, ByteArray.size_append, ByteArray.size_append]; omega)]
/-- The records of blobs behind some others; false if they are not right as a pack. -/
def packG : List S40 → List (List UInt8) → ByteArray → ByteArray × Bool
  | [], _, out => (out, decide ((out.size : Int) ≤ 12000))
  | x :: r, ks, out => if right x.f0 x.f1 = true then (if ks.contains (keyF x.f0 x.f1).data.toList = true then ((⟨#[]⟩ : ByteArray), false) else packG r (ks ++ [(keyF x.f0 x.f1).data.toList]) (out ++ recF x.f0 x.f1)) else ((⟨#[]⟩ : ByteArray), false)
def packF (l : List S40) : ByteArray × Bool := if 1 ≤ l.length ∧ l.length ≤ 40 then packG l [] ⟨#[]⟩ else ((⟨#[]⟩ : ByteArray), false)
theorem rd40 (l : List S40) (i : Nat) (h : i < l.length) : rd_T40 l (i : Int) = l[i] := by
  unfold rd_T40
  rw [Int.toNat_natCast, List.getD_eq_getElem?_getD, List.getElem?_eq_getElem h, Option.getD_some]
theorem in_l0 (l : List ByteArray) (hl : l.length ≤ 1000) (t : ByteArray) (d : Nat) : ∀ (k i : Nat), i + d = l.length → d + 1 ≤ k → spec_l07In.l0 k l t (i : Int) = some (((l.drop i).map (fun s => s.data.toList)).contains t.data.toList) := by
  induction d with
  | zero =>
    intro k i hi hk
    obtain ⟨k, rfl⟩ : ∃ m, k = m + 1 := ⟨k - 1, by omega⟩
    rw [spec_l07In.l0, if_neg (by omega), List.drop_of_length_le (by omega)]
    rfl
  | succ d ih =>
    intro k i hi hk
    obtain ⟨k, rfl⟩ : ∃ m, k = m + 1 := ⟨k - 1, by omega⟩
    have hi' : i < l.length := by omega
    have e : rdOf ByteArray.empty l (i : Int) = l[i] := by
      unfold rdOf
      rw [Int.toNat_natCast, List.getD_eq_getElem?_getD, List.getElem?_eq_getElem hi', Option.getD_some]
    rw [spec_l07In.l0, if_pos (by omega), if_pos (by omega), e, List.drop_eq_getElem_cons hi', List.map_cons, List.contains_cons]
    rw [show wrap64 ((i : Int) + 1) = ((i + 1 : Nat) : Int) by unfold wrap64; omega, ih k (i + 1) (by omega) (by omega), ByteArray.toList_eq, ByteArray.toList_eq]
    by_cases h : l[i].data.toList = t.data.toList
    · rw [if_pos h]
      simp [h]
    · rw [if_neg h]
      have h' : (t.data.toList == l[i].data.toList) = false := by
        rw [beq_eq_false_iff_ne]
        exact fun e => h e.symm
      rw [h', Bool.false_or]
theorem str_bytes (s : ByteArray) : strOfNums (bytesOf s) = s := by
  unfold bytesOf
  unfold strOfNums
  apply ByteArray.ext
  simp [Function.comp_def]
theorem pack_l0 (l : List S40) (hl : l.length ≤ 40) (d : Nat) : ∀ (k i : Nat) (xs : List Int) (ks : List ByteArray), i + d = l.length → d + 100 ≤ k → ks.length ≤ i → xs.length ≤ 2100 * i →
    spec_l07Pack.l0 k l xs ks (i : Int) = some (packG (l.drop i) (ks.map (fun s => s.data.toList)) (strOfNums xs)) := by
  induction d with
  | zero =>
    intro k i xs ks hi hk h1 h2
    obtain ⟨k, rfl⟩ : ∃ m, k = m + 1 := ⟨k - 1, by omega⟩
    rw [spec_l07Pack.l0, if_neg (by omega), List.drop_of_length_le (by omega), packG, Sha.strOf_size]
  | succ d ih =>
    intro k i xs ks hi hk h1 h2
    obtain ⟨k, rfl⟩ : ∃ m, k = m + 1 := ⟨k - 1, by omega⟩
    have hi' : i < l.length := by omega
    rw [spec_l07Pack.l0, if_pos (by omega), if_pos (by omega), rd40 l i hi', List.drop_eq_getElem_cons hi', packG]
    generalize l[i] = x
    rw [sright, Option.bind_some]
    by_cases h : right x.f0 x.f1 = true
    · rw [if_pos h, if_pos h, skey _ _ h k (by omega), Option.bind_some]
      have e := in_l0 ks (by omega) (keyF x.f0 x.f1) ks.length k 0 (by omega) (by omega)
      rw [List.drop_zero] at e
      unfold spec_l07In.f
      have e' : spec_l07In.l0 k ks (keyF x.f0 x.f1) 0 = some ((ks.map (fun s => s.data.toList)).contains (keyF x.f0 x.f1).data.toList) := e
      rw [e', Option.bind_some]
      by_cases hc : (ks.map (fun s => s.data.toList)).contains (keyF x.f0 x.f1).data.toList = true
      · rw [if_pos hc, if_pos hc]
      · have hr := recF_size x.f0 x.f1 h
        have hb : (bytesOf (recF x.f0 x.f1)).length = (recF x.f0 x.f1).size := bytesOf_length _
        rw [if_neg hc, if_neg hc, if_pos (by omega), srec _ _ h k (by omega), Option.bind_some, if_pos (by omega), show wrap64 ((i : Int) + 1) = ((i + 1 : Nat) : Int) by unfold wrap64; omega]
        rw [ih k (i + 1) (xs ++ bytesOf (recF x.f0 x.f1)) (ks ++ [keyF x.f0 x.f1]) (by omega) (by omega) (by rw [List.length_append]; simp; omega) (by rw [List.length_append, hb]; omega)]
        rw [List.map_append, Sha.str_append, str_bytes]
        rfl
    · rw [if_neg h, if_neg h]
theorem pack_spec (l : List S40) (hl : l.length ≤ 1000000000) (k : Nat) (hk : 200 ≤ k) : spec_l07Pack.f k l = some (packF l) := by
  obtain ⟨k, rfl⟩ : ∃ m, k = m + 1 := ⟨k - 1, by omega⟩
  unfold spec_l07Pack.f packF
  simp only [spec_l07Pack.j0]
  by_cases h1 : (l.length : Int) < 1
  · rw [if_pos h1, if_pos trivial, if_neg (by omega)]
  · rw [if_neg h1]
    by_cases h2 : (l.length : Int) > 40
    · rw [if_pos (decide_eq_true h2), if_neg (by omega)]
    · rw [if_neg (by simpa using h2), if_pos (by omega)]
      have := pack_l0 l (by omega) l.length k 0 [] [] (by omega) (by omega) (by simp) (by simp)
      rw [List.drop_zero] at this
      exact this
/-- The contracts of what makes a pack. -/
theorem right_calls (a : Int) (s : ByteArray) (w : World) : Calls Tryd.prog 64 #[.agg #[.int .i64 a, .string s]] w fun e w' => e = .returned (.bool (right a s)) ∧ Below w.heap.size w w' := impl_BlobRight.calls a s _ w (iright a s)
theorem key_calls (a : Int) (s : ByteArray) (h : right a s = true) (w : World) (hG : Sha.Glob w) : Calls Tryd.prog 65 #[.agg #[.int .i64 a, .string s]] w fun e w' => e = .returned (.string (keyF a s)) ∧ Below w.heap.size w w' := impl_Blob_key.calls 10 a s _ w (ikey a s h 10 (Nat.le_refl _)) hG
theorem rec_calls (a : Int) (s : ByteArray) (h : right a s = true) (w : World) (hG : Sha.Glob w) : Calls Tryd.prog 85 #[.agg #[.int .i64 a, .string s]] w fun e w' => e = .returned (.string (recF a s)) ∧ Below w.heap.size w w' := impl_Blob_record.calls 10 a s _ w (irec a s h 10 (Nat.le_refl _)) hG
end Go.Proofs.YtbbgahoeokffbaaDoor.Pk

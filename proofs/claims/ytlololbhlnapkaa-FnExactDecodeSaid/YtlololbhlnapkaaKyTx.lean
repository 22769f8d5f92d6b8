/-
  Texts times a matrix of bytes, as plain lists: a byte of a text, a sum of products, a row of sums. No program in sight; no conditions beyond each lemma's own.
-/
import Derived.Test.YtlololbhlnapkaaKyMc
import Derived.Test.YtlololbhlnapkaaKyAid
namespace Go.Proofs.Ytlololbhlnapkaa.Tx
open Go Go.RowKit Go.Proofs.Ytlololbhlnapkaa.Gf Go.Proofs.Ytlololbhlnapkaa.FieldAid Go.Proofs.Ytlololbhlnapkaa.Mp Go.Proofs.Ytlololbhlnapkaa.Mc Go.Proofs.YtlololbhlnapkaaW.PrintWords
set_option linter.unusedVariables false
set_option linter.unusedSimpArgs false
/-- A byte of a text. -/
def tb (t : ByteArray) (p : Nat) : B := BitVec.ofNat 8 (bt t (p : Int)).toNat
theorem un_tb (t : ByteArray) (p : Nat) : bt t (p : Int) = un (tb t p) := (un_ofInt (bt_range t p).1 (bt_range t p).2).symm
theorem w_tb (t : ByteArray) (p : Nat) : wrap64 (bt t (p : Int)) = un (tb t p) := by
  have h := bt_range t p
  rw [← un_tb]
  unfold wrap64
  omega
theorem mod_un (a : B) : un a % 256 = un a := by
  have h := un_bd a
  omega
theorem xor8 (a b : B) : bits .xor .u8 (un a) (un b) = un (a ^^^ b) := by
  have ha := un_bd a
  have hb := un_bd b
  rw [u8_xor _ _ ha.1 (by omega) hb.1 (by omega)]
  unfold un
  rw [Int.toNat_natCast, Int.toNat_natCast, BitVec.toNat_xor]
abbrev H := Nat → Nat → B
def txt (ts : List ByteArray) (j : Nat) : ByteArray := ts.getD j ByteArray.empty
/-- The sum of the first n products at the place p, row i. -/
def sumT (h : H) (ts : List ByteArray) (i p : Nat) : Nat → B := S (fun j => Gf.mul (h i j) (tb (txt ts j) p))
def lineT (h : H) (ts : List ByteArray) (s i j : Nat) : List Int := line (fun p => un (sumT h ts i p j)) s
theorem lineT_len (h : H) (ts : List ByteArray) (s i j : Nat) : (lineT h ts s i j).length = s := line_len _ _
theorem lineT_zero (h : H) (ts : List ByteArray) (s i : Nat) : List.replicate s (0 : Int) = lineT h ts s i 0 := line_zeros s
theorem lineT_skip {h : H} {i j : Nat} (e : h i j = 0#8) (ts : List ByteArray) (s : Nat) : lineT h ts s i (j + 1) = lineT h ts s i j := by
  refine line_congr fun p _ => ?_
  show un (sumT h ts i p j ^^^ Gf.mul (h i j) (tb (txt ts j) p)) = _
  rw [e, Gf.zero_mul, BitVec.xor_zero]
/-- The line while the text j comes in, up to the place q. -/
def lineM (h : H) (ts : List ByteArray) (s i j q : Nat) : List Int := line (fun p => if p < q then un (sumT h ts i p (j + 1)) else un (sumT h ts i p j)) s
theorem lineM_len (h : H) (ts : List ByteArray) (s i j q : Nat) : (lineM h ts s i j q).length = s := line_len _ _
theorem lineM_zero (h : H) (ts : List ByteArray) (s i j : Nat) : lineM h ts s i j 0 = lineT h ts s i j := line_congr fun p _ => if_neg (by omega)
theorem lineM_end (h : H) (ts : List ByteArray) (s i j : Nat) : lineM h ts s i j s = lineT h ts s i (j + 1) := line_congr fun p hp => if_pos hp
theorem rd_lineM (h : H) (ts : List ByteArray) {s i j q : Nat} (hq : q < s) : rd (lineM h ts s i j q) (q : Int) = un (sumT h ts i q j) := by
  rw [lineM, rd_line _ hq, if_neg (by omega)]
theorem lineM_set (h : H) (ts : List ByteArray) (s i j q : Nat) : (lineM h ts s i j q).set q (un (sumT h ts i q (j + 1))) = lineM h ts s i j (q + 1) := by
  refine line_set (if_pos (by omega)) (fun b hb => ?_)
  by_cases h1 : b < q
  · rw [if_pos h1, if_pos (by omega)]
  · rw [if_neg h1, if_neg (by omega)]
theorem sumT_succ (h : H) (ts : List ByteArray) (i p j : Nat) : sumT h ts i p (j + 1) = sumT h ts i p j ^^^ Gf.mul (h i j) (tb (txt ts j) p) := rfl
/-- The texts that a matrix of n rows and k columns makes of k texts of s bytes. -/
def timesT (h : H) (ts : List ByteArray) (s k n : Nat) : List ByteArray := (List.range n).map fun i => strOfNums (lineT h ts s i k)
theorem timesT_len (h : H) (ts : List ByteArray) (s k n : Nat) : (timesT h ts s k n).length = n := by unfold timesT; rw [List.length_map, List.length_range]
theorem timesT_succ (h : H) (ts : List ByteArray) (s k n : Nat) : timesT h ts s k n ++ [strOfNums (lineT h ts s n k)] = timesT h ts s k (n + 1) := by unfold timesT; rw [List.range_succ, List.map_append, List.map_singleton]
theorem timesT_get (h : H) (ts : List ByteArray) (s k : Nat) {n i : Nat} (hi : i < n) : (timesT h ts s k n)[i]? = some (strOfNums (lineT h ts s i k)) := by
  unfold timesT
  rw [List.getElem?_map, List.getElem?_range hi]
  rfl
def gridT (h : H) (c n : Nat) : List Int := grid (fun i j => un (h i j)) c (n * c)
theorem gridT_len (h : H) (c n : Nat) : (gridT h c n).length = n * c := grid_len _ _ _
theorem rd_gridT (h : H) {c n i j : Nat} (hi : i < n) (hj : j < c) : rd (gridT h c n) ((i * c + j : Nat) : Int) = un (h i j) := by
  have := step_le c hi
  exact rd_grid _ hj (by omega)
theorem cut_gridT (h : H) {c n i : Nat} (hi : i < n) : ((gridT h c n).take (i * c + c)).drop (i * c) = line (fun j => un (h i j)) c := rowL_grid _ hi
theorem rdOf_get {ts : List ByteArray} {j : Nat} (hj : j < ts.length) : rdOf ByteArray.empty ts (j : Int) = txt ts j := by
  unfold rdOf txt
  rw [Int.toNat_natCast]
end Go.Proofs.Ytlololbhlnapkaa.Tx

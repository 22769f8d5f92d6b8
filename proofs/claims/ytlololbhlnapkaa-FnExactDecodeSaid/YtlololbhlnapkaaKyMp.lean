/-
  Matrices of bytes as plain lists: a cell, a row, a sum of products, a grid of cells. No program in sight; no conditions beyond each lemma's own.
-/
import Derived.Test.YtlololbhlnapkaaKyFieldAid
import Derived.Test.YtlololbhlnapkaaKyWWords
namespace Go.Proofs.Ytlololbhlnapkaa.Mp
open Go Go.RowKit Go.Proofs.Ytlololbhlnapkaa.Gf Go.Proofs.Ytlololbhlnapkaa.FieldAid Go.Proofs.YtlololbhlnapkaaW.PrintWords
set_option linter.unusedVariables false
set_option linter.unusedSimpArgs false
def Bytes (l : List Int) : Prop := ∀ x ∈ l, 0 ≤ x ∧ x ≤ 255
/-- The i-th cell, as a byte. -/
def cell (l : List Int) (i : Nat) : B := BitVec.ofNat 8 (l.getD i 0).toNat
theorem w_nat (a : Nat) (h : a < 2 ^ 62) : wrap64 (a : Int) = (a : Int) := by unfold wrap64; omega
theorem w_succ (a : Nat) (h : a < 2 ^ 62) : wrap64 ((a : Int) + 1) = ((a + 1 : Nat) : Int) := by unfold wrap64; omega
theorem w_mul (a b : Nat) (h : a * b < 2 ^ 62) : wrap64 ((a : Int) * (b : Int)) = ((a * b : Nat) : Int) := by rw [← Int.natCast_mul, w_nat _ h]
theorem rd_cell {l : List Int} (hb : Bytes l) {i : Nat} (hi : i < l.length) : rd l (i : Int) = un (cell l i) := by
  have hg : l.getD i 0 = l[i] := by rw [List.getD_eq_getElem?_getD, List.getElem?_eq_getElem hi, Option.getD_some]
  have h := hb _ (List.getElem_mem hi)
  unfold cell rd
  rw [Int.toNat_natCast, hg, un_ofInt h.1 h.2]
theorem step_le {i r : Nat} (c : Nat) (h : i < r) : i * c + c ≤ r * c := by
  rw [← Nat.succ_mul]
  exact Nat.mul_le_mul_right c h
theorem side_le {r c : Nat} (h1 : r ≤ 16) (h2 : c ≤ 16) : r * c ≤ 256 := Nat.mul_le_mul h1 h2
/-- The row i of a matrix of c columns. -/
def rowL (l : List Int) (c i : Nat) : List Int := (l.take (i * c + c)).drop (i * c)
theorem rowL_len {l : List Int} {c i r : Nat} (hl : l.length = r * c) (hi : i < r) : (rowL l c i).length = c := by
  have := step_le c hi
  unfold rowL
  rw [List.length_drop, List.length_take]
  omega
theorem rd_row {l : List Int} (hb : Bytes l) {c i r k : Nat} (hl : l.length = r * c) (hi : i < r) (hk : k < c) : rd (rowL l c i) (k : Int) = un (cell l (i * c + k)) := by
  have h1 := step_le c hi
  rw [← rd_cell hb (show i * c + k < l.length by omega)]
  unfold rd rowL
  rw [Int.toNat_natCast, Int.toNat_natCast, List.getD_eq_getElem?_getD, List.getD_eq_getElem?_getD, List.getElem?_drop, List.getElem?_take_of_lt (by omega)]
/-- A sum of n bytes. -/
def S (f : Nat → B) : Nat → B
  | 0 => 0#8
  | n + 1 => S f n ^^^ f n
/-- The first n cells of a matrix of d columns, told by their places. -/
def grid (h : Nat → Nat → Int) (d n : Nat) : List Int := (List.range n).map fun t => h (t / d) (t % d)
theorem grid_zero (h : Nat → Nat → Int) (d : Nat) : grid h d 0 = [] := rfl
theorem grid_len (h : Nat → Nat → Int) (d n : Nat) : (grid h d n).length = n := by unfold grid; rw [List.length_map, List.length_range]
theorem grid_succ (h : Nat → Nat → Int) {d i j : Nat} (hj : j < d) : grid h d (i * d + j) ++ [h i j] = grid h d (i * d + (j + 1)) := by
  unfold grid
  rw [← Nat.add_assoc, List.range_succ, List.map_append, List.map_singleton]
  have e1 : (i * d + j) / d = i := by
    rw [Nat.mul_comm, Nat.mul_add_div (by omega), Nat.div_eq_of_lt hj, Nat.add_zero]
  have e2 : (i * d + j) % d = j := by
    rw [Nat.mul_comm, Nat.mul_add_mod, Nat.mod_eq_of_lt hj]
  rw [e1, e2]
theorem grid_get (h : Nat → Nat → Int) {d n t : Nat} (ht : t < n) : (grid h d n)[t]? = some (h (t / d) (t % d)) := by
  unfold grid
  rw [List.getElem?_map, List.getElem?_range ht]
  rfl
theorem grid_bytes {h : Nat → Nat → Int} (hb : ∀ i j, 0 ≤ h i j ∧ h i j ≤ 255) (d n : Nat) : Bytes (grid h d n) := by
  intro x hx
  unfold grid at hx
  obtain ⟨t, _, rfl⟩ := List.mem_map.1 hx
  exact hb _ _
end Go.Proofs.Ytlololbhlnapkaa.Mp

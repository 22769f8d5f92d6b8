/-
  The matrix of a right code as a plain list: its cells, its rows. No program in sight; no conditions beyond each lemma's own.
-/
import Derived.Test.YtlololbhlnapkaaKyMp
namespace Go.Proofs.Ytlololbhlnapkaa.Mc
open Go Go.RowKit Go.Proofs.Ytlololbhlnapkaa.Gf Go.Proofs.Ytlololbhlnapkaa.FieldAid Go.Proofs.Ytlololbhlnapkaa.Mp Go.Proofs.YtlololbhlnapkaaW.PrintWords
set_option linter.unusedVariables false
set_option linter.unusedSimpArgs false
theorem place {d i j : Nat} (hj : j < d) : (i * d + j) / d = i ∧ (i * d + j) % d = j := by
  constructor
  · rw [Nat.mul_comm, Nat.mul_add_div (by omega), Nat.div_eq_of_lt hj, Nat.add_zero]
  · rw [Nat.mul_comm, Nat.mul_add_mod, Nat.mod_eq_of_lt hj]
theorem place_eq {d i j t : Nat} (hd : 0 < d) (h1 : t / d = i) (h2 : t % d = j) : t = i * d + j := by
  have h := Nat.div_add_mod t d
  rw [h1, h2, Nat.mul_comm] at h
  exact h.symm
theorem grid_none (h : Nat → Nat → Int) (d n t : Nat) (ht : ¬ t < n) : (grid h d n)[t]? = none := List.getElem?_eq_none (by rw [grid_len]; omega)
theorem grid_congr {h h' : Nat → Nat → Int} {d n : Nat} (hd : 0 < d) (e : ∀ a b, b < d → a * d + b < n → h a b = h' a b) : grid h d n = grid h' d n := by
  apply List.ext_getElem?
  intro t
  by_cases ht : t < n
  · rw [grid_get h ht, grid_get h' ht, e (t / d) (t % d) (Nat.mod_lt _ hd) (by rw [Nat.mul_comm, Nat.div_add_mod]; exact ht)]
  · rw [grid_none h d n t ht, grid_none h' d n t ht]
theorem grid_set {h h' : Nat → Nat → Int} {d n i j : Nat} {v : Int} (hj : j < d) (hv : h' i j = v) (e : ∀ a b, b < d → ¬ (a = i ∧ b = j) → h' a b = h a b) : (grid h d n).set (i * d + j) v = grid h' d n := by
  apply List.ext_getElem?
  intro t
  by_cases ht : t < n
  · rw [grid_get h' ht]
    by_cases hs : t = i * d + j
    · subst hs
      rw [List.getElem?_set_self (by rw [grid_len]; exact ht), (place hj).1, (place hj).2, hv]
    · rw [List.getElem?_set_ne (fun e_ => hs e_.symm), grid_get h ht, e _ _ (Nat.mod_lt _ (by omega)) (fun hc => hs (place_eq (by omega) hc.1 hc.2))]
  · rw [grid_none h' d n t ht, List.getElem?_eq_none (by rw [List.length_set, grid_len]; omega)]
theorem grid_at (h : Nat → Nat → Int) {d n i j : Nat} (hj : j < d) (ht : i * d + j < n) : (grid h d n)[i * d + j]? = some (h i j) := by
  rw [grid_get h ht, (place hj).1, (place hj).2]
theorem rd_grid (h : Nat → Nat → Int) {d n i j : Nat} (hj : j < d) (ht : i * d + j < n) : rd (grid h d n) ((i * d + j : Nat) : Int) = h i j := by
  unfold rd
  rw [Int.toNat_natCast, List.getD_eq_getElem?_getD, grid_at h hj ht, Option.getD_some]
theorem grid_zeros (d n : Nat) : List.replicate n (0 : Int) = grid (fun _ _ => 0) d n := by
  unfold grid
  apply List.ext_getElem?
  intro t
  by_cases ht : t < n
  · rw [List.getElem?_replicate, if_pos ht, List.getElem?_map, List.getElem?_range ht]
    rfl
  · rw [List.getElem?_eq_none (by rw [List.length_replicate]; omega), List.getElem?_eq_none (by rw [List.length_map, List.length_range]; omega)]
/-- A row of d cells. -/
def line (f : Nat → Int) (d : Nat) : List Int := (List.range d).map f
theorem line_len (f : Nat → Int) (d : Nat) : (line f d).length = d := by unfold line; rw [List.length_map, List.length_range]
theorem line_succ (f : Nat → Int) (d : Nat) : line f d ++ [f d] = line f (d + 1) := by unfold line; rw [List.range_succ, List.map_append, List.map_singleton]
theorem line_get (f : Nat → Int) {d j : Nat} (hj : j < d) : (line f d)[j]? = some (f j) := by
  unfold line
  rw [List.getElem?_map, List.getElem?_range hj]
  rfl
theorem line_congr {f f' : Nat → Int} {d : Nat} (h : ∀ j, j < d → f j = f' j) : line f d = line f' d := by
  unfold line
  exact List.map_congr_left fun j hj => h j (List.mem_range.1 hj)
theorem rd_line (f : Nat → Int) {d j : Nat} (hj : j < d) : rd (line f d) (j : Int) = f j := by
  unfold rd
  rw [Int.toNat_natCast, List.getD_eq_getElem?_getD, line_get f hj, Option.getD_some]
theorem line_set {f f' : Nat → Int} {d j : Nat} {v : Int} (hv : f' j = v) (e : ∀ b, b ≠ j → f' b = f b) : (line f d).set j v = line f' d := by
  apply List.ext_getElem?
  intro t
  by_cases ht : t < d
  · rw [line_get f' ht]
    by_cases hs : t = j
    · subst hs
      rw [List.getElem?_set_self (by rw [line_len]; exact ht), hv]
    · rw [List.getElem?_set_ne (fun e_ => hs e_.symm), line_get f ht, e _ hs]
  · rw [List.getElem?_eq_none (by rw [List.length_set, line_len]; omega), List.getElem?_eq_none (by rw [line_len]; omega)]
theorem line_zeros (d : Nat) : List.replicate d (0 : Int) = line (fun _ => 0) d := by
  apply List.ext_getElem?
  intro t
  by_cases ht : t < d
  · rw [List.getElem?_replicate, if_pos ht, line_get _ ht]
  · rw [List.getElem?_eq_none (by rw [List.length_replicate]; omega), List.getElem?_eq_none (by rw [line_len]; omega)]
/-- n rows of d cells. -/
def rowsH (h : Nat → Nat → Int) (d n : Nat) : List (List Int) := (List.range n).map fun i => line (h i) d
theorem rowsH_len (h : Nat → Nat → Int) (d n : Nat) : (rowsH h d n).length = n := by unfold rowsH; rw [List.length_map, List.length_range]
theorem rowsH_succ (h : Nat → Nat → Int) (d n : Nat) : rowsH h d n ++ [line (h n) d] = rowsH h d (n + 1) := by unfold rowsH; rw [List.range_succ, List.map_append, List.map_singleton]
theorem rowsH_get (h : Nat → Nat → Int) {d n i : Nat} (hi : i < n) : (rowsH h d n)[i]? = some (line (h i) d) := by
  unfold rowsH
  rw [List.getElem?_map, List.getElem?_range hi]
  rfl
theorem grid_line (h : Nat → Nat → Int) (d n : Nat) : ∀ j, j ≤ d → grid h d (n * d) ++ line (h n) j = grid h d (n * d + j) := by
  intro j
  induction j with
  | zero => intro _; simp [line]
  | succ j ih =>
    intro hj
    rw [← line_succ, ← List.append_assoc, ih (by omega), grid_succ h (by omega)]
theorem rowsH_flat (h : Nat → Nat → Int) (d n : Nat) : (rowsH h d n).flatten = grid h d (n * d) := by
  induction n with
  | zero => rw [Nat.zero_mul, grid_zero]; rfl
  | succ n ih => rw [← rowsH_succ, List.flatten_append, ih, List.flatten_singleton, grid_line h d n d (Nat.le_refl _), Nat.succ_mul]
theorem rowL_grid (h : Nat → Nat → Int) {d n i : Nat} (hi : i < n) : rowL (grid h d (n * d)) d i = line (h i) d := by
  have hs := step_le d hi
  apply List.ext_getElem?
  intro t
  unfold rowL
  by_cases ht : t < d
  · rw [List.getElem?_drop, List.getElem?_take_of_lt (by omega), grid_at h ht (by omega), line_get _ ht]
  · rw [List.getElem?_eq_none (by rw [List.length_drop, List.length_take, grid_len]; omega), List.getElem?_eq_none (by rw [line_len]; omega)]
/-- A cell of the matrix of a right code, as a byte. -/
def cauchyB (k i j : Nat) : B := if i < k then (if i = j then 1#8 else 0#8) else Gf.inv (BitVec.ofNat 8 i ^^^ BitVec.ofNat 8 j)
def cauchyC (k i j : Nat) : Int := un (cauchyB k i j)
def cauchyL (k m : Nat) : List Int := grid (cauchyC k) k ((k + m) * k)
theorem cauchyC_unit {k i : Nat} (hi : i < k) (j : Nat) : cauchyC k i j = if i = j then 1 else 0 := by
  unfold cauchyC cauchyB
  rw [if_pos hi]
  split <;> rfl
theorem xor_nat (a b : Nat) (ha : a < 256) (hb : b < 256) : bits .xor .i64 (a : Int) (b : Int) = un (BitVec.ofNat 8 a ^^^ BitVec.ofNat 8 b) := by
  rw [← xor_un]
  unfold un
  rw [BitVec.toNat_ofNat, BitVec.toNat_ofNat, Nat.mod_eq_of_lt ha, Nat.mod_eq_of_lt hb]
theorem cauchy_len (k m : Nat) : (cauchyL k m).length = (k + m) * k := grid_len _ _ _
theorem cauchy_bytes (k m : Nat) : Bytes (cauchyL k m) := grid_bytes (fun _ _ => un_bd _) _ _
end Go.Proofs.Ytlololbhlnapkaa.Mc

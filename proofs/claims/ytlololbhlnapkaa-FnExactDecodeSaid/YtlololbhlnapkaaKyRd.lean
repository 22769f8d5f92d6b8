/-
  The steps of Gauss on cells told by their places: rows that change places, a row times a byte, a row added to the others. No program in sight; no conditions beyond each lemma's own.
-/
import Derived.Test.YtlololbhlnapkaaKyMc
namespace Go.Proofs.Ytlololbhlnapkaa.Rd
open Go Go.RowKit Go.Proofs.Ytlololbhlnapkaa.Gf Go.Proofs.Ytlololbhlnapkaa.FieldAid Go.Proofs.Ytlololbhlnapkaa.Mp Go.Proofs.Ytlololbhlnapkaa.Mc Go.Proofs.YtlololbhlnapkaaW.PrintWords
set_option linter.unusedVariables false
set_option linter.unusedSimpArgs false
abbrev H := Nat → Nat → B
def swp (r p i : Nat) : Nat := if i = r then p else if i = p then r else i
def swpH (h : H) (r p : Nat) : H := fun i j => h (swp r p i) j
def sclH (h : H) (r : Nat) (b : B) : H := fun i j => if i = r then Gf.mul (h i j) b else h i j
/-- The rows below t but r: each with the row r, times its cell of the column c, added. -/
def elmT (h : H) (r c t : Nat) : H := fun i j => if i < t ∧ i ≠ r then h i j ^^^ Gf.mul (h r j) (h i c) else h i j
def elmH (h : H) (r c : Nat) : H := fun i j => if i = r then h i j else h i j ^^^ Gf.mul (h r j) (h i c)
/-- The column c, row r: the row p, whose cell is not nothing, comes up, is made one, and clears the others. -/
def stpH (h : H) (c r p : Nat) : H := elmH (sclH (swpH h r p) r (Gf.inv (h p c))) r c
/-- The first row from i on (of d) whose cell of the column c is not nothing. -/
def piv (h : H) (c : Nat) : Nat → Nat → Option Nat
  | 0, _ => none
  | d + 1, i => if h i c = 0#8 then piv h c d (i + 1) else some i
/-- d columns from c on, r rows being done: of n rows. -/
def red (n : Nat) : Nat → Nat → Nat → H → H × Nat
  | 0, _, r, h => (h, r)
  | d + 1, c, r, h => match piv h c (n - r) r with
    | none => red n d (c + 1) r h
    | some p => if r + 1 = n then (stpH h c r p, r + 1) else red n d (c + 1) (r + 1) (stpH h c r p)
theorem piv_some {h : H} {c : Nat} : ∀ {d i p : Nat}, piv h c d i = some p → i ≤ p ∧ p < i + d ∧ h p c ≠ 0#8 ∧ ∀ q, i ≤ q → q < p → h q c = 0#8 := by
  intro d
  induction d with
  | zero => intro i p e; cases e
  | succ d ih =>
    intro i p e
    unfold piv at e
    by_cases h0 : h i c = 0#8
    · rw [if_pos h0] at e
      obtain ⟨h1, h2, h3, h4⟩ := ih e
      refine ⟨by omega, by omega, h3, fun q hq1 hq2 => ?_⟩
      by_cases hq : q = i
      · rw [hq]
        exact h0
      · exact h4 q (by omega) hq2
    · rw [if_neg h0] at e
      injection e with e
      subst e
      exact ⟨Nat.le_refl _, by omega, h0, fun q h1 h2 => by omega⟩
theorem piv_none {h : H} {c : Nat} : ∀ {d i : Nat}, piv h c d i = none → ∀ q, i ≤ q → q < i + d → h q c = 0#8 := by
  intro d
  induction d with
  | zero => intro i e q h1 h2; omega
  | succ d ih =>
    intro i e q h1 h2
    unfold piv at e
    by_cases h0 : h i c = 0#8
    · rw [if_pos h0] at e
      by_cases hq : q = i
      · rw [hq]
        exact h0
      · exact ih e q (by omega) (by omega)
    · rw [if_neg h0] at e
      cases e
theorem red_none {n d c r : Nat} {h : H} (e : piv h c (n - r) r = none) : red n (d + 1) c r h = red n d (c + 1) r h := by
  rw [red, e]
theorem red_last {n d c r p : Nat} {h : H} (e : piv h c (n - r) r = some p) (hr : r + 1 = n) : red n (d + 1) c r h = (stpH h c r p, r + 1) := by
  rw [red, e]
  exact if_pos hr
theorem red_some {n d c r p : Nat} {h : H} (e : piv h c (n - r) r = some p) (hr : ¬ r + 1 = n) : red n (d + 1) c r h = red n d (c + 1) (r + 1) (stpH h c r p) := by
  rw [red, e]
  exact if_neg hr
theorem elmT_zero (h : H) (r c : Nat) : elmT h r c 0 = h := by
  funext i j
  unfold elmT
  rw [if_neg (fun e => by omega)]
theorem elmT_end (h : H) (r c : Nat) {n i j : Nat} (hi : i < n) : elmT h r c n i j = elmH h r c i j := by
  unfold elmT elmH
  by_cases e : i = r
  · rw [if_neg (fun h => h.2 e), if_pos e]
  · rw [if_pos ⟨hi, e⟩, if_neg e]
theorem elmT_same (h : H) {r c t : Nat} (e : t = r) : elmT h r c (t + 1) = elmT h r c t := by
  funext i j
  unfold elmT
  by_cases h1 : i < t
  · by_cases h2 : i = r
    · rw [if_neg (fun h => h.2 h2), if_neg (fun h => h.2 h2)]
    · rw [if_pos ⟨by omega, h2⟩, if_pos ⟨h1, h2⟩]
  · rw [if_neg (fun h => h1 (by omega)), if_neg (fun h => h1 h.1)]
theorem elmT_other (h : H) {r c t i : Nat} (e : i ≠ t) (j : Nat) : elmT h r c (t + 1) i j = elmT h r c t i j := by
  unfold elmT
  by_cases h1 : i < t
  · by_cases h2 : i = r
    · rw [if_neg (fun h => h.2 h2), if_neg (fun h => h.2 h2)]
    · rw [if_pos ⟨by omega, h2⟩, if_pos ⟨h1, h2⟩]
  · rw [if_neg (fun h => h1 (by omega)), if_neg (fun h => h1 h.1)]
theorem elmT_step (h : H) {r c t : Nat} (e : t ≠ r) (j : Nat) : elmT h r c (t + 1) t j = elmT h r c t t j ^^^ Gf.mul (elmT h r c t r j) (elmT h r c t t c) := by
  unfold elmT
  rw [if_pos ⟨by omega, e⟩, if_neg (fun h => by omega), if_neg (fun h => h.2 rfl), if_neg (fun h => by omega)]
/-- A row of bytes, as numbers. -/
def lineB (h : H) (d i : Nat) : List Int := line (fun j => un (h i j)) d
theorem lineB_len (h : H) (d i : Nat) : (lineB h d i).length = d := line_len _ _
theorem lineB_congr {h h' : H} {d i : Nat} (e : ∀ j, j < d → h i j = h' i j) : lineB h d i = lineB h' d i := line_congr fun j hj => by rw [e j hj]
theorem rd_lineB (h : H) {d i j : Nat} (hj : j < d) : rd (lineB h d i) (j : Int) = un (h i j) := rd_line _ hj
/-- The first c columns of two. -/
def Alike (n c : Nat) (h h' : H) : Prop := ∀ i j, i < n → j < c → h i j = h' i j
theorem piv_alike {n c cc : Nat} {h h' : H} (e : Alike n c h h') (hc : cc < c) : ∀ d i, i + d ≤ n → piv h cc d i = piv h' cc d i := by
  intro d
  induction d with
  | zero => intro i _; rfl
  | succ d ih =>
    intro i hi
    unfold piv
    rw [e i cc (by omega) hc, ih (i + 1) (by omega)]
theorem swp_lt {n r p i : Nat} (hr : r < n) (hp : p < n) (hi : i < n) : swp r p i < n := by unfold swp; split <;> (try split) <;> omega
theorem stp_alike {n c cc r p : Nat} {h h' : H} (e : Alike n c h h') (hc : cc < c) (hr : r < n) (hp : p < n) : Alike n c (stpH h cc r p) (stpH h' cc r p) := by
  have e1 : Alike n c (swpH h r p) (swpH h' r p) := fun i j hi hj => e _ j (swp_lt hr hp hi) hj
  have e2 : Alike n c (sclH (swpH h r p) r (Gf.inv (h p cc))) (sclH (swpH h' r p) r (Gf.inv (h' p cc))) := fun i j hi hj => by
    unfold sclH
    rw [e1 i j hi hj, e p cc hp hc]
  intro i j hi hj
  unfold stpH elmH
  rw [e2 i j hi hj, e2 r j hr hj, e2 i cc hi hc]
theorem red_cols {n c : Nat} : ∀ (d cc r : Nat) (h h' : H), Alike n c h h' → cc + d ≤ c → r < n → Alike n c (red n d cc r h).1 (red n d cc r h').1 ∧ (red n d cc r h).2 = (red n d cc r h').2 := by
  intro d
  induction d with
  | zero => intro cc r h h' e _ _; exact ⟨e, rfl⟩
  | succ d ih =>
    intro cc r h h' e hc hr
    have ep := piv_alike e (show cc < c by omega) (n - r) r (by omega)
    cases hp : piv h cc (n - r) r with
    | none =>
      rw [red_none hp, red_none (ep ▸ hp)]
      exact ih _ _ _ _ e (by omega) hr
    | some p =>
      have hp' := piv_some hp
      have es := stp_alike e (show cc < c by omega) hr (show p < n by omega)
      by_cases hl : r + 1 = n
      · rw [red_last hp hl, red_last (ep ▸ hp) hl]
        exact ⟨es, rfl⟩
      · rw [red_some hp hl, red_some (ep ▸ hp) hl]
        exact ih _ _ _ _ es (by omega) (by omega)
end Go.Proofs.Ytlololbhlnapkaa.Rd

/-
  The kernel of a matrix of bytes: sums of products, rows that change places, are taken times a byte, are added; a matrix whose kernel is nothing comes to the unit by the steps of Gauss; any k rows of Cauchy's matrix, with the unit ahead, have such a kernel. No program in sight; no conditions beyond each lemma's own.
-/
import Derived.Test.YtlololbhlnapkaaKmRd
namespace Go.Proofs.Ytlololbhlnapkaa.Ck
open Go Go.RowKit Go.Proofs.Ytlololbhlnapkaa.Gf Go.Proofs.Ytlololbhlnapkaa.FieldAid Go.Proofs.Ytlololbhlnapkaa.Mp Go.Proofs.Ytlololbhlnapkaa.Mc Go.Proofs.Ytlololbhlnapkaa.Rd Go.Proofs.YtlololbhlnapkaaW.PrintWords
set_option linter.unusedVariables false
set_option linter.unusedSimpArgs false
theorem S_congr {f g : Nat → B} : ∀ {n : Nat}, (∀ j, j < n → f j = g j) → S f n = S g n := by
  intro n
  induction n with
  | zero => intro _; rfl
  | succ n ih =>
    intro e
    show S f n ^^^ f n = S g n ^^^ g n
    rw [ih (fun j hj => e j (by omega)), e n (by omega)]
theorem S_zero : ∀ n : Nat, S (fun _ => 0#8) n = 0#8 := by
  intro n
  induction n with
  | zero => rfl
  | succ n ih =>
    show S (fun _ => 0#8) n ^^^ 0#8 = 0#8
    rw [ih]
    rfl
theorem S_null {f : Nat → B} {n : Nat} (e : ∀ j, j < n → f j = 0#8) : S f n = 0#8 := (S_congr e).trans (S_zero n)
theorem xor4 (a b c d : B) : a ^^^ b ^^^ (c ^^^ d) = a ^^^ c ^^^ (b ^^^ d) := by
  rw [BitVec.xor_assoc, BitVec.xor_assoc, ← BitVec.xor_assoc b c d, BitVec.xor_comm b c, BitVec.xor_assoc c b d]
theorem S_xor (f g : Nat → B) : ∀ n : Nat, S (fun j => f j ^^^ g j) n = S f n ^^^ S g n := by
  intro n
  induction n with
  | zero => exact (BitVec.xor_self (x := 0#8)).symm
  | succ n ih =>
    show S (fun j => f j ^^^ g j) n ^^^ (f n ^^^ g n) = S f n ^^^ f n ^^^ (S g n ^^^ g n)
    rw [ih, xor4]
theorem S_mul (a : B) (f : Nat → B) : ∀ n : Nat, S (fun j => Gf.mul a (f j)) n = Gf.mul a (S f n) := by
  intro n
  induction n with
  | zero => exact (Gf.mul_zero a).symm
  | succ n ih =>
    show S (fun j => Gf.mul a (f j)) n ^^^ Gf.mul a (f n) = Gf.mul a (S f n ^^^ f n)
    rw [ih, Gf.mul_xor]
theorem S_one {f : Nat → B} {n c : Nat} (hc : c < n) (e : ∀ j, j < n → j ≠ c → f j = 0#8) : S f n = f c := by
  induction n with
  | zero => omega
  | succ n ih =>
    show S f n ^^^ f n = f c
    by_cases h : c = n
    · subst h
      rw [S_null (fun j hj => e j (by omega) (by omega)), BitVec.zero_xor]
    · rw [ih (by omega) (fun j hj hjc => e j (by omega) hjc), e n (by omega) (fun x => h x.symm), BitVec.xor_zero]
theorem swp_swp (r p i : Nat) : swp r p (swp r p i) = i := by
  unfold swp
  by_cases h1 : i = r
  · rw [if_pos h1]
    by_cases h2 : p = r
    · rw [if_pos h2]
      omega
    · rw [if_neg h2, if_pos rfl]
      omega
  · rw [if_neg h1]
    by_cases h2 : i = p
    · rw [if_pos h2, if_pos rfl]
      omega
    · rw [if_neg h2, if_neg h1, if_neg h2]
/-- The first c columns are the unit's. -/
def Unit (n c : Nat) (h : H) : Prop := ∀ i j, i < n → j < c → h i j = if i = j then 1#8 else 0#8
theorem unit_stp {n c p : Nat} {h : H} (hc : c < n) (hp : p < n) (hcp : c ≤ p) (hne : h p c ≠ 0#8) (e : Unit n c h) : Unit n (c + 1) (stpH h c c p) := by
  have hpi : swp c p c = p := by unfold swp; rw [if_pos rfl]
  have e1 : ∀ j, j < c → sclH (swpH h c p) c (Gf.inv (h p c)) c j = 0#8 := fun j hj => by
    unfold sclH swpH
    rw [if_pos rfl, hpi, e p j hp hj, if_neg (by omega), Gf.zero_mul]
  have e2 : sclH (swpH h c p) c (Gf.inv (h p c)) c c = 1#8 := by
    unfold sclH swpH
    rw [if_pos rfl, hpi, Gf.mul_inv _ hne]
  intro i j hi hj
  unfold stpH elmH
  by_cases hjc : j = c
  · subst hjc
    by_cases hij : i = j
    · rw [if_pos hij, if_pos hij, hij, e2]
    · rw [if_neg hij, if_neg hij, e2, Gf.one_mul, BitVec.xor_self]
  · have hj' : j < c := by omega
    rw [e1 j hj', Gf.zero_mul, BitVec.xor_zero]
    by_cases hic : i = c
    · rw [if_pos hic, hic, e1 j hj', if_neg (by omega)]
    · rw [if_neg hic]
      unfold sclH swpH
      rw [if_neg hic]
      unfold swp
      rw [if_neg hic]
      by_cases hip : i = p
      · rw [if_pos hip, e c j hc hj', if_neg (by omega), if_neg (by omega)]
      · rw [if_neg hip, e i j hi hj']
/-- The sum of v / (x + y). -/
def cs : List (B × B) → B → B
  | [], _ => 0#8
  | p :: ps, x => Gf.mul p.1 (Gf.inv (x ^^^ p.2)) ^^^ cs ps x
def next (x0 y0 : B) (p : B × B) : B × B := (Gf.mul (Gf.mul p.1 (y0 ^^^ p.2)) (Gf.inv (x0 ^^^ p.2)), p.2)
end Go.Proofs.Ytlololbhlnapkaa.Ck

/-
  A matrix beside the unit: what the steps of Gauss leave beside the unit is its inverse, from both sides; sums of sums change places. No program in sight; no conditions beyond each lemma's own.
-/
import Derived.Test.YtlololbhlnapkaaKmCk
namespace Go.Proofs.Ytlololbhlnapkaa.Mt
open Go Go.RowKit Go.Proofs.Ytlololbhlnapkaa.Gf Go.Proofs.Ytlololbhlnapkaa.FieldAid Go.Proofs.Ytlololbhlnapkaa.Mp Go.Proofs.Ytlololbhlnapkaa.Mc Go.Proofs.Ytlololbhlnapkaa.Rd Go.Proofs.Ytlololbhlnapkaa.Ck Go.Proofs.YtlololbhlnapkaaW.PrintWords
set_option linter.unusedVariables false
set_option linter.unusedSimpArgs false
theorem S_split (f : Nat → B) (a : Nat) : ∀ b : Nat, S f (a + b) = S f a ^^^ S (fun j => f (a + j)) b := by
  intro b
  induction b with
  | zero => exact (BitVec.xor_zero).symm
  | succ b ih =>
    show S f (a + b) ^^^ f (a + b) = S f a ^^^ (S (fun j => f (a + j)) b ^^^ f (a + b))
    rw [ih, BitVec.xor_assoc]
theorem S_swap (f : Nat → Nat → B) (c : Nat) : ∀ d : Nat, S (fun k => S (fun q => f q k) c) d = S (fun q => S (fun k => f q k) d) c := by
  intro d
  induction d with
  | zero => exact (S_zero c).symm
  | succ d ih =>
    show S (fun k => S (fun q => f q k) c) d ^^^ S (fun q => f q d) c = S (fun q => S (fun k => f q k) d ^^^ f q d) c
    rw [ih, S_xor]
/-- A column of c cells that the first n rows of h take to nothing. -/
def KerC (n c : Nat) (h : H) (v : Nat → B) : Prop := ∀ i, i < n → S (fun j => Gf.mul (h i j) (v j)) c = 0#8
theorem kerc_swp {n c r p : Nat} {h : H} {v : Nat → B} (hr : r < n) (hp : p < n) : KerC n c (swpH h r p) v ↔ KerC n c h v := by
  constructor
  · intro e i hi
    have := e (swp r p i) (swp_lt hr hp hi)
    unfold swpH at this
    rw [swp_swp] at this
    exact this
  · intro e i hi
    exact e (swp r p i) (swp_lt hr hp hi)
theorem scl_sum (h : H) (r : Nat) (b : B) (v : Nat → B) (c i : Nat) : S (fun j => Gf.mul (sclH h r b i j) (v j)) c = if i = r then Gf.mul b (S (fun j => Gf.mul (h i j) (v j)) c) else S (fun j => Gf.mul (h i j) (v j)) c := by
  unfold sclH
  by_cases hir : i = r
  · rw [if_pos hir, ← S_mul]
    refine S_congr fun j _ => ?_
    rw [if_pos hir, Gf.mul_comm (h i j) b, Gf.mul_assoc]
  · rw [if_neg hir]
    exact S_congr fun j _ => by rw [if_neg hir]
theorem kerc_scl {n c r : Nat} {b : B} {h : H} {v : Nat → B} (hb : b ≠ 0#8) : KerC n c (sclH h r b) v ↔ KerC n c h v := by
  constructor
  · intro e i hi
    have h1 := e i hi
    rw [scl_sum] at h1
    by_cases hir : i = r
    · rw [if_pos hir] at h1
      exact Gf.mul_eq_zero h1 hb
    · rw [if_neg hir] at h1
      exact h1
  · intro e i hi
    rw [scl_sum, e i hi, Gf.mul_zero]
    exact ite_self _
theorem elm_sum (h : H) (r q : Nat) (v : Nat → B) (c i : Nat) : S (fun j => Gf.mul (elmH h r q i j) (v j)) c = if i = r then S (fun j => Gf.mul (h i j) (v j)) c else S (fun j => Gf.mul (h i j) (v j)) c ^^^ Gf.mul (h i q) (S (fun j => Gf.mul (h r j) (v j)) c) := by
  unfold elmH
  by_cases hir : i = r
  · rw [if_pos hir]
    exact S_congr fun j _ => by rw [if_pos hir]
  · rw [if_neg hir, ← S_mul, ← S_xor]
    refine S_congr fun j _ => ?_
    rw [if_neg hir, Gf.xor_mul, Gf.mul_comm (h r j) (h i q), Gf.mul_assoc]
theorem kerc_elm {n c r q : Nat} {h : H} {v : Nat → B} (hr : r < n) : KerC n c (elmH h r q) v ↔ KerC n c h v := by
  constructor
  · intro e i hi
    have h0 := e r hr
    have h1 := e i hi
    rw [elm_sum, if_pos rfl] at h0
    rw [elm_sum] at h1
    by_cases hir : i = r
    · rw [hir]
      exact h0
    · rw [if_neg hir, h0, Gf.mul_zero, BitVec.xor_zero] at h1
      exact h1
  · intro e i hi
    rw [elm_sum, e i hi, e r hr, Gf.mul_zero, BitVec.xor_zero]
    exact ite_self _
theorem kerc_stp {n c q r p : Nat} {h : H} {v : Nat → B} (hr : r < n) (hp : p < n) (hne : h p q ≠ 0#8) : KerC n c (stpH h q r p) v ↔ KerC n c h v :=
  (kerc_elm hr).trans ((kerc_scl (Gf.inv_ne_zero hne)).trans (kerc_swp hr hp))
theorem kerc_red {n c : Nat} {v : Nat → B} : ∀ (d q r : Nat) (h : H), KerC n c (red n d q r h).1 v ↔ KerC n c h v := by
  intro d
  induction d with
  | zero => intro q r h; exact Iff.rfl
  | succ d ih =>
    intro q r h
    cases hp : piv h q (n - r) r with
    | none =>
      rw [red_none hp]
      exact ih _ _ _
    | some p =>
      obtain ⟨p1, p2, p3, _⟩ := piv_some hp
      have hs := kerc_stp (n := n) (c := c) (v := v) (show r < n by omega) (show p < n by omega) p3
      by_cases hl : r + 1 = n
      · rw [red_last hp hl]
        exact hs
      · rw [red_some hp hl]
        exact (ih _ _ _).trans hs
theorem red_bd (n : Nat) : ∀ (d q r : Nat) (h : H), (red n d q r h).2 ≤ r + d := by
  intro d
  induction d with
  | zero => intro q r h; exact Nat.le_refl _
  | succ d ih =>
    intro q r h
    cases hp : piv h q (n - r) r with
    | none =>
      rw [red_none hp]
      have := ih (q + 1) r h
      omega
    | some p =>
      by_cases hl : r + 1 = n
      · rw [red_last hp hl]
        show r + 1 ≤ _
        omega
      · rw [red_some hp hl]
        have := ih (q + 1) (r + 1) (stpH h q r p)
        omega
/-- As many independent rows as columns: the steps come to the unit. -/
theorem red_unit (n : Nat) : ∀ (d c : Nat) (h : H), c + d = n → Unit n c h → (red n d c c h).2 = n → Unit n n (red n d c c h).1 := by
  intro d
  induction d with
  | zero =>
    intro c h hcd hu hr
    obtain rfl : c = n := hcd
    exact hu
  | succ d ih =>
    intro c h hcd hu hr
    cases hp : piv h c (n - c) c with
    | none =>
      rw [red_none hp] at hr
      have := red_bd n d (c + 1) c h
      omega
    | some p =>
      obtain ⟨p1, p2, p3, _⟩ := piv_some hp
      have hu' := unit_stp (show c < n by omega) (show p < n by omega) p1 p3 hu
      by_cases hl : c + 1 = n
      · rw [red_last hp hl]
        exact hl ▸ hu'
      · rw [red_some hp hl] at hr ⊢
        exact ih (c + 1) _ (by omega) hu' hr
/-- A matrix, and the unit beside it. -/
def Beside (n : Nat) (m h : H) : Prop := ∀ i, i < n → (∀ j, j < n → h i j = m i j) ∧ ∀ j, j < n → h i (n + j) = if j = i then 1#8 else 0#8
theorem pick_sum (n : Nat) (f : Nat → B) {q : Nat} (hq : q < n) : S (fun j => Gf.mul (f j) (if j = q then 1#8 else 0#8)) n = f q := by
  rw [S_one hq (fun j _ hj => by rw [if_neg hj, Gf.mul_zero]), if_pos rfl, Gf.mul_one]
theorem pick_sum' (n : Nat) (f : Nat → B) {q : Nat} (hq : q < n) : S (fun j => Gf.mul (if j = q then 1#8 else 0#8) (f j)) n = f q := by
  rw [S_one hq (fun j _ hj => by rw [if_neg hj, Gf.zero_mul]), if_pos rfl, Gf.one_mul]
theorem xor_nil {a b : B} (h : a ^^^ b = 0#8) : a = b := by
  have h1 : a ^^^ b ^^^ b = 0#8 ^^^ b := by rw [h]
  rw [BitVec.xor_assoc, BitVec.xor_self, BitVec.xor_zero, BitVec.zero_xor] at h1
  exact h1
theorem xor_same {a b c d : B} (h1 : a = c) (h2 : b = d) : a ^^^ b = c ^^^ d := by rw [h1, h2]
/-- What stands beside the unit is the inverse, from the left. -/
theorem inv_left {n : Nat} {m h : H} (hb : Beside n m h) (hu : Unit n n (red n n 0 0 h).1) {i q : Nat} (hi : i < n) (hq : q < n) :
    S (fun j => Gf.mul ((red n n 0 0 h).1 i (n + j)) (m j q)) n = if i = q then 1#8 else 0#8 := by
  have hk : KerC n (n + n) h (fun j => if j < n then (if j = q then 1#8 else 0#8) else m (j - n) q) := by
    intro t ht
    obtain ⟨h1, h2⟩ := hb t ht
    rw [S_split, S_congr (g := fun j => Gf.mul (m t j) (if j = q then 1#8 else 0#8)) (fun j hj => by (try dsimp only); rw [h1 j hj, if_pos hj]), pick_sum n (m t) hq,
      S_congr (g := fun j => Gf.mul (if j = t then 1#8 else 0#8) (m j q)) (fun j hj => by (try dsimp only); rw [h2 j hj, if_neg (show ¬ n + j < n by omega), Nat.add_sub_cancel_left]), pick_sum' n (fun j => m j q) ht, BitVec.xor_self]
  have hk' := (kerc_red (n := n) n 0 0 h).2 hk i hi
  rw [S_split, S_congr (g := fun j => Gf.mul (if i = j then 1#8 else 0#8) (if j = q then 1#8 else 0#8)) (fun j hj => by (try dsimp only); rw [hu i j hi hj, if_pos hj]), pick_sum n (fun j => if i = j then 1#8 else 0#8) hq,
    S_congr (g := fun j => Gf.mul ((red n n 0 0 h).1 i (n + j)) (m j q)) (fun j hj => by (try dsimp only); rw [if_neg (show ¬ n + j < n by omega), Nat.add_sub_cancel_left])] at hk'
  exact (xor_nil hk').symm
/-- And from the right. -/
theorem inv_right {n : Nat} {m h : H} (hb : Beside n m h) (hu : Unit n n (red n n 0 0 h).1) {i q : Nat} (hi : i < n) (hq : q < n) :
    S (fun j => Gf.mul (m i j) ((red n n 0 0 h).1 j (n + q))) n = if i = q then 1#8 else 0#8 := by
  have hk : KerC n (n + n) (red n n 0 0 h).1 (fun j => if j < n then (red n n 0 0 h).1 j (n + q) else (if j - n = q then 1#8 else 0#8)) := by
    intro t ht
    rw [S_split, S_congr (g := fun j => Gf.mul (if j = t then 1#8 else 0#8) ((red n n 0 0 h).1 j (n + q))) (fun j hj => by
        try dsimp only
        rw [hu t j ht hj, if_pos hj]
        by_cases e : t = j
        · rw [if_pos e, if_pos e.symm]
        · rw [if_neg e, if_neg (fun x => e x.symm)]), pick_sum' n (fun j => (red n n 0 0 h).1 j (n + q)) ht,
      S_congr (g := fun j => Gf.mul ((red n n 0 0 h).1 t (n + j)) (if j = q then 1#8 else 0#8)) (fun j hj => by (try dsimp only); rw [if_neg (show ¬ n + j < n by omega), Nat.add_sub_cancel_left]), pick_sum n (fun j => (red n n 0 0 h).1 t (n + j)) hq, BitVec.xor_self]
  have hk' := (kerc_red (n := n) n 0 0 h).1 hk i hi
  obtain ⟨h1, h2⟩ := hb i hi
  rw [S_split] at hk'
  refine xor_nil (Eq.trans (xor_same ?_ ?_) hk')
  · refine S_congr fun j hj => ?_
    rw [h1 j hj, if_pos hj]
  · refine Eq.trans (pick_sum' n (fun j => if j = q then 1#8 else 0#8) hi).symm (S_congr fun j hj => ?_)
    rw [h2 j hj, if_neg (show ¬ n + j < n by omega), Nat.add_sub_cancel_left]
/-- Products do not ask for the brackets. -/
theorem assoc_sum (a b e : H) (c d i j : Nat) : S (fun k => Gf.mul (S (fun q => Gf.mul (a i q) (b q k)) c) (e k j)) d = S (fun q => Gf.mul (a i q) (S (fun k => Gf.mul (b q k) (e k j)) d)) c := by
  rw [S_congr (g := fun k => S (fun q => Gf.mul (a i q) (Gf.mul (b q k) (e k j))) c) (fun k _ => by
    rw [Gf.mul_comm, ← S_mul]
    exact S_congr fun q _ => by rw [Gf.mul_comm, Gf.mul_assoc]), S_swap]
  exact S_congr fun q _ => S_mul _ _ _
end Go.Proofs.Ytlololbhlnapkaa.Mt

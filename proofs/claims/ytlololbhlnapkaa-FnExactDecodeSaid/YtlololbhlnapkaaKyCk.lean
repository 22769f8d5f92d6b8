/-
  The kernel of a matrix of bytes: sums of products, rows that change places, are taken times a byte, are added; a matrix whose kernel is nothing comes to the unit by the steps of Gauss; any k rows of Cauchy's matrix, with the unit ahead, have such a kernel. No program in sight; no conditions beyond each lemma's own.
-/
import Derived.Test.YtlololbhlnapkaaKyRd
namespace Go.Proofs.Ytlololbhlnapkaa.Ck
open Go Go.RowKit Go.Proofs.Ytlololbhlnapkaa.Gf Go.Proofs.Ytlololbhlnapkaa.FieldAid Go.Proofs.Ytlololbhlnapkaa.Mp Go.Proofs.Ytlololbhlnapkaa.Mc Go.Proofs.Ytlololbhlnapkaa.Rd Go.Proofs.YtlololbhlnapkaaW.PrintWords
set_option linter.unusedVariables false
set_option linter.unusedSimpArgs false
theorem S_congr {f g : Nat → B} : ∀ {n : Nat}, (∀ j, j < n → f j = g j) → S f n = S g n := by
  intro n
  induction n with
  | zero => intro _; rfl
  | succ n ih =>
    intro e
    show S f n ^^^ f n = S g n ^^^ g n
    rw [ih (fun j hj => e j (by omega)), e n (by omega)]
theorem S_zero : ∀ n : Nat, S (fun _ => 0#8) n = 0#8 := by
  intro n
  induction n with
  | zero => rfl
  | succ n ih =>
    show S (fun _ => 0#8) n ^^^ 0#8 = 0#8
    rw [ih]
    rfl
theorem S_null {f : Nat → B} {n : Nat} (e : ∀ j, j < n → f j = 0#8) : S f n = 0#8 := (S_congr e).trans (S_zero n)
theorem xor4 (a b c d : B) : a ^^^ b ^^^ (c ^^^ d) = a ^^^ c ^^^ (b ^^^ d) := by
  rw [BitVec.xor_assoc, BitVec.xor_assoc, ← BitVec.xor_assoc b c d, BitVec.xor_comm b c, BitVec.xor_assoc c b d]
theorem S_xor (f g : Nat → B) : ∀ n : Nat, S (fun j => f j ^^^ g j) n = S f n ^^^ S g n := by
  intro n
  induction n with
  | zero => exact (BitVec.xor_self (x := 0#8)).symm
  | succ n ih =>
    show S (fun j => f j ^^^ g j) n ^^^ (f n ^^^ g n) = S f n ^^^ f n ^^^ (S g n ^^^ g n)
    rw [ih, xor4]
theorem S_mul (a : B) (f : Nat → B) : ∀ n : Nat, S (fun j => Gf.mul a (f j)) n = Gf.mul a (S f n) := by
  intro n
  induction n with
  | zero => exact (Gf.mul_zero a).symm
  | succ n ih =>
    show S (fun j => Gf.mul a (f j)) n ^^^ Gf.mul a (f n) = Gf.mul a (S f n ^^^ f n)
    rw [ih, Gf.mul_xor]
theorem S_one {f : Nat → B} {n c : Nat} (hc : c < n) (e : ∀ j, j < n → j ≠ c → f j = 0#8) : S f n = f c := by
  induction n with
  | zero => omega
  | succ n ih =>
    show S f n ^^^ f n = f c
    by_cases h : c = n
    · subst h
      rw [S_null (fun j hj => e j (by omega) (by omega)), BitVec.zero_xor]
    · rw [ih (by omega) (fun j hj hjc => e j (by omega) hjc), e n (by omega) (fun x => h x.symm), BitVec.xor_zero]
theorem S_two {f : Nat → B} {n a b : Nat} (ha : a < n) (hb : b < n) (hab : a ≠ b) (e : ∀ j, j < n → j ≠ a → j ≠ b → f j = 0#8) : S f n = f a ^^^ f b := by
  have h1 : S f n = S (fun j => (if j = a then f j else 0#8) ^^^ (if j = a then 0#8 else f j)) n := S_congr fun j _ => by
    by_cases h : j = a
    · rw [if_pos h, if_pos h, BitVec.xor_zero]
    · rw [if_neg h, if_neg h, BitVec.zero_xor]
  rw [h1, S_xor, S_one ha (fun j _ h => if_neg h), S_one hb (fun j hj h => by
    by_cases h2 : j = a
    · exact if_pos h2
    · rw [if_neg h2]
      exact e j hj h2 h), if_pos rfl, if_neg (fun h => hab h.symm)]
/-- A column that the first n rows and columns of h take to nothing. -/
def Ker (n : Nat) (h : H) (v : Nat → B) : Prop := ∀ i, i < n → S (fun j => Gf.mul (h i j) (v j)) n = 0#8
def Thin (n : Nat) (h : H) : Prop := ∀ v, Ker n h v → ∀ j, j < n → v j = 0#8
theorem swp_swp (r p i : Nat) : swp r p (swp r p i) = i := by
  unfold swp
  by_cases h1 : i = r
  · rw [if_pos h1]
    by_cases h2 : p = r
    · rw [if_pos h2]
      omega
    · rw [if_neg h2, if_pos rfl]
      omega
  · rw [if_neg h1]
    by_cases h2 : i = p
    · rw [if_pos h2, if_pos rfl]
      omega
    · rw [if_neg h2, if_neg h1, if_neg h2]
theorem ker_swp {n r p : Nat} {h : H} {v : Nat → B} (hr : r < n) (hp : p < n) (e : Ker n (swpH h r p) v) : Ker n h v := by
  intro i hi
  have := e (swp r p i) (swp_lt hr hp hi)
  unfold swpH at this
  rw [swp_swp] at this
  exact this
theorem ker_scl {n r : Nat} {b : B} {h : H} {v : Nat → B} (hb : b ≠ 0#8) (e : Ker n (sclH h r b) v) : Ker n h v := by
  intro i hi
  have h1 := e i hi
  unfold sclH at h1
  by_cases hir : i = r
  · have h2 : S (fun j => Gf.mul (if i = r then Gf.mul (h i j) b else h i j) (v j)) n = Gf.mul b (S (fun j => Gf.mul (h i j) (v j)) n) := by
      rw [← S_mul]
      refine S_congr fun j _ => ?_
      rw [if_pos hir, Gf.mul_comm (h i j) b, Gf.mul_assoc]
    rw [h2] at h1
    exact Gf.mul_eq_zero h1 hb
  · have h2 : S (fun j => Gf.mul (if i = r then Gf.mul (h i j) b else h i j) (v j)) n = S (fun j => Gf.mul (h i j) (v j)) n := S_congr fun j _ => by rw [if_neg hir]
    rw [h2] at h1
    exact h1
theorem ker_elm {n r c : Nat} {h : H} {v : Nat → B} (hr : r < n) (e : Ker n (elmH h r c) v) : Ker n h v := by
  have h0 := e r hr
  unfold elmH at h0
  rw [show (fun j => Gf.mul (if r = r then h r j else h r j ^^^ Gf.mul (h r j) (h r c)) (v j)) = fun j => Gf.mul (h r j) (v j) from funext fun j => by rw [if_pos rfl]] at h0
  intro i hi
  have h1 := e i hi
  unfold elmH at h1
  by_cases hir : i = r
  · rw [hir]
    exact h0
  · have h2 : S (fun j => Gf.mul (if i = r then h i j else h i j ^^^ Gf.mul (h r j) (h i c)) (v j)) n = S (fun j => Gf.mul (h i j) (v j)) n ^^^ Gf.mul (h i c) (S (fun j => Gf.mul (h r j) (v j)) n) := by
      rw [← S_mul, ← S_xor]
      refine S_congr fun j _ => ?_
      rw [if_neg hir, Gf.xor_mul, Gf.mul_comm (h r j) (h i c), Gf.mul_assoc]
    rw [h2, h0, Gf.mul_zero, BitVec.xor_zero] at h1
    exact h1
theorem ker_stp {n c r p : Nat} {h : H} {v : Nat → B} (hr : r < n) (hp : p < n) (hne : h p c ≠ 0#8) (e : Ker n (stpH h c r p) v) : Ker n h v :=
  ker_swp hr hp (ker_scl (Gf.inv_ne_zero hne) (ker_elm hr e))
/-- The first c columns are the unit's. -/
def Unit (n c : Nat) (h : H) : Prop := ∀ i j, i < n → j < c → h i j = if i = j then 1#8 else 0#8
theorem unit_stp {n c p : Nat} {h : H} (hc : c < n) (hp : p < n) (hcp : c ≤ p) (hne : h p c ≠ 0#8) (e : Unit n c h) : Unit n (c + 1) (stpH h c c p) := by
  have hpi : swp c p c = p := by unfold swp; rw [if_pos rfl]
  have e1 : ∀ j, j < c → sclH (swpH h c p) c (Gf.inv (h p c)) c j = 0#8 := fun j hj => by
    unfold sclH swpH
    rw [if_pos rfl, hpi, e p j hp hj, if_neg (by omega), Gf.zero_mul]
  have e2 : sclH (swpH h c p) c (Gf.inv (h p c)) c c = 1#8 := by
    unfold sclH swpH
    rw [if_pos rfl, hpi, Gf.mul_inv _ hne]
  intro i j hi hj
  unfold stpH elmH
  by_cases hjc : j = c
  · subst hjc
    by_cases hij : i = j
    · rw [if_pos hij, if_pos hij, hij, e2]
    · rw [if_neg hij, if_neg hij, e2, Gf.one_mul, BitVec.xor_self]
  · have hj' : j < c := by omega
    rw [e1 j hj', Gf.zero_mul, BitVec.xor_zero]
    by_cases hic : i = c
    · rw [if_pos hic, hic, e1 j hj', if_neg (by omega)]
    · rw [if_neg hic]
      unfold sclH swpH
      rw [if_neg hic]
      unfold swp
      rw [if_neg hic]
      by_cases hip : i = p
      · rw [if_pos hip, e c j hc hj', if_neg (by omega), if_neg (by omega)]
      · rw [if_neg hip, e i j hi hj']
/-- A kernel that is nothing: the steps find a row for each column, and come to the unit. -/
theorem red_thin (n : Nat) : ∀ (d c : Nat) (h : H), c + d = n → 0 < d → Unit n c h → Thin n h → (red n d c c h).2 = n ∧ Unit n n (red n d c c h).1 := by
  intro d
  induction d with
  | zero => intro c h _ h0; omega
  | succ d ih =>
    intro c h hcd _ hu ht
    cases hp : piv h c (n - c) c with
    | none =>
      have hz := piv_none hp
      have hk : Ker n h (fun j => if j = c then 1#8 else if j < c then h j c else 0#8) := by
        intro i hi
        by_cases hic : i < c
        · rw [S_two (a := i) (b := c) hi (by omega) (by omega) (fun j hj h1 h2 => by
            by_cases hjc : j < c
            · rw [hu i j hi hjc, if_neg (fun x => h1 x.symm), Gf.zero_mul]
            · show Gf.mul (h i j) (if j = c then 1#8 else if j < c then h j c else 0#8) = 0#8
              rw [if_neg h2, if_neg hjc, Gf.mul_zero])]
          show Gf.mul (h i i) (if i = c then 1#8 else if i < c then h i c else 0#8) ^^^ Gf.mul (h i c) (if c = c then 1#8 else if c < c then h c c else 0#8) = 0#8
          rw [if_neg (by omega), if_pos hic, if_pos rfl, hu i i hi hic, if_pos rfl, Gf.one_mul, Gf.mul_one, BitVec.xor_self]
        · exact S_null fun j hj => by
            show Gf.mul (h i j) (if j = c then 1#8 else if j < c then h j c else 0#8) = 0#8
            by_cases hjc : j = c
            · rw [hjc, hz i (by omega) (by omega), Gf.zero_mul]
            · rw [if_neg hjc]
              by_cases hj2 : j < c
              · rw [hu i j hi hj2, if_neg (by omega), Gf.zero_mul]
              · rw [if_neg hj2, Gf.mul_zero]
      have h1 := ht _ hk c (by omega)
      rw [if_pos rfl] at h1
      exact absurd h1 (by decide)
    | some p =>
      obtain ⟨p1, p2, p3, _⟩ := piv_some hp
      have hu' := unit_stp (show c < n by omega) (show p < n by omega) p1 p3 hu
      have ht' : Thin n (stpH h c c p) := fun v hv => ht v (ker_stp (by omega) (by omega) p3 hv)
      by_cases hl : c + 1 = n
      · rw [red_last hp hl]
        exact ⟨hl, hl ▸ hu'⟩
      · rw [red_some hp hl]
        exact ih (c + 1) _ (by omega) (by omega) hu' ht'
theorem red_full {n : Nat} (hn : 0 < n) {h : H} (ht : Thin n h) : (red n n 0 0 h).2 = n ∧ Unit n n (red n n 0 0 h).1 :=
  red_thin n n 0 h (by omega) hn (fun i j _ hj => by omega) ht
/-- The sum of v / (x + y). -/
def cs : List (B × B) → B → B
  | [], _ => 0#8
  | p :: ps, x => Gf.mul p.1 (Gf.inv (x ^^^ p.2)) ^^^ cs ps x
theorem mul_lc (a b c : B) : Gf.mul a (Gf.mul b c) = Gf.mul b (Gf.mul a c) := by rw [← Gf.mul_assoc, Gf.mul_comm a b, Gf.mul_assoc]
theorem term_eq (v a b c : B) (ha : a ≠ 0#8) (hb : b ≠ 0#8) : Gf.mul (a ^^^ c) (Gf.mul v (Gf.inv a)) ^^^ Gf.mul (b ^^^ c) (Gf.mul v (Gf.inv b)) = Gf.mul (a ^^^ b) (Gf.mul (Gf.mul (Gf.mul v c) (Gf.inv b)) (Gf.inv a)) := by
  have e1 : Gf.mul a (Gf.mul v (Gf.inv a)) = v := by rw [mul_lc, Gf.mul_inv _ ha, Gf.mul_one]
  have e2 : Gf.mul b (Gf.mul v (Gf.inv b)) = v := by rw [mul_lc, Gf.mul_inv _ hb, Gf.mul_one]
  have e3 : Gf.mul a (Gf.mul (Gf.mul (Gf.mul v c) (Gf.inv b)) (Gf.inv a)) = Gf.mul c (Gf.mul v (Gf.inv b)) := by
    rw [mul_lc, Gf.mul_inv _ ha, Gf.mul_one, Gf.mul_comm v c, Gf.mul_assoc]
  have e4 : Gf.mul b (Gf.mul (Gf.mul (Gf.mul v c) (Gf.inv b)) (Gf.inv a)) = Gf.mul c (Gf.mul v (Gf.inv a)) := by
    rw [Gf.mul_assoc (Gf.mul v c), mul_lc b, ← Gf.mul_assoc b, Gf.mul_inv _ hb, Gf.one_mul, Gf.mul_comm v c, Gf.mul_assoc]
  rw [Gf.xor_mul, Gf.xor_mul, Gf.xor_mul, e1, e2, e3, e4, xor4, BitVec.xor_self, BitVec.zero_xor, BitVec.xor_comm]
theorem xor_split (x y z : B) : x ^^^ z = (x ^^^ y) ^^^ (z ^^^ y) := by
  rw [xor4, BitVec.xor_self, BitVec.xor_zero]
def next (x0 y0 : B) (p : B × B) : B × B := (Gf.mul (Gf.mul p.1 (y0 ^^^ p.2)) (Gf.inv (x0 ^^^ p.2)), p.2)
theorem xor_ne {x y : B} (h : x ≠ y) : x ^^^ y ≠ 0#8 := fun e => h (by
  have : x ^^^ y ^^^ y = 0#8 ^^^ y := by rw [e]
  rw [BitVec.xor_assoc, BitVec.xor_self, BitVec.xor_zero, BitVec.zero_xor] at this
  exact this)
theorem cs_next (x x0 y0 : B) : ∀ ps : List (B × B), (∀ p ∈ ps, x ≠ p.2) → (∀ p ∈ ps, x0 ≠ p.2) →
    Gf.mul (x ^^^ y0) (cs ps x) ^^^ Gf.mul (x0 ^^^ y0) (cs ps x0) = Gf.mul (x ^^^ x0) (cs (ps.map (next x0 y0)) x) := by
  intro ps
  induction ps with
  | nil =>
    intro _ _
    show Gf.mul (x ^^^ y0) 0#8 ^^^ Gf.mul (x0 ^^^ y0) 0#8 = Gf.mul (x ^^^ x0) 0#8
    rw [Gf.mul_zero, Gf.mul_zero, Gf.mul_zero]
    rfl
  | cons p ps ih =>
    intro h1 h2
    have i := ih (fun q hq => h1 q (List.mem_cons_of_mem _ hq)) (fun q hq => h2 q (List.mem_cons_of_mem _ hq))
    show Gf.mul (x ^^^ y0) (Gf.mul p.1 (Gf.inv (x ^^^ p.2)) ^^^ cs ps x) ^^^ Gf.mul (x0 ^^^ y0) (Gf.mul p.1 (Gf.inv (x0 ^^^ p.2)) ^^^ cs ps x0) = Gf.mul (x ^^^ x0) (Gf.mul (Gf.mul (Gf.mul p.1 (y0 ^^^ p.2)) (Gf.inv (x0 ^^^ p.2))) (Gf.inv (x ^^^ p.2)) ^^^ cs (ps.map (next x0 y0)) x)
    have t := term_eq p.1 (x ^^^ p.2) (x0 ^^^ p.2) (y0 ^^^ p.2) (xor_ne (h1 p (List.mem_cons_self ..))) (xor_ne (h2 p (List.mem_cons_self ..)))
    rw [← xor_split, ← xor_split, ← xor_split] at t
    rw [Gf.mul_xor, Gf.mul_xor, Gf.mul_xor, xor4, t, i]
/-- Cauchy: as many sums that are nothing as there are terms, all places apart: each v is nothing. -/
theorem cauchy_zero : ∀ (ps : List (B × B)) (xs : List B), ps.length ≤ xs.length → xs.Nodup → (ps.map Prod.snd).Nodup → (∀ x ∈ xs, ∀ p ∈ ps, x ≠ p.2) → (∀ x ∈ xs, cs ps x = 0#8) → ∀ p ∈ ps, p.1 = 0#8 := by
  intro ps
  generalize hn : ps.length = n
  induction n generalizing ps with
  | zero =>
    intro xs _ _ _ _ _ p hp
    rw [List.length_eq_zero_iff] at hn
    rw [hn] at hp
    cases hp
  | succ n ih =>
    intro xs hl hx hy hd hz
    match ps, hn, xs, hl with
    | q :: ps, hn, x0 :: xs, hl =>
      have hl' : n ≤ xs.length := by simpa using hl
      have hn' : ps.length = n := by simpa using hn
      rw [List.map_cons] at hy
      obtain ⟨hx1, hx2⟩ := List.nodup_cons.1 hx
      obtain ⟨hy1, hy2⟩ := List.nodup_cons.1 hy
      have hq0 : ∀ p ∈ ps, q.2 ≠ p.2 := fun p hp e => hy1 (by rw [e]; exact List.mem_map_of_mem hp)
      have key : ∀ x ∈ xs, cs (ps.map (next x0 q.2)) x = 0#8 := by
        intro x hxm
        have hne : x ≠ x0 := fun e => hx1 (e ▸ hxm)
        have c := cs_next x x0 q.2 ps (fun p hp => hd x (List.mem_cons_of_mem _ hxm) p (List.mem_cons_of_mem _ hp)) (fun p hp => hd x0 (List.mem_cons_self ..) p (List.mem_cons_of_mem _ hp))
        have a : ∀ z, z ∈ x0 :: xs → Gf.mul (z ^^^ q.2) (cs ps z) = q.1 := by
          intro z hzm
          have h1 : Gf.mul q.1 (Gf.inv (z ^^^ q.2)) ^^^ cs ps z = 0#8 := hz z hzm
          have h2 : cs ps z = Gf.mul q.1 (Gf.inv (z ^^^ q.2)) := by
            have h3 : Gf.mul q.1 (Gf.inv (z ^^^ q.2)) ^^^ (Gf.mul q.1 (Gf.inv (z ^^^ q.2)) ^^^ cs ps z) = Gf.mul q.1 (Gf.inv (z ^^^ q.2)) := by rw [h1, BitVec.xor_zero]
            rw [← BitVec.xor_assoc, BitVec.xor_self, BitVec.zero_xor] at h3
            exact h3
          rw [h2, mul_lc, Gf.mul_inv _ (xor_ne (hd z hzm q (List.mem_cons_self ..))), Gf.mul_one]
        rw [a x (List.mem_cons_of_mem _ hxm), a x0 (List.mem_cons_self ..), BitVec.xor_self] at c
        exact Gf.mul_eq_zero c.symm (xor_ne hne)
      have hps : ∀ p ∈ ps, p.1 = 0#8 := by
        intro p hp
        have r := ih (ps.map (next x0 q.2)) (by rw [List.length_map]; exact hn') xs hl' hx2 (by rw [List.map_map]; exact hy2) (by
          intro x hxm p' hp'
          obtain ⟨p0, h0, rfl⟩ := List.mem_map.1 hp'
          exact hd x (List.mem_cons_of_mem _ hxm) p0 (List.mem_cons_of_mem _ h0)) key (next x0 q.2 p) (List.mem_map_of_mem hp)
        have r1 : Gf.mul (Gf.inv (x0 ^^^ p.2)) (Gf.mul p.1 (q.2 ^^^ p.2)) = 0#8 := by rw [Gf.mul_comm]; exact r
        have r2 := Gf.mul_eq_zero r1 (Gf.inv_ne_zero (xor_ne (hd x0 (List.mem_cons_self ..) p (List.mem_cons_of_mem _ hp))))
        rw [Gf.mul_comm] at r2
        exact Gf.mul_eq_zero r2 (xor_ne (hq0 p hp))
      have hcs : ∀ (l : List (B × B)) (x : B), (∀ p ∈ l, p.1 = 0#8) → cs l x = 0#8 := by
        intro l x
        induction l with
        | nil => intro _; rfl
        | cons p l il =>
          intro h
          show Gf.mul p.1 _ ^^^ cs l x = 0#8
          rw [h p (List.mem_cons_self ..), Gf.zero_mul, il (fun q hq => h q (List.mem_cons_of_mem _ hq))]
          rfl
      intro p hp
      rcases List.mem_cons.1 hp with rfl | hp
      · have h1 : Gf.mul p.1 (Gf.inv (x0 ^^^ p.2)) ^^^ cs ps x0 = 0#8 := hz x0 (List.mem_cons_self ..)
        rw [hcs ps x0 hps, BitVec.xor_zero, Gf.mul_comm] at h1
        exact Gf.mul_eq_zero h1 (Gf.inv_ne_zero (xor_ne (hd x0 (List.mem_cons_self ..) p (List.mem_cons_self ..))))
      · exact hps p hp
theorem len_sub {α : Type} [DecidableEq α] : ∀ (l l' : List α), l.Nodup → (∀ x ∈ l, x ∈ l') → l.length ≤ l'.length := by
  intro l
  induction l with
  | nil => intro l' _ _; exact Nat.zero_le _
  | cons a l ih =>
    intro l' hn hs
    obtain ⟨h1, h2⟩ := List.nodup_cons.1 hn
    have ha := hs a (List.mem_cons_self ..)
    have := ih (l'.erase a) h2 (fun x hx => (List.mem_erase_of_ne (fun e => h1 (by rw [← e]; exact hx))).2 (hs x (List.mem_cons_of_mem _ hx)))
    rw [List.length_erase_of_mem ha] at this
    have := List.length_pos_of_mem ha
    simp only [List.length_cons]
    omega
theorem ofNat_ne {a b : Nat} (ha : a < 256) (hb : b < 256) (h : a ≠ b) : BitVec.ofNat 8 a ≠ BitVec.ofNat 8 b := fun e => h (by
  have := congrArg BitVec.toNat e
  rw [BitVec.toNat_ofNat, BitVec.toNat_ofNat, Nat.mod_eq_of_lt ha, Nat.mod_eq_of_lt hb] at this
  exact this)
theorem len_split {α : Type} (p : α → Bool) : ∀ l : List α, (l.filter p).length + (l.filter fun x => !p x).length = l.length := by
  intro l
  induction l with
  | nil => rfl
  | cons a l ih =>
    by_cases h : p a = true
    · rw [List.filter_cons_of_pos h, List.filter_cons_of_neg (by simp [h])]
      simp only [List.length_cons]
      omega
    · rw [List.filter_cons_of_neg h, List.filter_cons_of_pos (by simpa using h)]
      simp only [List.length_cons]
      omega
theorem S_cs (v : Nat → B) (x : B) (P : Nat → Bool) : ∀ n : Nat, (∀ j, j < n → P j = false → v j = 0#8) →
    S (fun j => Gf.mul (Gf.inv (x ^^^ BitVec.ofNat 8 j)) (v j)) n = cs (((List.range n).filter P).map fun j => (v j, BitVec.ofNat 8 j)) x := by
  have app : ∀ (l l' : List (B × B)), cs (l ++ l') x = cs l x ^^^ cs l' x := by
    intro l l'
    induction l with
    | nil => exact (BitVec.zero_xor).symm
    | cons p l ih =>
      show Gf.mul p.1 _ ^^^ cs (l ++ l') x = _ ^^^ cs l x ^^^ cs l' x
      rw [ih, BitVec.xor_assoc]
  intro n
  induction n with
  | zero => intro _; rfl
  | succ n ih =>
    intro h
    show S _ n ^^^ Gf.mul (Gf.inv (x ^^^ BitVec.ofNat 8 n)) (v n) = _
    rw [ih (fun j hj => h j (by omega)), List.range_succ, List.filter_append, List.map_append, app]
    congr 1
    cases hp : P n
    · rw [h n (by omega) hp, Gf.mul_zero, List.filter_cons_of_neg (by rw [hp]; simp)]
      rfl
    · rw [List.filter_cons_of_pos hp]
      show _ = Gf.mul (v n) (Gf.inv (x ^^^ BitVec.ofNat 8 n)) ^^^ 0#8
      rw [BitVec.xor_zero, Gf.mul_comm]
/-- Any k rows of Cauchy's matrix, with the unit ahead: their kernel is nothing. -/
theorem cauchy_thin (k : Nat) (rs : List Nat) (hl : rs.length = k) (hn : rs.Nodup) (hb : ∀ r ∈ rs, r < 256) (hk : k < 256) : Thin k (fun i j => cauchyB k (rs.getD i 0) j) := by
  intro v hv
  have row : ∀ r ∈ rs, S (fun j => Gf.mul (cauchyB k r j) (v j)) k = 0#8 := by
    intro r hr
    obtain ⟨i, hi, rfl⟩ := List.getElem_of_mem hr
    have : S (fun j => Gf.mul (cauchyB k (rs.getD i 0) j) (v j)) k = 0#8 := hv i (by omega)
    rw [List.getD_eq_getElem?_getD, List.getElem?_eq_getElem hi, Option.getD_some] at this
    exact this
  have low : ∀ r, r ∈ rs → r < k → v r = 0#8 := by
    intro r hr hrk
    have h1 := row r hr
    rw [S_one hrk (fun j hj hne => by
      unfold cauchyB
      rw [if_pos hrk, if_neg (fun e => hne e.symm), Gf.zero_mul])] at h1
    unfold cauchyB at h1
    rw [if_pos hrk, if_pos rfl, Gf.one_mul] at h1
    exact h1
  have hsp := len_split (fun r : Nat => decide (k ≤ r)) rs
  have hsq := len_split (fun j : Nat => decide (j ∉ rs)) (List.range k)
  have hle := len_sub (rs.filter fun x => !decide (k ≤ x)) ((List.range k).filter fun j => !decide (j ∉ rs)) (hn.filter _) (by
    intro x hx
    rw [List.mem_filter] at hx ⊢
    obtain ⟨h1, h2⟩ := hx
    have h3 : ¬ k ≤ x := by simpa using h2
    exact ⟨List.mem_range.2 (by omega), by simp [h1]⟩)
  rw [List.length_range] at hsq
  have z := cauchy_zero (((List.range k).filter fun j => decide (j ∉ rs)).map fun j => (v j, BitVec.ofNat 8 j)) ((rs.filter fun r => decide (k ≤ r)).map (BitVec.ofNat 8)) (by
      rw [List.length_map, List.length_map]
      omega) (by
      refine List.Pairwise.map _ ?_ (List.Pairwise.and_mem.1 (hn.filter _))
      rintro a b ⟨h1, h2, h3⟩
      exact ofNat_ne (hb a (List.mem_filter.1 h1).1) (hb b ((List.mem_filter.1 h2).1)) h3) (by
      rw [List.map_map]
      refine List.Pairwise.map _ ?_ (List.Pairwise.and_mem.1 (List.nodup_range.filter _))
      rintro a b ⟨h1, h2, h3⟩
      have h1' := List.mem_range.1 ((List.mem_filter.1 h1).1)
      have h2' := List.mem_range.1 ((List.mem_filter.1 h2).1)
      exact ofNat_ne (by omega) (by omega) h3) (by
      intro x hx p hp
      obtain ⟨r, hr, rfl⟩ := List.mem_map.1 hx
      obtain ⟨j, hj, rfl⟩ := List.mem_map.1 hp
      rw [List.mem_filter] at hr hj
      have h1 := List.mem_range.1 hj.1
      have h2 : k ≤ r := by simpa using hr.2
      exact ofNat_ne (hb r hr.1) (by omega) (by omega)) (by
      intro x hx
      obtain ⟨r, hr, rfl⟩ := List.mem_map.1 hx
      rw [List.mem_filter] at hr
      have h2 : k ≤ r := by simpa using hr.2
      have h3 := row r hr.1
      rw [← S_cs v (BitVec.ofNat 8 r) (fun j => decide (j ∉ rs)) k (fun j hj hf => low j (by simpa using hf) hj)]
      rw [← h3]
      refine S_congr fun j _ => ?_
      unfold cauchyB
      rw [if_neg (by omega)])
  intro j hj
  by_cases hm : j ∈ rs
  · exact low j hm hj
  · exact z (v j, BitVec.ofNat 8 j) (List.mem_map.2 ⟨j, List.mem_filter.2 ⟨List.mem_range.2 hj, by simp [hm]⟩, rfl⟩)
/-- Any k rows of Cauchy's matrix are independent, and the steps bring them to the unit. -/
theorem cauchy_full {k : Nat} (k1 : 1 ≤ k) (hk : k < 256) (rs : List Nat) (hl : rs.length = k) (hn : rs.Nodup) (hb : ∀ r ∈ rs, r < 256) :
    (red k k 0 0 (fun i j => cauchyB k (rs.getD i 0) j)).2 = k := (red_full (by omega) (cauchy_thin k rs hl hn hb hk)).1
end Go.Proofs.Ytlololbhlnapkaa.Ck

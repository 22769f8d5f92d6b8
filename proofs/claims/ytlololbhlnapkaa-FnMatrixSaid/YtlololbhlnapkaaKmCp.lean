/-
  copy within one row of the call's own: its second k cells become its first k. Conditions: the row has 2 k cells, k is not nothing.
-/
import Derived.Test.YtlololbhlnapkaaKmMx2
import Derived.Laws.IdiomCopy
namespace Go.Proofs.Ytlololbhlnapkaa.Cp
open Go Go.RowKit Go.Proofs.YtlololbhlnapkaaW.PrintWords Go.Proofs.YtlololbhlnapkaaW.PrintLast Go.Proofs.YtlololbhlnapkaaW.PrintMore
set_option linter.unusedVariables false
set_option linter.unusedSimpArgs false
def dup (k : Nat) (l : List Int) : List Int := l.take k ++ (l.take k ++ l.drop (2 * k))
theorem grown_trans {w w1 w2 : World} {row : Option Nat} (h1 : w.grownBy w1 row) (h2 : w1.grownBy w2 row) : w.grownBy w2 row :=
  ⟨h2.os.trans h1.os, h2.tape.trans h1.tape, h2.output.trans h1.output, Nat.le_trans h1.size h2.size, fun k hk hne => (h2.block k (Nat.lt_of_lt_of_le hk h1.size) hne).trans (h1.block k hk hne)⟩
theorem put_list (l : List Int) (o : Nat) (v : Int) (r : List Int) (h : o < l.length) : (l.set o v).take (o + 1) ++ r ++ (l.set o v).drop (o + 1 + r.length) = l.take o ++ (v :: r) ++ l.drop (o + (r.length + 1)) := by
  have hl : (l.take o).length = o := by rw [List.length_take]; omega
  rw [List.set_eq_take_append_cons_drop, if_pos h, List.take_append, List.drop_append, hl, List.take_of_length_le (by omega), List.drop_of_length_le (show (l.take o).length ≤ o + 1 + r.length by omega), show o + 1 - o = 1 by omega, show o + 1 + r.length - o = r.length + 1 by omega,
    List.drop_succ_cons, List.drop_drop, show o + 1 + r.length = o + (r.length + 1) by omega]
  simp
theorem sets_Q {base : Nat} {ok : Nat → Prop} {g off n cap : Nat} : ∀ (vs : List Int) (o : Nat) (W : World) (xs : List Int), (Kd.int .i64).Q 2 W base ok (.slice (some ⟨g, off, none⟩) n cap) xs → o + vs.length ≤ n →
    (Kd.int .i64).Q 2 (W.setCells g (off + o) (encs (Value.int .i64) vs)) base ok (.slice (some ⟨g, off, none⟩) n cap) (xs.take o ++ vs ++ xs.drop (o + vs.length)) ∧ W.grownBy (W.setCells g (off + o) (encs (Value.int .i64) vs)) (some g) := by
  intro vs
  induction vs with
  | nil =>
    intro o W xs h hn
    refine ⟨?_, World.grownBy.refl W _⟩
    have e : xs.take o ++ [] ++ xs.drop (o + ([] : List Int).length) = xs := by simp
    rw [e]
    exact h
  | cons v r ih =>
    intro o W xs h hn
    have hxn := (Kd.Q_reads' h).1
    simp only [List.length_cons] at hn ⊢
    obtain ⟨h1, g1⟩ := Kd.Q_putg h (o : Int) (by omega) (by omega) v
    rw [Int.toNat_natCast] at h1 g1
    obtain ⟨h2, g2⟩ := ih (o + 1) _ _ h1 (by omega)
    rw [put_list xs o v r (by omega)] at h2
    exact ⟨h2, grown_trans g1 g2⟩
theorem nums {N : Int} {n : Nat} (h1 : 1 < N) (h2 : N ≤ 1000) (h3 : (n : Int) = wrap64 (N * N)) : 0 ≤ N ∧ N ≤ wrap64 (2 * N) ∧ wrap64 (2 * N) ≤ (n : Int) ∧ 0 < N.toNat ∧ 2 * N.toNat ≤ n ∧ (wrap64 (2 * N)).toNat - N.toNat = N.toNat := by
  obtain ⟨k, rfl⟩ := Int.eq_ofNat_of_zero_le (show 0 ≤ N by omega)
  have e1 : k * 2 ≤ k * k := Nat.mul_le_mul_left k (by omega)
  have e2 : k * k ≤ 1000 * 1000 := Nat.mul_le_mul (by omega) (by omega)
  rw [← Int.natCast_mul] at h3
  have e3 : wrap64 ((k * k : Nat) : Int) = ((k * k : Nat) : Int) := by
    generalize k * k = z at e2 ⊢
    unfold wrap64
    omega
  have e4 : wrap64 (2 * (k : Int)) = 2 * (k : Int) := by unfold wrap64; omega
  rw [e3] at h3
  rw [e4]
  generalize k * k = z at e1 e2 h3
  omega
theorem less {k n c : Nat} (h1 : 0 < k) (h2 : 2 * k ≤ n) (h3 : n ≤ c) : ¬ c = k := by omega
section
variable {P : Program} {ops : Array Oper} {Q : Exit → Act → World → Prop}
theorem copy_ {oi : Oper} {N : Option Tmp} {a : Act} {W : World} {K : Act → World → Prop} (s x : Operand) (t t' : TypeId) (hw : Region.wanted oi (yielded ops a.tmps) = true) (hN : oi.dst = N)
    (ho : oi.op = .call { callee := .builtin .copy, args := #[s, x], argTypes := #[t, t'] }) {v1 v2 r : Value} {W1 : World} (h1 : a.eval s = v1) (h2 : a.eval x = v2)
    (hr : (Builtin.copy_ #[t, t'] oi.type #[v1, v2]).run P W = .ok r W1) (h : K (a.put N r) W1) : if Region.wanted oi (yielded ops a.tmps) = true then Oper.wp P oi a W K Q else K (a.put N undef) W := by
  rw [if_pos hw]
  subst hN
  unfold Oper.wp execOp
  simp only [ho, resolve, invoke, builtin, Sem.run_bind, Sem.run_pure, Result.andThen_ok, List.map_toArray, List.map_cons, List.map_nil, h1, h2, hr]
  exact h
theorem Q_dup {W : World} {base : Nat} {ok : Nat → Prop} {A : Option Addr} {c : Nat} {l : List Int} {t : TypeId} (ht : P.underlying t = some (.slice 2)) (hi : (P.info? 2).map (·.size) = some 1)
    (HQ : (Kd.int .i64).Q 2 W base ok (.slice A l.length c) l) (k : Nat) (hk : 0 < k) (h2 : 2 * k ≤ l.length) (ty : TypeId) {v1 v2 : Value} (e1 : v1 = .slice (if c = k then A else A.map (·.add (k * 1))) k (c - k)) (e2 : v2 = .slice A k c) :
    ∃ W1, (Builtin.copy_ #[t, t] ty #[v1, v2]).run P W = .ok (goInt (k : Int)) W1 ∧ (Kd.int .i64).Q 2 W1 base ok (.slice A l.length c) (dup k l) ∧ ∃ b, W.grownBy W1 (some b) ∧ base ≤ b ∧ ∃ cur, W.heap[b]? = some (.cells cur 2 (0, 0)) := by
  have HQ0 := HQ
  obtain ⟨_, hlc, HC⟩ := Kd.Q_reads' HQ
  obtain ⟨_, inner, ho, _⟩ := HQ
  rcases ho.2 with ⟨hn, _⟩ | ⟨g, off, cap, cur, hv, hb, hh, hnc, hcm, hcs, htake⟩
  · omega
  rw [show (Kd.int .i64).sz = 1 from rfl, Nat.mul_one] at hv
  injection hv with hA hn hc
  have hadd : ∀ j, (⟨g, off, none⟩ : Addr).add j = ⟨g, off + j, none⟩ := fun j => by
    unfold Addr.add
    split <;> first | rfl | (simp_all; done)
  subst hA
  subst hc
  have hkl : (l.take k).length = k := by rw [List.length_take]; omega
  have hel : (encs (Value.int .i64) (l.take k)).length = k := by rw [encs_length, hkl]
  have hat : ∀ j, j < l.length → W.cell? ⟨g, off + j, none⟩ = some (.int .i64 (rd l (j : Int))) := by
    intro j hj
    obtain ⟨ad, ea, hx⟩ := Kd.at_int HC (j : Int) (by omega) (by omega)
    cases ea
    rw [Int.toNat_natCast, hadd] at hx
    exact hx
  have hr := run_copy_cells (P := P) W t t ty 2 g (off + k) k (c - k) ⟨g, off, none⟩ k c (encs (Value.int .i64) (l.take k)) ht hi (by rw [hel]; exact (Nat.min_self k).symm) (by
    intro j v hj
    unfold encs at hj
    rw [List.getElem?_map, Option.map_eq_some_iff] at hj
    obtain ⟨x, hx, rfl⟩ := hj
    have hj2 : j < k := by
      have := (List.getElem?_eq_some_iff.1 hx).1
      omega
    rw [List.getElem?_take_of_lt hj2] at hx
    have h3 := hat j (by omega)
    unfold rd at h3
    rw [Int.toNat_natCast, List.getD_eq_getElem?_getD, hx, Option.getD_some] at h3
    rw [hadd]
    exact h3) (by
    intro j hj
    have h3 := hat (k + j) (by omega)
    rw [Nat.add_assoc, h3]
    rfl) (fun j _ => blk_frozen hh _) (by
    intro v hv
    unfold encs at hv
    obtain ⟨x, _, rfl⟩ := List.mem_map.1 hv
    rfl)
  rw [hel] at hr
  obtain ⟨q1, q2⟩ := sets_Q (l.take k) k W l HQ0 (by omega)
  refine ⟨_, ?_, ?_, g, q2, hb, cur, hh⟩
  · rw [e1, e2, if_neg (by omega)]
    have ea : (some (⟨g, off, none⟩ : Addr)).map (·.add (k * 1)) = some ⟨g, off + k, none⟩ := by rw [Option.map_some, Nat.mul_one, hadd]
    rw [ea]
    exact hr
  · have ed : l.take k ++ l.take k ++ l.drop (k + (l.take k).length) = dup k l := by
      unfold dup
      rw [hkl, List.append_assoc, Nat.two_mul]
    rw [← ed]
    exact q1
end
end Go.Proofs.Ytlololbhlnapkaa.Cp

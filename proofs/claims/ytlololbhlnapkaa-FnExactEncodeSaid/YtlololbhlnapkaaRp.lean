/-
  strings.Repeat of the zero byte, off the shelf's contract; copy of a text onto a row of bytes of the call's own. Conditions: at most a thousand million bytes; the text is no longer than the row.
-/
import Derived.Test.YtlololbhlnapkaaMx2
import Derived.Test.YtlololbhlnapkaaShelf
import Derived.Lib.Repeat
import Derived.Lib.LazyBuf
import Derived.Laws.IdiomCopy
namespace Go.Proofs.Ytlololbhlnapkaa.Rp
open Go Go.RowKit Go.Proofs.YtlololbhlnapkaaW.PrintWords Go.Proofs.YtlololbhlnapkaaW.PrintLast Go.Proofs.YtlololbhlnapkaaW.PrintMore
set_option linter.unusedVariables false
set_option linter.unusedSimpArgs false
theorem repeat_zero (c : Nat) : Lib.repeatL [0] c = List.replicate c 0 := by
  induction c with
  | zero => rfl
  | succ c ih => rw [Lib.repeatL, ih]; rfl
theorem rep_calls (c : Nat) (w : World) (hc : c ≤ 1000000000) : Calls Try.prog 146 #[.string ⟨#[0]⟩, .int .i64 (c : Int)] w fun e w' => e = .returned (.string ⟨(List.replicate c (0 : UInt8)).toArray⟩) ∧ Below w.heap.size w w' := by
  refine (Try.strings_Repeat ⟨#[0]⟩ c w (by omega) (by show 1 * c ≤ _; omega)).mono ?_
  rintro e w' ⟨rfl, hb⟩
  refine ⟨?_, hb⟩
  rw [show (ByteArray.mk #[0]).data.toList = [0] from rfl, repeat_zero]
/-- A text laid onto a row of bytes that is long enough. -/
def cpT (y : ByteArray) (xs : List Int) : Option (List Int) := if y.size ≤ xs.length then some (bytesOf y ++ xs.drop y.size) else none
theorem cpT_out {y : ByteArray} {xs r : List Int} (h : cpT y xs = some r) : y.size ≤ xs.length ∧ r = bytesOf y ++ xs.drop y.size := by
  unfold cpT at h
  by_cases hl : y.size ≤ xs.length
  · rw [if_pos hl] at h
    exact ⟨hl, (Option.some.inj h).symm⟩
  · rw [if_neg hl] at h
    cases h
section
variable {P : Program} {ops : Array Oper} {rest : List Oper} {o : Oper} {a : Act} {Q : Exit → Act → World → Prop}
/-- copy(v, s), v a row of bytes of one's own, s no longer: its first bytes are s's then. -/
theorem R_copy_str {w0 W : World} (base : Nat) (hgd : o.guard = none) (s x : Operand) (t t' e : TypeId)
    (ho : o.op = .call { callee := .builtin .copy, args := #[s, x], argTypes := #[t, t'] }) (ht : P.underlying t = some (.slice e)) (hinfo : (P.info? e).map (·.size) = some 1)
    (v : Value) (xs : List Int) (y : ByteArray) (ok : Nat → Prop) (hs : a.eval s = v) (hx : a.eval x = .string y) (hle : y.size ≤ xs.length)
    (HO : (Kd.int .u8).R e W base ok v xs) (HB : Below base w0 W) (hbase : base ≤ W.heap.size)
    (h : ∀ w1, (Kd.int .u8).R e w1 base ok v (bytesOf y ++ xs.drop y.size) → Below base w0 w1 → W.grownBy w1 v.ownBlock → wpList P ops Q rest (a.put o.dst (.int .i64 (y.size : Int))) w1) :
    wpList P ops Q (o :: rest) a W := by
  have hown := Kd.own_of_R HO
  have fin : ∀ w1, (Builtin.copy_ #[t, t'] o.type #[v, .string y]).run P W = .ok (goInt (y.size : Int)) w1 → (Kd.int .u8).R e w1 base ok v (bytesOf y ++ xs.drop y.size) → W.grownBy w1 v.ownBlock → wpList P ops Q (o :: rest) a W := by
    intro w1 hr hrow hg
    refine wpList_plain hgd fun K hK => ?_
    unfold Oper.wp execOp
    simp only [ho, resolve, invoke, builtin, Sem.run_bind, Sem.run_pure, Result.andThen_ok, List.map_toArray, List.map_cons, List.map_nil, hs, hx, hr]
    exact hK _ _ (h w1 hrow (HB.grown hg hbase (own_base hown)) hg)
  have hz : ∀ w, (Go.sizeOf e).run P w = .ok 1 w := by
    intro w
    obtain ⟨i, hi, hi1⟩ := Option.map_eq_some_iff.1 hinfo
    simp [sizeOf, typeInfo, hi, hi1]
  rcases Nat.eq_zero_or_pos xs.length with h0 | hp
  · obtain ⟨A', c', hv⟩ := own_slice hown
    have hy0 : y.size = 0 := by omega
    have hb0 : bytesOf y = [] := List.eq_nil_of_length_eq_zero (by rw [bytesOf_length]; exact hy0)
    refine fin W ?_ (by rw [hb0, hy0, List.drop_zero, List.nil_append]; exact HO) (World.grownBy.refl W _)
    rw [hy0, hv]
    cases A' <;> simp [Builtin.copy_, run_underlying ht, Builtin.lenOf, Builtin.firstCells, hz, hy0, storeCells]
  · rcases hown.2 with ⟨_, hx0⟩ | ⟨g, cap, cur, hv, hb, hh, hnc, hcm, hcs, htake⟩
    · omega
    have hcs1 : cur.size = cap := by omega
    have hr := Go.run_copy_string (P := P) W t t' o.type e g 0 xs.length cap y ht hz hle
      (fun j hj => by rw [cell_of_row W g _ cur e (0, 0) hh]; simp; omega) (fun j _ => blk_frozen hh _)
    have he : (y.data.toList.map fun b => Value.int .u8 (b.toNat : Int)) = encs (Value.int .u8) (bytesOf y) := by
      unfold encs bytesOf
      rw [List.map_map]
      rfl
    rw [he] at hr
    have hkl : (encs (Value.int .u8) (bytesOf y)).length = y.size := by rw [encs_length, bytesOf_length]
    obtain ⟨cur', h3, h4, h5⟩ := setCells_row (encs (Value.int .u8) (bytesOf y)) 0 W cur hh (by rw [hkl]; omega)
    obtain ⟨s1, s2, s3, s4⟩ := setCells_same g (encs (Value.int .u8) (bytesOf y)) 0 W
    refine fin _ (by rw [hv, hr]) (Kd.R_of_own ?_ HO.1) ⟨s1, s2, s3, by rw [s4]; exact Nat.le_refl _, fun k _ hk => setCells_far _ _ k (fun he => hk (by rw [hv, he]; simp [Value.ownBlock]))⟩
    have hln : (bytesOf y ++ xs.drop y.size).length = xs.length := by
      rw [List.length_append, bytesOf_length, List.length_drop]
      omega
    rw [hln]
    refine ⟨by rw [encs_length, hln, Nat.mul_one], .inr ⟨g, cap, cur', hv, hb, h3, hnc, hcm, by rw [h4, hcs], ?_⟩⟩
    rw [h5, List.take_zero, List.nil_append, hkl, Nat.zero_add, encs_append, Nat.mul_one]
    rw [List.take_append, hkl, List.take_of_length_le (by rw [hkl]; exact hle)]
    congr 1
    have htk : cur.toList.take xs.length = encs (Value.int .u8) xs := by rw [← htake, Nat.mul_one]
    have hd : encs (Value.int .u8) (xs.drop y.size) = (encs (Value.int .u8) xs).drop y.size := by simp [encs, List.map_drop]
    rw [hd, ← htk, List.drop_take]
end
end Go.Proofs.Ytlololbhlnapkaa.Rp

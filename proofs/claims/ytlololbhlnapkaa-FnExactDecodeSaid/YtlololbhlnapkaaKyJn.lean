/-
  strings.Join with nothing between the texts, off the shelf's contract. Conditions: at most a thousand texts, of a thousand million bytes together.
-/
import Derived.Test.YtlololbhlnapkaaKyMx2
import Derived.Test.YtlololbhlnapkaaKyShelfJ
import Derived.Lib.LazyBuf
namespace Go.Proofs.Ytlololbhlnapkaa.Jn
open Go Go.RowKit Go.Proofs.YtlololbhlnapkaaW.PrintWords Go.Proofs.YtlololbhlnapkaaW.PrintLast Go.Proofs.YtlololbhlnapkaaW.PrintMore
set_option linter.unusedVariables false
set_option linter.unusedSimpArgs false
/-- Texts laid one behind the other. -/
def flatT (l : List ByteArray) : ByteArray := ⟨(l.map (·.data.toList)).flatten.toArray⟩
theorem join_flat (xs : List (List UInt8)) : Lib.join xs [] = xs.flatten := by
  cases xs with
  | nil => rfl
  | cons x r =>
    rw [Lib.join_cons, List.flatten_cons]
    unfold Lib.joinTail
    congr 2
    simp
theorem flatT_size (l : List ByteArray) : (flatT l).size = (l.map (·.data.toList)).flatten.length := by
  unfold flatT
  simp [ByteArray.size]
theorem join_calls (A0 : Option Addr) (c0 : Nat) (l0 : List ByteArray) (w : World) (hr : Kd.C Kd.string w A0 l0.length l0) (hc : l0.length ≤ c0) (hn : l0.length ≤ 1000) (hl : (flatT l0).size ≤ 1000000000) :
    Calls Try.prog 119 #[.slice A0 l0.length c0, .string ⟨#[]⟩] w fun e w' => e = .returned (.string (flatT l0)) ∧ Below w.heap.size w w' := by
  rw [flatT_size] at hl
  by_cases h0 : l0.length = 0
  · obtain rfl : l0 = [] := List.eq_nil_of_length_eq_zero h0
    refine (Try.strings_Join_none A0 c0 ⟨#[]⟩ w).mono ?_
    rintro e w' ⟨rfl, rfl⟩
    exact ⟨rfl, Below.refl _ _⟩
  · have hat : ∀ j, j < l0.length → ∃ ad, A0 = some ad ∧ w.cell? (ad.add j) = some (.string (l0.getD j ByteArray.empty)) := by
      intro j hj
      obtain ⟨ad, c, e, _, hK, hc0⟩ := Kd.C_get hr ByteArray.empty (j : Int) (by omega) (by omega)
      have hK' : c = [.string (l0.getD (j : Int).toNat ByteArray.empty)] := hK
      subst hK'
      have h1 := hc0 0 _ rfl
      rw [Int.toNat_natCast, show Kd.string.sz = 1 from rfl, Nat.mul_one, Nat.add_zero] at h1
      exact ⟨ad, e, h1⟩
    obtain ⟨ad, rfl, h1⟩ := hat 0 (by omega)
    have hsp : ad.spot = none := by
      rw [show ad.add 0 = ad from rfl] at h1
      unfold World.cell? at h1
      cases hs : ad.spot with
      | none => rfl
      | some s => 
        rw [hs] at h1
        split at h1 <;> simp at h1
    obtain ⟨b, o, sp⟩ := ad
    cases hsp
    have hadd : ∀ j, (⟨b, o, none⟩ : Addr).add j = ⟨b, o + j, none⟩ := fun j => by
      unfold Addr.add
      split <;> first | rfl | (simp_all; done)
    refine (Try.strings_Join b o c0 l0 ⟨#[]⟩ w (fun j x hx => ?_) (World.block_lt_of_cell? w _ h1) (by omega) hc (by rw [join_flat]; omega)).mono ?_
    · have hj := (List.getElem?_eq_some_iff.1 hx).1
      obtain ⟨ad, e, h2⟩ := hat j hj
      cases e
      rw [hadd, List.getD_eq_getElem?_getD, hx, Option.getD_some] at h2
      exact h2
    · rintro e w' ⟨rfl, hb⟩
      rw [join_flat]
      exact ⟨rfl, hb⟩
end Go.Proofs.Ytlololbhlnapkaa.Jn

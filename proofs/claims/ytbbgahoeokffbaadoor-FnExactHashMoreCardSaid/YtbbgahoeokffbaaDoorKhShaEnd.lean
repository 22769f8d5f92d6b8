/-
  What the reference's l05End and l05More answer, in the program's own words, as contracts. Conditions: a right state, a rest that fits the size.
-/
import Derived.Test.YtbbgahoeokffbaaDoorKhShaCon
namespace Go.Proofs.YtbbgahoeokffbaaDoor.Sha
open Go Go.RowKit Go.Proofs.YtbbgahoeokffbaaDoorW.PrintWords Go.Proofs.YtbbgahoeokffbaaDoorW.PrintLast Go.Proofs.YtbbgahoeokffbaaDoorW.PrintMore Go.Proofs.YtbbgahoeokffbaaDoor.XFnExactDigest
set_option linter.unusedVariables false
set_option linter.unusedSimpArgs false
def u32B (x : Int) : Bool := decide (0 ≤ x) && decide (x ≤ 4294967295)
/-- A right hash. -/
def okH (l : List Int) (rest : ByteArray) (size : Int) : Bool := decide (l.length = 8) && l.all u32B && decide (0 ≤ size ∧ size ≤ 1099511627776 ∧ (rest.size : Int) = size % 64)
theorem okH_out {l : List Int} {rest : ByteArray} {size : Int} (h : okH l rest size = true) : l.length = 8 ∧ Words l ∧ 0 ≤ size ∧ size ≤ 1099511627776 ∧ (rest.size : Int) = size % 64 := by
  unfold okH at h
  rw [Bool.and_eq_true, Bool.and_eq_true] at h
  obtain ⟨⟨h1, h2⟩, h3⟩ := h
  have h3 := of_decide_eq_true h3
  refine ⟨of_decide_eq_true h1, fun x hx => ?_, h3.1, h3.2.1, h3.2.2⟩
  have := List.all_eq_true.1 h2 x hx
  unfold u32B at this
  rw [Bool.and_eq_true] at this
  have a := of_decide_eq_true this.1
  have b := of_decide_eq_true this.2
  omega
/-- The state behind a text, the rest, the size. -/
def moreF (l : List Int) (rest text : ByteArray) (size : Int) : List Int × ByteArray × Int := (blks (rest ++ text) l ((rest ++ text).size / 64), (rest ++ text).extract (64 * ((rest ++ text).size / 64)) (rest ++ text).size, size + (text.size : Int))
def moreS (l : List Int) (rest : ByteArray) (size : Int) (text : ByteArray) : Option (List Int × ByteArray × Int) := if okH l rest size = true ∧ text.size ≤ 20000 then some (moreF l rest text size) else none
theorem moreS_calls (A : Option Addr) (c : Nat) (l : List Int) (rest : ByteArray) (size : Int) (text : ByteArray) (r1 : List Int) (r2 : ByteArray) (r3 : Int) (w : World) (hr : Kd.C (Kd.int .i64) w A l.length l) (hc : l.length ≤ c) (h : moreS l rest size text = some (r1, r2, r3)) :
    Calls Tryd.prog 50 #[.agg #[.slice A l.length c, .string rest, .int .i64 size], .string text] w fun e w' => ∃ v0_ : Value, e = .returned (.agg #[v0_, .string r2, .int .i64 r3]) ∧ Kd.R (Kd.int .i64) 2 w' w.heap.size (fun _ => True) v0_ r1 ∧ Below w.heap.size w w' := by
  unfold moreS at h
  by_cases q : okH l rest size = true ∧ text.size ≤ 20000
  · rw [if_pos q] at h
    obtain ⟨h1, h2, h3, h4, h5⟩ := okH_out q.1
    have e := more_spec l h1 h2 rest text size (by omega) 1000 (by omega)
    rw [show wrap64 (size + (text.size : Int)) = size + (text.size : Int) by unfold wrap64; omega] at e
    refine spec_l05More.calls 1000 A c l rest size text r1 r2 r3 w hr hc ?_
    rw [e]
    exact h
  · rw [if_neg q] at h
    cases h
end Go.Proofs.YtbbgahoeokffbaaDoor.Sha

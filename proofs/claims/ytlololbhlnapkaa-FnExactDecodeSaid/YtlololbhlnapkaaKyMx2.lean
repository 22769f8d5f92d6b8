/-
  What slices.Grow answers where nothing is grown yet: a row of its own, of length nothing; the walk of its code. Conditions: at most a thousand million elements are asked for.
-/
import Derived.Test.YtlololbhlnapkaaKyMx1
import Derived.Test.YtlololbhlnapkaaKyM6
namespace Go.Proofs.Ytlololbhlnapkaa.Mx
open Go Go.RowKit Go.Proofs.YtlololbhlnapkaaW.PrintWords Go.Proofs.YtlololbhlnapkaaW.PrintLast Go.Proofs.YtlololbhlnapkaaW.PrintMore
set_option linter.unusedVariables false
set_option linter.unusedSimpArgs false
theorem info2 : (Try.prog.info? 2).map (fun i => (i.zero, i.size, i.bytes)) = some (some (.int .i64 0), 1, 8) := by kernel_rfl
set_option maxHeartbeats 4000000 in
set_option maxRecDepth 100000 in
theorem grow_calls (n : Int) (h0 : 0 ≤ n) (hn : n ≤ 1000000000) (w : World) :
    Calls Try.prog 145 #[.slice none 0 0, .int .i64 n] w fun e w' => ∃ v, e = .returned v ∧ Kd.R (Kd.int .i64) 2 w' w.heap.size (fun _ => True) v [] ∧ Below w.heap.size w w' := by
  have HB := Below.refl w.heap.size w
  have hlt : decide (n < 0) = false := decide_eq_false (by omega)
  obtain ⟨i0, hi0, _, hsz, _⟩ := info_parts info2
  by_cases hp : n = 0
  · subst hp
    go_enter Try.func145, Try.ntmps145
    go_wp2
    go_ret
    exact ⟨_, rfl, Kd.R_nil _ _ _ _ _, HB⟩
  · have hgt : decide (0 < n) = true := decide_eq_true (by omega)
    have hcut0 := cut_to (P := Try.prog) 22 2 .i64 Try.underlying22 hi0 none 0 0 0 (by omega) (by omega) (by omega)
    go_enter Try.func145, Try.ntmps145
    go_wp2_with ((with_reducible refine gate_builtin (b := .append) (xs := #[.tmp 20, .tmp 21]) rfl ?_); at_builtin; refine Kd.R_append_zeros (Kd.int .i64) (w0 := w) w.heap.size rfl (.tmp 20) (.tmp 21) 22 3 2 (.int .i64 0) 8 rfl Try.underlying22 Try.underlying3 info2 rfl (by decide) (by omega) (.slice none 0 0) [] 0 n (fun _ => True) rfl rfl ?aZ (fun _ _ => trivial) (Kd.R_nil _ _ _ _ _) h0 HB (Nat.le_refl _) ?aL ?_; (case aZ => rfl); (case aL => simp; omega); intro v1 w1 HR hb1 hg1 hat1; rw [List.nil_append] at HR; obtain ⟨A1, c1, e1, hl1, _⟩ := Kd.R_reads HR; rw [List.length_replicate] at e1 hl1; subst e1; have hcut1 := cut_to (P := Try.prog) 22 2 .i64 Try.underlying22 hi0 A1 n.toNat c1 0 (by omega) (by omega) hl1)
    go_ret
    exact ⟨_, rfl, Kd.R_take (m := 0) HR (Nat.zero_le _), hb1⟩
end Go.Proofs.Ytlololbhlnapkaa.Mx

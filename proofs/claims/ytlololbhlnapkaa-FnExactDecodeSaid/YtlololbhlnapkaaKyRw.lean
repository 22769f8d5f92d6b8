/-
  A list of rows of one length, each of a block of its own: what it is after quiet steps, after a row is written, after two rows change places. No conditions beyond each lemma's own.
-/
import Derived.Test.YtlololbhlnapkaaKyMx2
import Derived.Test.YtlololbhlnapkaaKyRd
import Derived.Test.YtlololbhlnapkaaKyM6
namespace Go.Proofs.Ytlololbhlnapkaa.Rw
open Go Go.RowKit Go.Proofs.YtlololbhlnapkaaW.PrintWords Go.Proofs.YtlololbhlnapkaaW.PrintLast Go.Proofs.YtlololbhlnapkaaW.PrintMore
set_option linter.unusedVariables false
set_option linter.unusedSimpArgs false
/-- The value of a row: its block and its room. -/
def val (d : Nat) (p : Nat × Nat) : Value := .slice (some ⟨p.1, 0, none⟩) d p.2
def vals (d n : Nat) (gs : Nat → Nat × Nat) : List Value := (List.range n).map fun i => val d (gs i)
theorem vals_len (d n : Nat) (gs : Nat → Nat × Nat) : (vals d n gs).length = n := by unfold vals; rw [List.length_map, List.length_range]
theorem vals_get {d n : Nat} (gs : Nat → Nat × Nat) {i : Nat} (hi : i < n) : (vals d n gs)[i]? = some (val d (gs i)) := by
  unfold vals
  rw [List.getElem?_map, List.getElem?_range hi]
  rfl
theorem vals_none {d n : Nat} (gs : Nat → Nat × Nat) {i : Nat} (hi : ¬ i < n) : (vals d n gs)[i]? = none := List.getElem?_eq_none (by rw [vals_len]; omega)
structure Rw (w : World) (base : Nat) (v : Value) (d n : Nat) (gs : Nat → Nat × Nat) (rows : Nat → List Int) : Prop where
  outer : w.ownsRow base 22 1 v n (vals d n gs)
  row : ∀ i, i < n → (Kd.int .i64).R 2 w base (fun k => k = (gs i).1) (val d (gs i)) (rows i)
  apart : ∀ i j, i < n → j < n → (gs i).1 = (gs j).1 → i = j
variable {w w1 : World} {base : Nat} {v : Value} {d n : Nat} {gs : Nat → Nat × Nat} {rows : Nat → List Int}
theorem Rw.below (h : Rw w base v d n gs rows) (hb : Below w.heap.size w w1) : Rw w1 base v d n gs rows :=
  ⟨pw_own_below h.outer hb, fun i hi => Kd.R_below (h.row i hi) hb, h.apart⟩
theorem Rw.alloc (h : Rw w base v d n gs rows) (o : Obj) : Rw (w.alloc o) base v d n gs rows := h.below (below_alloc (Below.refl _ _) o)
theorem Rw.drew (h : Rw w base v d n gs rows) : Rw w.drew base v d n gs rows := h.below (below_drew (Below.refl _ _))
theorem Rw.drewN (h : Rw w base v d n gs rows) (m : Nat) : Rw (w.drewN m) base v d n gs rows := h.below (pw_below_drewN (Below.refl _ _) m)
theorem Rw.lower {base' : Nat} (h : Rw w base v d n gs rows) (hb : base' ≤ base) : Rw w base' v d n gs rows :=
  ⟨own_less h.outer hb, fun i hi => Kd.R_lower (h.row i hi) hb, h.apart⟩
theorem Rw.blk (h : Rw w base v d n gs rows) {i : Nat} (hi : i < n) : ∃ cells, w.heap[(gs i).1]? = some (.cells cells 2 (0, 0)) := by
  obtain ⟨inner, ho⟩ := Kd.R_own (h.row i hi)
  exact own_typed ho _ rfl
theorem Rw.lt (h : Rw w base v d n gs rows) {i : Nat} (hi : i < n) : (gs i).1 < w.heap.size := by
  obtain ⟨cells, hc⟩ := h.blk hi
  exact blk_lt hc
theorem Rw.ne (h : Rw w base v d n gs rows) {i : Nat} (hi : i < n) : some (gs i).1 ≠ v.ownBlock := by
  obtain ⟨cells, hc⟩ := h.blk hi
  exact own_ne h.outer hc (by decide)
theorem Rw.len (h : Rw w base v d n gs rows) {i : Nat} (hi : i < n) : (rows i).length = d := by
  have h0 := h.row i hi
  unfold val at h0
  exact ((Kd.R_reads' h0).1).symm
theorem Rw.congr {rows' : Nat → List Int} (h : Rw w base v d n gs rows) (he : ∀ i, i < n → rows' i = rows i) : Rw w base v d n gs rows' :=
  ⟨h.outer, fun i hi => by rw [he i hi]; exact h.row i hi, h.apart⟩
/-- Where the list lies. -/
theorem Rw.form (h : Rw w base v d n gs rows) (hn : 0 < n) : ∃ G cap cells, v = .slice (some ⟨G, 0, none⟩) n cap ∧ base ≤ G ∧ n ≤ cap ∧ w.heap[G]? = some (.cells cells 22 (0, 0)) := by
  rcases h.outer.2 with ⟨_, h0⟩ | ⟨G, cap, cur, he, hb, hh, hc, _⟩
  · omega
  · exact ⟨G, cap, cur, he, hb, hc, hh⟩
theorem Rw.at_ {G cap : Nat} (h : Rw w base (.slice (some ⟨G, 0, none⟩) n cap) d n gs rows) {i : Nat} (hi : i < n) : w.cell? ⟨G, i, none⟩ = some (val d (gs i)) ∧ w.frozen? ⟨G, i, none⟩ = false :=
  ⟨(h.outer.cellAt i (by omega)).trans (vals_get gs hi), h.outer.frozenAt i⟩
theorem Rw.at_set {G cap : Nat} (h : Rw w base (.slice (some ⟨G, 0, none⟩) n cap) d n gs rows) {r p : Nat} (hp : p < n) (v : Value) : ∃ u, (w.setCell ⟨G, r, none⟩ v).cell? ⟨G, p, none⟩ = some u := by
  rw [(h.outer.stored r v).1.cellAt p (by omega)]
  exact ⟨_, List.getElem?_eq_getElem (by rw [List.length_set, vals_len]; exact hp)⟩
theorem Rw.cell (h : Rw w base v d n gs rows) {i j : Nat} (hi : i < n) (hj : j < d) : w.cell? ⟨(gs i).1, j, none⟩ = some (.int .i64 (rd (rows i) (j : Int))) := by
  have h0 := h.row i hi
  unfold val at h0
  exact (Kd.R_celln 0 h0 (j : Int) (by omega) (by omega)).1
theorem Rw.nb (h : Rw w base v d n gs rows) {g : Nat} {cs : Array Value} {t : Nat} (hb : w.heap[g]? = some (.cells cs t (0, 0))) (ht : t ≠ 2) {i : Nat} (hi : i < n) : g ≠ (gs i).1 := by
  obtain ⟨cells, hc⟩ := h.blk hi
  exact blk_ne hb hc ht
/-- A row that is written, the other blocks kept. -/
theorem Rw.put (h : Rw w base v d n gs rows) {i : Nat} (hi : i < n) (r : List Int) (hk : Kept w w1 (fun k => k = (gs i).1)) {ok : Nat → Prop} (hr : (Kd.int .i64).R 2 w1 base ok (val d (gs i)) r) : Rw w1 base v d n gs (fun j => if j = i then r else rows j) := by
  refine ⟨own_move h.outer (fun k hk' => hk.2 k (own_lt h.outer k hk') (fun e => h.ne hi (by rw [← e]; exact hk'.symm))), fun j hj => ?_, h.apart⟩
  by_cases hji : j = i
  · subst hji
    rw [if_pos rfl]
    exact Kd.R_mono (Kd.R_tight rfl hr) (fun k e => by
      have e' : some k = some (gs j).1 := e
      injection e')
  · rw [if_neg hji]
    exact Kd.R_kept (h.row j hj) hk (fun k e e' => hji (h.apart j i hj hi (e.symm.trans e')))
/-- What a step on another block leaves. -/
theorem Rw.kept (h : Rw w base v d n gs rows) {S : Nat → Prop} (hk : Kept w w1 S) (h1 : ∀ i, i < n → ¬ S (gs i).1) (h2 : ∀ k, v.ownBlock = some k → ¬ S k) : Rw w1 base v d n gs rows :=
  ⟨own_move h.outer (fun k hk' => hk.2 k (own_lt h.outer k hk') (h2 k hk')), fun j hj => Kd.R_kept (h.row j hj) hk (fun k e hs => h1 j hj (by subst e; exact hs)), h.apart⟩
open Go.Proofs.Ytlololbhlnapkaa.Rd (swp swp_lt)
theorem swp_inj {r p i j : Nat} (h : swp r p i = swp r p j) : i = j := by
  unfold swp at h
  split at h <;> split at h <;> (try split at h) <;> (try split at h) <;> omega
theorem vals_swap (gs : Nat → Nat × Nat) {r p : Nat} (hr : r < n) (hp : p < n) : ((vals d n gs).set r (val d (gs p))).set p (val d (gs r)) = vals d n (fun i => gs (swp r p i)) := by
  apply List.ext_getElem?
  intro t
  by_cases ht : t < n
  · rw [vals_get _ ht]
    by_cases h1 : t = p
    · subst h1
      rw [List.getElem?_set_self (by rw [List.length_set, vals_len]; exact ht)]
      unfold swp
      by_cases h2 : t = r
      · rw [if_pos h2, h2]
      · rw [if_neg h2, if_pos rfl]
    · rw [List.getElem?_set_ne (fun e => h1 e.symm)]
      by_cases h2 : t = r
      · subst h2
        rw [List.getElem?_set_self (by rw [vals_len]; exact ht)]
        unfold swp
        rw [if_pos rfl]
      · rw [List.getElem?_set_ne (fun e => h2 e.symm), vals_get _ ht]
        unfold swp
        rw [if_neg h2, if_neg h1]
  · rw [vals_none _ ht, List.getElem?_eq_none (by rw [List.length_set, List.length_set, vals_len]; omega)]
theorem Rw.swap {G cap : Nat} (h : Rw w base (.slice (some ⟨G, 0, none⟩) n cap) d n gs rows) {r p : Nat} (hr : r < n) (hp : p < n) :
    Rw ((w.setCell ⟨G, r, none⟩ (val d (gs p))).setCell ⟨G, p, none⟩ (val d (gs r))) base (.slice (some ⟨G, 0, none⟩) n cap) d n (fun i => gs (swp r p i)) (fun i => rows (swp r p i)) := by
  have h1 := h.outer.stored r (val d (gs p))
  have h2 := h1.1.stored p (val d (gs r))
  rw [vals_swap gs hr hp] at h2
  refine ⟨h2.1, fun i hi => ?_, fun i j hi hj e => swp_inj (h.apart _ _ (swp_lt hr hp hi) (swp_lt hr hp hj) e)⟩
  have hs := swp_lt hr hp hi
  have hne : some (gs (swp r p i)).1 ≠ some G := h.ne hs
  exact Kd.R_far (Kd.R_far (h.row _ hs) (fun k e => by subst e; exact fun e' => hne (by rw [e'])) _) (fun k e => by subst e; exact fun e' => hne (by rw [e'])) _
def listOf (n : Nat) (rows : Nat → List Int) : List (List Int) := (List.range n).map rows
theorem listOf_len (n : Nat) (rows : Nat → List Int) : (listOf n rows).length = n := by unfold listOf; rw [List.length_map, List.length_range]
theorem listOf_get {n : Nat} (rows : Nat → List Int) {i : Nat} (hi : i < n) : (listOf n rows)[i]? = some (rows i) := by
  unfold listOf
  rw [List.getElem?_map, List.getElem?_range hi]
  rfl
/-- As a row of rows of the print's kinds. -/
theorem Rw.toR (h : Rw w base v d n gs rows) : (Kd.slice 2 (Kd.int .i64)).R 22 w base (fun _ => True) v (listOf n rows) := by
  refine ⟨fun _ _ => trivial, vals d n gs, ?_, ?_, fun j p hj => ?_⟩
  · rw [listOf_len]
    exact h.outer
  · rw [vals_len, listOf_len]
    exact (Nat.mul_one n).symm
  · have hjn : j < n := by
      have := (List.getElem?_eq_some_iff.1 hj).1
      rwa [listOf_len] at this
    rw [listOf_get rows hjn] at hj
    injection hj with hj
    subst hj
    refine ⟨val d (gs j), ?_, Kd.R_mono (h.row j hjn) (fun k e => ⟨trivial, by subst e; exact h.ne hjn⟩)⟩
    show ((vals d n gs).drop (j * 1)).take 1 = _
    rw [Nat.mul_one, List.drop_eq_getElem_cons (by rw [vals_len]; exact hjn)]
    have hg := (List.getElem?_eq_some_iff.1 (vals_get (d := d) gs hjn)).2
    rw [hg]
    rfl
/-- Rows that lie apart, as the print tells them. -/
theorem Rw.ofS {ok : Nat → Prop} (h : Kd.S (Kd.slice 2 (Kd.int .i64)) 22 w base ok v (listOf n rows)) (hd : 0 < d) (hl : ∀ i, i < n → (rows i).length = d) : ∃ gs, Rw w base v d n gs rows := by
  obtain ⟨f, h0, inner, ho, hr1, hr2⟩ := h
  rw [List.length_zipIdx, listOf_len] at ho
  have hlen : inner.length = n := ho.1.trans (Nat.mul_one n)
  have key : ∀ i, ∃ p : Nat × Nat, i < n → inner[i]? = some (val d p) ∧ f p.1 = i ∧ (Kd.int .i64).R 2 w base (fun k => k = p.1) (val d p) (rows i) := by
    intro i
    by_cases hi : i < n
    · obtain ⟨u, hu, hR⟩ := hr2 i (rows i, i) (Kd.zip_at (listOf_get rows hi))
      obtain ⟨g, cap, he, hb, hlt, cells, hc⟩ := Kd.R_form hR (by rw [hl i hi]; exact hd)
      refine ⟨(g, cap), fun _ => ⟨?_, (hR.1 g (by rw [he]; rfl)).2, ?_⟩⟩
      · have hin : i < inner.length := by omega
        have hu' : (inner.drop (i * 1)).take 1 = [u] := hu
        rw [Nat.mul_one, List.drop_eq_getElem_cons hin] at hu'
        have : inner[i] = u := by
          rw [List.take_succ_cons, List.take_zero] at hu'
          injection hu'
        rw [List.getElem?_eq_getElem hin, this, he, hl i hi]
        rfl
      · have hv : u = val d (g, cap) := by rw [he, hl i hi]; rfl
        rw [← hv]
        exact Kd.R_mono (Kd.R_tight rfl hR) (fun k e => by
          rw [hv] at e
          have e' : some k = some g := e
          injection e')
    · exact ⟨(0, 0), fun h => absurd h hi⟩
  obtain ⟨gs, hgs⟩ := Classical.axiomOfChoice key
  refine ⟨gs, ?_, fun i hi => (hgs i hi).2.2, fun i j hi hj e => ?_⟩
  · have e : inner = vals d n gs := by
      apply List.ext_getElem?
      intro i
      by_cases hi : i < n
      · rw [(hgs i hi).1, vals_get gs hi]
      · rw [vals_none gs hi, List.getElem?_eq_none (by omega)]
    rw [← e]
    exact ho
  · rw [← (hgs i hi).2.1, e, (hgs j hj).2.1]
end Go.Proofs.Ytlololbhlnapkaa.Rw

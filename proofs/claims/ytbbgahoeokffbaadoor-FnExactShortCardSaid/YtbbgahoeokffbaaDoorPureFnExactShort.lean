/- The short digest of every text, by the program and by the reference: the same. Conditions: none beyond the statement's own. -/
import Derived.Test.YtbbgahoeokffbaaDoorXFnExactShortx2
namespace Go.Proofs.YtbbgahoeokffbaaDoor.Pure
open Go.RowKit Go.Proofs.YtbbgahoeokffbaaDoor.XFnExactShort Go.Proofs.YtbbgahoeokffbaaDoorW.PrintWords Go.Proofs.YtbbgahoeokffbaaDoorW.PrintLast
set_option linter.unusedVariables false
set_option linter.unusedSimpArgs false
def dig (x : Int) : Int := bt (⟨#[48, 49, 50, 51, 52, 53, 54, 55, 56, 57, 97, 98, 99, 100, 101, 102]⟩ : ByteArray) x
def hexL (s : ByteArray) : Nat → List Int
  | 0 => []
  | i + 1 => hexL s i ++ [dig (bt s (i : Int) / 16), dig (bt s (i : Int) % 16)]
theorem hexL_len (s : ByteArray) (i : Nat) : (hexL s i).length = 2 * i := by
  induction i with
  | zero => rfl
  | succ i ih => rw [hexL, List.length_append, ih]; rfl
theorem hex_loop (s : ByteArray) (hs : s.size ≤ 20000) (d : Nat) : ∀ (k i : Nat), i + d = s.size → d + 1 ≤ k →
    spec_Hex.l0 k s (hexL s i) (i : Int) = some (strOfNums (hexL s s.size)) ∧ impl_hex.l0 k s (hexL s i) (s.size : Int) (i : Int) = some (strOfNums (hexL s s.size)) := by
  induction d with
  | zero =>
    intro k i hi hk
    obtain ⟨k, rfl⟩ : ∃ m, k = m + 1 := ⟨k - 1, by omega⟩
    obtain rfl : i = s.size := by omega
    refine ⟨?_, ?_⟩
    · rw [spec_Hex.l0, if_neg (by omega)]
    · rw [impl_hex.l0, if_neg (by omega)]
  | succ d ih =>
    intro k i hi hk
    obtain ⟨k, rfl⟩ : ∃ m, k = m + 1 := ⟨k - 1, by omega⟩
    have hw : wrap64 ((i : Int) + 1) = ((i + 1 : Nat) : Int) := by unfold wrap64; omega
    have hx : hexL s (i + 1) = hexL s i ++ [dig (bt s (i : Int) / 16), dig (bt s (i : Int) % 16)] := rfl
    have hl : (hexL s i).length + [dig (bt s (i : Int) / 16), dig (bt s (i : Int) % 16)].length < 140737488355328 := by
      rw [hexL_len]
      show 2 * i + 2 < 140737488355328
      omega
    obtain ⟨f1, f2⟩ := ih k (i + 1) (by omega) (by omega)
    rw [hx] at f1 f2
    rw [spec_Hex.l0, impl_hex.l0, hw]
    obtain ⟨b, hb, b0, b1⟩ : ∃ b : Int, bt s (i : Int) = b ∧ 0 ≤ b ∧ b ≤ 255 := ⟨_, rfl, (bt_range s _).1, (bt_range s _).2⟩
    rw [hb] at f1 f2 hl ⊢
    unfold dig at f1 f2 hl
    have e1 : Int.tdiv b 16 % 256 = b / 16 := by rw [Int.tdiv_eq_ediv_of_nonneg b0]; omega
    have e2 : Int.tmod b 16 = b % 16 := Int.tmod_eq_emod_of_nonneg b0
    rw [e1, e2]
    have c1 : (i : Int) < (s.size : Int) := by omega
    have c2 : 0 ≤ (i : Int) := by omega
    have c3 : 0 ≤ b / 16 := by omega
    have c4 : b / 16 < 16 := by omega
    have c5 : 0 ≤ b % 16 := by omega
    have c6 : b % 16 < 16 := by omega
    simp only [if_pos c1, if_pos c2, if_pos c3, if_pos c4, if_pos c5, if_pos c6, Option.bind_some]
    simp only [if_pos hl]
    exact ⟨f1, f2⟩
theorem bt_head (s : ByteArray) (n i : Nat) (hn : n ≤ s.size) (hi : i < n) : bt (s.extract 0 n) (i : Int) = bt s (i : Int) := by
  unfold bt
  have h1 : (i : Int).toNat < (s.extract 0 n).size := by rw [ByteArray.size_extract]; omega
  have h2 : (i : Int).toNat < s.size := by omega
  rw [dif_pos h1, dif_pos h2]
  simp [ByteArray.getElem_extract]
theorem hexL_head (s : ByteArray) (n : Nat) (hn : n ≤ s.size) : ∀ i, i ≤ n → hexL (s.extract 0 n) i = hexL s i := by
  intro i
  induction i with
  | zero => intro _; rfl
  | succ i ih =>
    intro hi
    rw [hexL, hexL, ih (by omega), bt_head s n i hn (by omega)]
theorem hexL_pre (s : ByteArray) (n : Nat) : ∀ m, ∃ ys, hexL s (n + m) = hexL s n ++ ys := by
  intro m
  induction m with
  | zero => exact ⟨[], (List.append_nil _).symm⟩
  | succ m ih =>
    obtain ⟨ys, h⟩ := ih
    exact ⟨ys ++ [dig (bt s ((n + m : Nat) : Int) / 16), dig (bt s ((n + m : Nat) : Int) % 16)], by rw [← Nat.add_assoc, hexL, h, List.append_assoc]⟩
theorem FnExactShort : laws_FnExactShort.Pure := by
  intro a ha
  suffices main : ∀ K : Nat, 100 ≤ K → laws_FnExactShort.f K a = some true from ⟨_, main 100 (by omega)⟩
  intro K hK
  unfold laws_FnExactShort.f
  by_cases h : (a.size : Int) > 1048576
  · rw [if_pos h]
  rw [if_neg h]
  unfold impl_Short.f impl_isLong.f impl_digest.f spec_Short.f spec_Digest.f Sha.digestS
  by_cases c : a.size ≤ 20000
  · rw [if_neg (by omega), decide_eq_false (show ¬ (a.size : Int) > 20000 by omega), if_pos (show a.size ≤ 1099511627776 by omega), if_pos c]
    simp only [Option.bind_some]
    have hz := Sha.digestF_size a
    generalize Sha.digestF a = D at hz
    have hz4 : (D.extract 0 4).size = 4 := by rw [ByteArray.size_extract]; omega
    have s1 := (hex_loop (D.extract 0 4) (by omega) 4 K 0 (by omega) (by omega)).1
    have s2 := (hex_loop D (by omega) 32 K 0 (by omega) (by omega)).2
    rw [hz4, hexL_head D 4 (by omega) 4 (Nat.le_refl _)] at s1
    rw [hz] at s2
    unfold spec_Hex.f impl_hex.f
    have s1' : spec_Hex.l0 K (D.extract 0 4) [] 0 = some (strOfNums (hexL D 4)) := s1
    have s2' : impl_hex.l0 K D [] 32 0 = some (strOfNums (hexL D 32)) := s2
    rw [if_pos (by omega), if_pos (by omega), if_neg (by rw [hz4]; omega), s1', if_neg (by simp), if_pos (by omega), hz]
    have s3 : impl_hex.l0 K D [] ((32 : Nat) : Int) 0 = some (strOfNums (hexL D 32)) := s2'
    rw [s3]
    simp only [Option.bind_some]
    have hs32 : (strOfNums (hexL D 32)).size = 64 := by rw [Sha.strOf_size, hexL_len]
    rw [if_pos (by omega), if_pos (by rw [hs32]; omega)]
    simp only [Option.bind_some]
    obtain ⟨ys, hy⟩ := hexL_pre D 4 28
    have e : (strOfNums (hexL D 32)).extract 0 8 = strOfNums (hexL D 4) := by
      rw [show (32 : Nat) = 4 + 28 from rfl, hy, Sha.str_append]
      have h8 : (strOfNums (hexL D 4)).size = 8 := by rw [Sha.strOf_size, hexL_len]
      rw [← h8]
      exact ByteArray.extract_append_eq_left rfl
    rw [e, if_pos rfl]
  · rw [if_pos (by omega), decide_eq_true (show (a.size : Int) > 20000 by omega)]
    simp
end Go.Proofs.YtbbgahoeokffbaaDoor.Pure

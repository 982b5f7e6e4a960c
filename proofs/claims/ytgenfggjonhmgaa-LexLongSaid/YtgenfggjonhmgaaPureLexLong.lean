/- For every number and every byte: a text of more than 16384 bytes, each that byte, is refused as too long, whatever the byte is. No condition. -/
import Derived.Test.YtgenfggjonhmgaaLxN
import Derived.Test.YtgenfggjonhmgaaMm5
namespace Go.Proofs.Ytgenfggjonhmgaa.Pure
set_option linter.unusedVariables false
open Go.RowKit Go.Proofs.Ytgenfggjonhmgaa.Ml Go.Proofs.Ytgenfggjonhmgaa.Mm Go.Proofs.Ytgenfggjonhmgaa.Lx Go.Proofs.Ytgenfggjonhmgaa.PL Go.Proofs.YtgenfggjonhmgaaW.PrintWords Go.Proofs.YtgenfggjonhmgaaW.PrintLast Go.Proofs.YtgenfggjonhmgaaW.PrintMore
theorem long_l0 (x1 : Int) : ∀ (n : Nat) (l : List Int) (i : Nat), l.length = i + n → 16384 < l.length → l.length ≤ 20000 → ∀ k, n + 7 ≤ k → pantrylaw22_LexLong.l0 k x1 l (i : Int) = some true := by
  intro n
  induction n with
  | zero =>
    intro l i hl hlo hhi k hk
    obtain ⟨k, rfl⟩ : ∃ q, k = q + 1 := ⟨k - 1, by omega⟩
    simp only [pantrylaw22_LexLong.l0]
    refine jf (by omega) (bd (x := ([], 0, 5)) ?_ (it rfl (it rfl (it rfl (known_t k (by omega))))))
    show some (lexS (strOfNums l)) = _
    have hs : (strOfNums l).size = l.length := by rw [← data_length, strOfNums_data, List.length_map]
    unfold lexS
    rw [if_pos (by rw [hs]; exact hlo)]
  | succ n ih =>
    intro l i hl hlo hhi k hk
    obtain ⟨k, rfl⟩ : ∃ q, k = q + 1 := ⟨k - 1, by omega⟩
    simp only [pantrylaw22_LexLong.l0]
    refine it (by omega) (it (by omega) ?_)
    rw [w64 (by omega) (by omega), show ((i : Int) + 1) = ((i + 1 : Nat) : Int) by omega]
    exact ih _ (i + 1) (by rw [List.length_set]; omega) (by rw [List.length_set]; exact hlo) (by rw [List.length_set]; exact hhi) k (by omega)
theorem LexLong : pantrylaw22_LexLong.Pure := by
  intro a0 a1 h0 h1
  have hk : ∀ k, 7 ≤ k → pantrylaw22_LexLong.j0 k a0 a1 true = some true := fun k hk => by
    obtain ⟨k, rfl⟩ : ∃ q, k = q + 1 := ⟨k - 1, by omega⟩
    simp only [pantrylaw22_LexLong.j0, if_true]
    exact known_t k (by omega)
  by_cases c1 : a0 < 0
  · refine ⟨7, ?_⟩
    unfold pantrylaw22_LexLong.f
    exact it c1 (hk 7 (Nat.le_refl _))
  by_cases c2 : a0 > 100
  · refine ⟨7, ?_⟩
    unfold pantrylaw22_LexLong.f
    exact jf c1 (by rw [decide_eq_true c2]; exact hk 7 (Nat.le_refl _))
  · refine ⟨20008, ?_⟩
    unfold pantrylaw22_LexLong.f
    refine jf c1 ?_
    rw [decide_eq_false c2]
    simp only [pantrylaw22_LexLong.j0]
    have e : wrap64 (16385 + a0) = 16385 + a0 := w64 (by omega) (by omega)
    rw [e]
    refine jf (by simp) (it (by omega) (it (by omega) ?_))
    exact long_l0 a1 (16385 + a0).toNat _ 0 (by rw [List.length_replicate]; omega) (by rw [List.length_replicate]; omega) (by rw [List.length_replicate]; omega) 20007 (by omega)
end Go.Proofs.Ytgenfggjonhmgaa.Pure

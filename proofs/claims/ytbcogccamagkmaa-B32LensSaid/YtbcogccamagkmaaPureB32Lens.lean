/- For every whole number, the program's count of digits is the reference's, and one byte more has one or two digits more. No condition. -/
import Derived.Test.YtbcogccamagkmaaB32A
namespace Go.Proofs.Ytbcogccamagkmaa.Pure
set_option linter.unusedVariables false
open Go.RowKit Go.Proofs.Ytbcogccamagkmaa.Mb Go.Proofs.Ytbcogccamagkmaa.PL Go.Proofs.YtbcogccamagkmaaW.PrintWords Go.Proofs.YtbcogccamagkmaaW.PrintLast Go.Proofs.YtbcogccamagkmaaW.PrintMore

theorem len_all (a : Int) : ∃ r, b32_Len.f a = some r ∧ pantryref2_Len.f a = some r := by
  refine ⟨_, rfl, ?_⟩
  unfold pantryref2_Len.f
  rw [show mn a 16777216 = mn 16777216 a from by unfold mn; split <;> split <;> omega]
  congr 2
  omega
theorem diff_val (a : Nat) : ((len8 (a + 1) : Nat) : Int) - ((len8 a : Nat) : Int) = 1 ∨ ((len8 (a + 1) : Nat) : Int) - ((len8 a : Nat) : Int) = 2 := by unfold len8; omega
theorem B32Lens : pantrylaw2_B32Lens.Pure := by
  intro a ha
  have hwf := wf_i64 ha
  obtain ⟨K, hK⟩ := known_ev
  obtain ⟨r, h1, h2⟩ := len_all a
  refine ⟨K + 1, ?_⟩
  unfold pantrylaw2_B32Lens.f
  refine bd h1 (bd h2 (it rfl ?_))
  refine ite_eq (fun h => ?_) (fun h => ?_)
  · simp only [pantrylaw2_B32Lens.j0, if_true]
    exact bd (hK K (Nat.le_refl _)) rfl
  · by_cases hb : a ≥ 16777216
    · rw [decide_eq_true hb]
      simp only [pantrylaw2_B32Lens.j0, if_true]
      exact bd (hK K (Nat.le_refl _)) rfl
    · rw [decide_eq_false hb]
      obtain ⟨n, rfl⟩ := Int.eq_ofNat_of_zero_le (show 0 ≤ a by omega)
      have hw : wrap64 ((n : Int) + 1) = ((n + 1 : Nat) : Int) := by rw [w64 (by omega) (by omega)]; omega
      have l1 := len_f (n + 1) (by omega)
      have l2 := len_f n (by omega)
      have hd := diff_val n
      have hb1 : ((len8 (n + 1) : Nat) : Int) - ((len8 n : Nat) : Int) ≤ 2 := by omega
      have hb0 : 1 ≤ ((len8 (n + 1) : Nat) : Int) - ((len8 n : Nat) : Int) := by omega
      have hw2 := w64 (n := ((len8 (n + 1) : Nat) : Int) - ((len8 n : Nat) : Int)) (by omega) (by omega)
      simp only [pantrylaw2_B32Lens.j0]
      refine jf (by simp) (bd (by rw [hw]; exact l1) (bd l2 ?_))
      rw [hw2]
      exact ite_eq (fun _ => bd (hK K (Nat.le_refl _)) rfl) (fun h => it (hd.resolve_left h) (bd (hK K (Nat.le_refl _)) rfl))
end Go.Proofs.Ytbcogccamagkmaa.Pure

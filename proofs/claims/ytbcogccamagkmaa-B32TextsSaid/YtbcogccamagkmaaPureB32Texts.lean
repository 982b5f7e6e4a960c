/- For every row of bytes: its digits are the reference's, as many as they should be, and are read back as the bytes; what was handed in stays. No condition. -/
import Derived.Test.YtbcogccamagkmaaB32D
namespace Go.Proofs.Ytbcogccamagkmaa.Pure
set_option linter.unusedVariables false
open Go.RowKit Go.Proofs.Ytbcogccamagkmaa.Mb Go.Proofs.Ytbcogccamagkmaa.PL Go.Proofs.YtbcogccamagkmaaW.PrintWords Go.Proofs.YtbcogccamagkmaaW.PrintLast Go.Proofs.YtbcogccamagkmaaW.PrintMore

theorem B32Texts : pantrylaw2_B32Texts.Pure := by
  intro l hm hs hwf
  have hb := B8.of_wf hwf
  by_cases h6 : (l.length : Int) > 600
  · exact ⟨0, it h6 rfl⟩
  have hl : l.length ≤ 600 := by omega
  have hr := roomy_f l (by omega)
  obtain ⟨K1, t1⟩ := text_ev l hb (by omega)
  obtain ⟨K2, t2⟩ := text_parse l hb (by omega)
  obtain ⟨K3, t3⟩ := rtext_ev l hb (by omega)
  obtain ⟨K4, t4⟩ := same_ev l l (by omega)
  obtain ⟨K5, t5⟩ := stands_ev l (by omega)
  obtain ⟨K6, t6⟩ := known_ev
  have c1 : (l.length : Int) ≤ ((l ++ [171] : List Int).length : Int) := by rw [List.length_append]; omega
  have et : (l ++ [171] : List Int).take ((l.length : Int)).toNat = l := by rw [Int.toNat_natCast, List.take_append_of_le_length (Nat.le_refl _), List.take_length]
  refine ⟨K1 + K2 + K3 + K4 + K5 + K6, ?_⟩
  unfold pantrylaw2_B32Texts.f
  refine jf h6 (bd hr (it (Int.natCast_nonneg _) (it c1 ?_)))
  rw [et]
  refine bd (t1 _ (by omega)) (bd (t2 _ (by omega)) (bd (t3 _ (by omega)) (it rfl (bd (len_f _ (by omega)) (it ?_ (it rfl (bd (t4 _ (by omega)) (it (by simp) (bd (t5 _ (by omega)) (it rfl (bd (t6 _ (by omega)) rfl)))))))))))
  rw [strOfNums_size, digits_length]
end Go.Proofs.Ytbcogccamagkmaa.Pure

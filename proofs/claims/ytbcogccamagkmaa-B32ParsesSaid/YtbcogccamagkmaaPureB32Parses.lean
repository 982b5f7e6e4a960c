/- For every text and every count: the program's parser and the reference's answer alike, and what is read is written so. No condition. -/
import Derived.Test.YtbcogccamagkmaaB32D
namespace Go.Proofs.Ytbcogccamagkmaa.Pure
set_option linter.unusedVariables false
open Go.RowKit Go.Proofs.Ytbcogccamagkmaa.Mb Go.Proofs.Ytbcogccamagkmaa.PL Go.Proofs.YtbcogccamagkmaaW.PrintWords Go.Proofs.YtbcogccamagkmaaW.PrintLast Go.Proofs.YtbcogccamagkmaaW.PrintMore

theorem parses_j0 (s : ByteArray) (out : List Int) (e : Int) (r : ByteArray) (h : e ≠ 0 ∨ (Ev (fun k => b32_Text.f k out) r ∧ r.toList = s.toList)) : ∃ K, ∀ k, K ≤ k → pantrylaw2_B32Parses.j0 k s out e false = some true := by
  obtain ⟨K6, t6⟩ := known_ev
  rcases h with h | ⟨⟨K, t⟩, hr⟩
  · refine ⟨K6 + 1, fun k hk => ?_⟩
    obtain ⟨k, rfl⟩ : ∃ m, k = m + 1 := ⟨k - 1, by omega⟩
    simp only [pantrylaw2_B32Parses.j0]
    exact jf (by simp) (jf h (bd (t6 k (by omega)) rfl))
  · refine ⟨K6 + K + 1, fun k hk => ?_⟩
    obtain ⟨k, rfl⟩ : ∃ m, k = m + 1 := ⟨k - 1, by omega⟩
    simp only [pantrylaw2_B32Parses.j0]
    refine jf (by simp) (ite_eq (fun _ => ?_) (fun _ => bd (t6 k (by omega)) rfl))
    exact bd (t k (by omega)) (it hr (bd (t6 k (by omega)) rfl))
theorem B32Parses : pantrylaw2_B32Parses.Pure := by
  intro s n hs hwf
  have hn := wf_i64 hwf
  by_cases h6 : (s.size : Int) > 600
  · exact ⟨0, it h6 rfl⟩
  have hl : s.size ≤ 600 := by omega
  obtain ⟨r, ⟨K1, t1⟩, ⟨K2, t2⟩, hr⟩ := parses_one s n hl hn
  have hlen : r.1.length < 9223372036854775807 := by
    rcases hr with ⟨_, h⟩ | ⟨_, h⟩ | ⟨m, _, hm, _, _, _, h, _⟩
    · rw [h]; decide
    · rw [h]; decide
    · omega
  obtain ⟨K4, t4⟩ := same_ev r.1 r.1 hlen
  have hj : ∃ K, ∀ k, K ≤ k → pantrylaw2_B32Parses.j0 k s r.1 r.2 false = some true := by
    rcases hr with ⟨h, _⟩ | ⟨h, _⟩ | ⟨m, _, hm, hsz, ho, h0, h1, h2, h3⟩
    · exact parses_j0 s r.1 r.2 s (.inl (by rw [h]; decide))
    · exact parses_j0 s r.1 r.2 s (.inl (by rw [h]; decide))
    · refine parses_j0 s r.1 r.2 _ (.inr ⟨text_ev r.1 h2 (by omega), ?_⟩)
      rw [h1, ← hsz, h3]
      exact digits_back s ho.1
  obtain ⟨K5, t5⟩ := hj
  refine ⟨K1 + K2 + K4 + K5, ?_⟩
  unfold pantrylaw2_B32Parses.f
  refine jf h6 (bd (t1 _ (by omega)) (bd (t2 _ (by omega)) (bd (t4 _ (by omega)) (it (by simp) ?_))))
  have : (r.2 != r.2) = false := by simp
  rw [this]
  exact t5 _ (by omega)
end Go.Proofs.Ytbcogccamagkmaa.Pure

/- For every kind, row of numbers and row of texts: the op's frame, or the refusal, is the reference's, and what was handed in stays. No condition. -/
import Derived.Test.YtoblfdloakkmmaaEncB
namespace Go.Proofs.Ytoblfdloakkmmaa.Pure
set_option linter.unusedVariables false
open Go.RowKit Go.Proofs.Ytoblfdloakkmmaa.Mp Go.Proofs.Ytoblfdloakkmmaa.PL Go.Proofs.YtoblfdloakkmmaaW.PrintWords Go.Proofs.YtoblfdloakkmmaaW.PrintLast Go.Proofs.YtoblfdloakkmmaaW.PrintMore

theorem encOf_len (kind : Int) (nums : List Int) (texts : List ByteArray) (h : (bodyOf nums texts).length ≤ 4194304) : (encOf kind nums texts).1.length < 9223372036854775807 := by
  unfold encOf
  split
  · decide
  · split
    · decide
    · simp only [frameOf, List.length_append, LE_length, List.length_cons, List.length_nil]; omega
theorem ProtoEncodes (kind : Int) (l1 : List Int) (l2 : List ByteArray) (hk : (Lit.int .i64 kind).wf = true) (m1 : l1.length ≤ maxLen) (y1 : l1.length * 8 ≤ 140737488351232) (g1 : ∀ x ∈ l1, (Lit.int .i64 x).wf = true)
    (m2 : l2.length ≤ maxLen) (y2 : l2.length * 16 ≤ 140737488351232) (g2 : ∀ s ∈ l2, s.size ≤ 140737488351232) : ∃ k, pantrylaw26_ProtoEncodes.f k kind l1 l2 = some true := by
  obtain ⟨r, ⟨K0, h0⟩, hr⟩ := heavy_ev l2 l1.length g2 (by omega) (by omega)
  cases r with
  | true =>
    refine ⟨K0, ?_⟩
    unfold pantrylaw26_ProtoEncodes.f
    exact bd (h0 _ (Nat.le_refl _)) (it rfl rfl)
  | false =>
    have ht := hr rfl
    have hbl : l1.length ≤ 64 → l2.length ≤ 1024 → (bodyOf l1 l2).length ≤ 4194304 := fun a b => by rw [body_length]; omega
    have hbl2 : (bodyOf l1 l2).length ≤ 4194304 := by rw [body_length]; omega
    obtain ⟨K1, h1⟩ := enc_ev kind l1 l2 hbl
    obtain ⟨K2, h2⟩ := renc_ev kind l1 l2 hbl
    obtain ⟨K3, h3⟩ := same_ev (encOf kind l1 l2).1 (encOf kind l1 l2).1 (encOf_len kind l1 l2 hbl2)
    obtain ⟨K4, h4⟩ := ops_ev kind l1 l2 (by omega) (by omega)
    obtain ⟨K5, h5⟩ := known_ev
    refine ⟨K0 + K1 + K2 + K3 + K4 + K5, ?_⟩
    have c1 : ([] : List Int).length + l1.length < 17592186044416 := by rw [List.length_nil]; omega
    have c2 : ([] : List ByteArray).length + l2.length < 8796093022208 := by rw [List.length_nil]; omega
    unfold pantrylaw26_ProtoEncodes.f
    refine bd (h0 _ (by omega)) (jf (by simp) (bd rfl (it c1 ?_)))
    rw [List.nil_append]
    refine bd rfl (bd rfl (it c2 ?_))
    rw [List.nil_append]
    exact bd rfl (bd (h1 _ (by omega)) (bd (h2 _ (by omega)) (bd (h3 _ (by omega)) (it (by simp) (it rfl (bd (h4 _ (by omega)) (it rfl (bd (h5 _ (by omega)) rfl))))))))
end Go.Proofs.Ytoblfdloakkmmaa.Pure

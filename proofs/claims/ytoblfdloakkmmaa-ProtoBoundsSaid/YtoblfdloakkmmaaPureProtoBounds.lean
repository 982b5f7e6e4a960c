/- For every count of numbers and of texts and every kind: too many numbers, too many texts, a kind that is none are refused. No condition. -/
import Derived.Test.YtoblfdloakkmmaaEncB
namespace Go.Proofs.Ytoblfdloakkmmaa.Pure
set_option linter.unusedVariables false
open Go.RowKit Go.Proofs.Ytoblfdloakkmmaa.Mp Go.Proofs.Ytoblfdloakkmmaa.PL Go.Proofs.YtoblfdloakkmmaaW.PrintWords Go.Proofs.YtoblfdloakkmmaaW.PrintLast Go.Proofs.YtoblfdloakkmmaaW.PrintMore

theorem tot_rep (n : Nat) : tot (List.replicate n (⟨#[]⟩ : ByteArray)) = 0 := by
  induction n with
  | zero => rfl
  | succ n ih =>
    simp only [List.replicate_succ, tot, List.map_cons, List.sum_cons]
    have : ByteArray.size ⟨#[]⟩ = 0 := rfl
    rw [this, Nat.zero_add]
    exact ih
/-- what the kind and the counts come to -/
theorem bounds_j1 (kind e : Int) (w : Bool) (K : Nat) (hK : ∀ k, K ≤ k → pantrylaw26_known.f k = some true) (he : e = if kind < 1 ∨ 100 < kind then 1 else if w = true then 5 else 0) (k : Nat) (hk : K + 1 ≤ k) :
    pantrylaw26_ProtoBounds.j1 k kind e 0 w = some true := by
  obtain ⟨k, rfl⟩ : ∃ q, k = q + 1 := ⟨k - 1, by omega⟩
  have hg : (pantrylaw26_known.f k).bind (fun t => some t) = some true := bd (hK k (by omega)) rfl
  simp only [pantrylaw26_ProtoBounds.j1]
  by_cases h1 : kind < 1
  · rw [if_pos (Or.inl h1)] at he
    cases w
    · exact jf (by simp) (it h1 (it he hg))
    · exact it rfl (it h1 (it he hg))
  by_cases h2 : 100 < kind
  · rw [if_pos (Or.inr h2)] at he
    cases w
    · exact jf (by simp) (jf h1 (it h2 (it he hg)))
    · exact it rfl (jf h1 (it h2 (it he hg)))
  rw [if_neg (by omega)] at he
  cases w
  · exact jf (by simp) (jf h1 (jf h2 (it (by simpa using he) hg)))
  · exact it rfl (jf h1 (jf h2 (it (by simpa using he) hg)))
theorem ProtoBounds : pantrylaw26_ProtoBounds.Pure := by
  intro a0 a1 a2 h0 h1 h2
  obtain ⟨K, hK⟩ := known_ev
  have known : ∀ k, K + 1 ≤ k → pantrylaw26_ProtoBounds.j0 k a0 a1 a2 true = some true := fun k hk => by
    obtain ⟨k, rfl⟩ : ∃ q, k = q + 1 := ⟨k - 1, by omega⟩
    simp only [pantrylaw26_ProtoBounds.j0, if_true]
    exact bd (hK k (by omega)) rfl
  unfold pantrylaw26_ProtoBounds.f
  by_cases c1 : a0 < 0
  · exact ⟨K + 1, it c1 (known _ (Nat.le_refl _))⟩
  by_cases c2 : a0 > 100
  · exact ⟨K + 1, jf c1 (it c2 (known _ (Nat.le_refl _)))⟩
  by_cases c3 : a1 < 0
  · exact ⟨K + 1, jf c1 (jf c2 (it c3 (known _ (Nat.le_refl _))))⟩
  by_cases c4 : a1 > 1100
  · exact ⟨K + 1, jf c1 (jf c2 (jf c3 (by rw [decide_eq_true c4]; exact known _ (Nat.le_refl _))))⟩
  obtain ⟨n, rfl⟩ := Int.eq_ofNat_of_zero_le (show 0 ≤ a0 by omega)
  obtain ⟨m, rfl⟩ := Int.eq_ofNat_of_zero_le (show 0 ≤ a1 by omega)
  obtain ⟨K1, h1⟩ := enc_ev a2 (List.replicate n 0) (List.replicate m (⟨#[]⟩ : ByteArray)) (fun _ _ => by
    rw [body_length, tot_rep, List.length_replicate, List.length_replicate]; omega)
  refine ⟨K + K1 + 2, jf c1 (jf c2 (jf c3 ?_))⟩
  rw [decide_eq_false c4]
  simp only [pantrylaw26_ProtoBounds.j0]
  refine jf (by simp) (it (by omega) (it (by omega) (it (by omega) (it (by omega) ?_))))
  rw [Int.toNat_natCast, Int.toNat_natCast]
  refine bd (h1 _ (by omega)) ?_
  have he : (encOf a2 (List.replicate n 0) (List.replicate m (⟨#[]⟩ : ByteArray))).2 = if a2 < 1 ∨ 100 < a2 then 1 else if 64 < n ∨ 1024 < m then 5 else 0 := by
    unfold encOf
    rw [List.length_replicate, List.length_replicate]
    split
    · rfl
    · split <;> rfl
  by_cases h6 : (n : Int) > 64
  · refine it h6 (bounds_j1 a2 _ true K hK ?_ _ (by omega))
    rw [he]
    simp only [if_true]
    rw [if_pos (show 64 < n ∨ 1024 < m from .inl (by omega))]
  · refine jf h6 (bounds_j1 a2 _ _ K hK ?_ _ (by omega))
    rw [he]
    by_cases h7 : (m : Int) > 1024
    · rw [decide_eq_true h7, if_pos (show 64 < n ∨ 1024 < m from .inr (by omega))]; rfl
    · rw [decide_eq_false h7, if_neg (show ¬ (64 < n ∨ 1024 < m) by omega)]; rfl
end Go.Proofs.Ytoblfdloakkmmaa.Pure

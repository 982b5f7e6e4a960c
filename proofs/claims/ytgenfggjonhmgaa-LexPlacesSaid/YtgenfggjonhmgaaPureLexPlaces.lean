/- For every text of at most 2000 bytes: where it is read, the words' places do not fall, the last word is the end's, at the text's length; where it errs, no word is handed back and the place lies within the text. No condition. -/
import Derived.Test.YtgenfggjonhmgaaLxN
import Derived.Test.YtgenfggjonhmgaaLxL
import Derived.Test.YtgenfggjonhmgaaMm2
namespace Go.Proofs.Ytgenfggjonhmgaa.Pure
set_option linter.unusedVariables false
open Go.RowKit Go.Proofs.Ytgenfggjonhmgaa.Ml Go.Proofs.Ytgenfggjonhmgaa.Mm Go.Proofs.Ytgenfggjonhmgaa.Lx Go.Proofs.Ytgenfggjonhmgaa.PL Go.Proofs.YtgenfggjonhmgaaW.PrintWords Go.Proofs.YtgenfggjonhmgaaW.PrintLast Go.Proofs.YtgenfggjonhmgaaW.PrintMore
theorem rd28_nat (l : List S28) (i : Nat) (h : i < l.length) : rd_T28 l (i : Int) = l[i] := by
  unfold rd_T28
  rw [Int.toNat_natCast, List.getD_eq_getElem?_getD, List.getElem?_eq_getElem h]; rfl
theorem places_l0 (l : List S28) (hm : l.Pairwise (fun a b => a.f2 ≤ b.f2)) (hb : l.length ≤ 100000) : ∀ (n i : Nat), 1 ≤ i → i + n = l.length → ∀ k, n + 7 ≤ k → pantrylaw22_LexPlaces.l0 k l (i : Int) = some true := by
  intro n
  induction n with
  | zero =>
    intro i h1 hi k hk
    obtain ⟨k, rfl⟩ : ∃ q, k = q + 1 := ⟨k - 1, by omega⟩
    simp only [pantrylaw22_LexPlaces.l0]
    exact jf (by omega) (known_t k (by omega))
  | succ n ih =>
    intro i h1 hi k hk
    obtain ⟨k, rfl⟩ : ∃ q, k = q + 1 := ⟨k - 1, by omega⟩
    simp only [pantrylaw22_LexPlaces.l0]
    have e1 : wrap64 ((i : Int) - 1) = ((i - 1 : Nat) : Int) := by rw [w64 (by omega) (by omega)]; omega
    have e2 : wrap64 ((i : Int) + 1) = ((i + 1 : Nat) : Int) := by rw [w64 (by omega) (by omega)]; omega
    rw [e1, e2]
    refine it (by omega) (it (by omega) (it (by omega) (it (by omega) ?_)))
    rw [rd28_nat l i (by omega), rd28_nat l (i - 1) (by omega)]
    have := List.pairwise_iff_getElem.1 hm (i - 1) i (by omega) (by omega) (by omega)
    exact jf (by omega) (ih (i + 1) (by omega) (by omega) k (by omega))
theorem LexPlaces : pantrylaw22_LexPlaces.Pure := by
  intro a0 h0
  by_cases c1 : (a0.size : Int) > 2000
  · refine ⟨1, ?_⟩
    unfold pantrylaw22_LexPlaces.f
    exact it c1 rfl
  · rcases places (s := a0) (by omega) with ⟨he, h1, h2⟩ | ⟨he, hm⟩
    · refine ⟨7, ?_⟩
      unfold pantrylaw22_LexPlaces.f
      exact jf c1 (bd (congrArg some he) (jf (show ¬ ((24 : Int) = 0) by decide) (it (show (24 : Int) = 24 from rfl) (it h1 (it h2 (it rfl (known_t 7 (by omega))))))))
    · have hl : (endS a0).l.length ≤ 90000 := by
        have hE := (end_ind (s := a0) (by omega) (fun _ => True) trivial (fun _ _ _ _ => trivial)).2.1
        have := hE.ll; have := hE.le; omega
      obtain ⟨l, hl2⟩ : ∃ l, (endS a0).l = l := ⟨_, rfl⟩
      rw [hl2] at he hm hl
      have hL : (l ++ [(⟨9, ⟨#[]⟩, (a0.size : Int)⟩ : S28)]).length = l.length + 1 := by rw [List.length_append, List.length_singleton]
      refine ⟨l.length + 9, ?_⟩
      unfold pantrylaw22_LexPlaces.f
      refine jf c1 (bd (congrArg some he) (it (show (0 : Int) = 0 from rfl) (it (show (0 : Int) = 0 from rfl) ?_)))
      show (if ((l ++ [(⟨9, ⟨#[]⟩, (a0.size : Int)⟩ : S28)]).length : Int) = 0 then _ else _) = _
      have e : wrap64 (((l ++ [(⟨9, ⟨#[]⟩, (a0.size : Int)⟩ : S28)]).length : Int) - 1) = (l.length : Int) := by rw [hL, w64 (by omega) (by omega)]; omega
      have hr : rd_T28 (l ++ [(⟨9, ⟨#[]⟩, (a0.size : Int)⟩ : S28)]) (l.length : Int) = ⟨9, ⟨#[]⟩, (a0.size : Int)⟩ := by
        rw [rd28_nat _ _ (by rw [hL]; omega)]; simp
      refine jf (by rw [hL]; omega) ?_
      show (if 0 ≤ wrap64 (((l ++ [(⟨9, ⟨#[]⟩, (a0.size : Int)⟩ : S28)]).length : Int) - 1) then _ else _) = _
      rw [e, hr]
      refine it (by omega) (it (show (l.length : Int) < ((l ++ [(⟨9, ⟨#[]⟩, (a0.size : Int)⟩ : S28)]).length : Int) by rw [hL]; omega) (it rfl ?_))
      show pantrylaw22_LexPlaces.j0 _ _ ((a0.size : Int) != (a0.size : Int)) = _
      rw [show ((a0.size : Int) != (a0.size : Int)) = false by simp]
      simp only [pantrylaw22_LexPlaces.j0]
      exact jf (by simp) (places_l0 _ hm (by rw [hL]; omega) l.length 1 (Nat.le_refl _) (by rw [hL]; omega) (l.length + 8) (by omega))
end Go.Proofs.Ytgenfggjonhmgaa.Pure

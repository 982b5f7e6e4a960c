/- lex: what every statement of this chapter ends with: one text that is known. Own work. -/
import Derived.Test.YtgenfggjonhmgaaMm1
import Derived.Test.YtgenfggjonhmgaaLxKn
namespace Go.Proofs.Ytgenfggjonhmgaa.Lx
set_option linter.unusedVariables false
set_option linter.unusedSimpArgs false
open Go.RowKit Go.Proofs.Ytgenfggjonhmgaa.Ml Go.Proofs.Ytgenfggjonhmgaa.Mm Go.Proofs.Ytgenfggjonhmgaa.PL Go.Proofs.YtgenfggjonhmgaaW.PrintWords Go.Proofs.YtgenfggjonhmgaaW.PrintLast Go.Proofs.YtgenfggjonhmgaaW.PrintMore
theorem mono_le {α : Type} {f : Nat → Option α} (hm : ∀ k, LeO (f k) (f (k + 1))) {r : α} {k : Nat} (h : f k = some r) : ∀ j, k ≤ j → f j = some r := by
  intro j hj
  obtain ⟨d, rfl⟩ : ∃ d, j = k + d := ⟨j - k, by omega⟩
  clear hj
  induction d with
  | zero => exact h
  | succ d ih => exact hm _ r ih
theorem known_6 : pantrylaw22_known.f 6 = some true := by
  unfold pantrylaw22_known.f
  refine bd (x := ([⟨2, ⟨#[97]⟩, 0⟩, ⟨4, ⟨#[43]⟩, 2⟩, ⟨1, ⟨#[49]⟩, 4⟩, ⟨9, ⟨#[]⟩, 5⟩], 0, 0)) (congrArg some lexS_known) ?_
  refine it rfl (it rfl (bd (x := true) ?_ rfl))
  kernel_rfl
theorem known_ev (k : Nat) (h : 6 ≤ k) : pantrylaw22_known.f k = some true := mono_le pantrylaw22_known.mono known_6 k h
theorem known_t (k : Nat) (h : 6 ≤ k) : (pantrylaw22_known.f k).bind (fun t => some t) = some true := bd (known_ev k h) rfl
end Go.Proofs.Ytgenfggjonhmgaa.Lx
